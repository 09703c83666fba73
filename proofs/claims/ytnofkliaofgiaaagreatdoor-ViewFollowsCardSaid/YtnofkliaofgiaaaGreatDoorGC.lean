/-
  The plain model of an account: what the program's store does, as functions of data alone. No program in sight. The plain account: its mailboxes as maps, what holds of every account that the steps make. What holds of every account that the steps make: kept by each of them. What holds of every account, kept by the other steps: Keys, Make, Rename, Drop, Destroy, Place. What holds of every account, ke
-/
import Derived.Test.YtnofkliaofgiaaaGreatDoorGA
import Derived.Test.YtnofkliaofgiaaaGreatDoorGB
set_option maxRecDepth 100000
set_option maxHeartbeats 8000000
open Go.Proofs.Tryz
open Bool renaming or_eq_true→Rb
open Go renaming TypeId→Pa,Value→Oe,World→Oc
open Go.Ending renaming returned→RR
open Go.Lib renaming compact→Po,compactUpTo→Rc
open Go.RowKit renaming Below→Od
open Go.RowKit.Below renaming refl→Ok
open Go.Sort renaming ahead→Rf
open Go.Value renaming slice→RO,int→P5
open Go.Value.slice renaming injEq→PH
open Int renaming le_refl→Py
open List renaming any_eq_true→Ps,append_assoc→O4,append_nil→Pr,cons_append→PO,eq_nil_of_length_eq_zero→Oi,eraseP_cons_of_neg→P7,eraseP_cons_of_pos→Rj,eraseP_sublist→Rq,filter_sublist→PA,find?_cons_of_neg→Pb,find?_cons_of_pos→PN,find?_isSome→RA,foldl_cons→Pm,getElem?_map→O5,getElem_of_mem→Pg,length_append→Oo,length_cons→OT,length_map→Ow,length_singleton→Pf,map_append→OQ,map_congr_left→PQ,map_cons→OY,map_map→PS,mem_append→OO,mem_append_left→PJ,mem_cons→OB,mem_cons_of_mem→OP,mem_filter→OZ,mem_map→OL,mem_map_of_mem→OV,mem_of_find?_eq_some→O2,mem_singleton→OI,nil_append→PE,nodup_append→P6,nodup_cons→P8,pairwise_cons→Pc,pairwise_iff_getElem→PF,pairwise_map→P0,replicate→Pi,take_of_length_le→Ou
open List.Pairwise renaming nil→Rz
open Nat renaming le_refl→Oq
open Option.some renaming inj→O6,injEq→Pk
open _root_ renaming List→Ob,Option→OC,UInt8→Oz,getElem!_pos→PD,if_neg→Om,if_pos→OG
namespace Go.Proofs.YtnofkliaofgiaaaGreatDoor
section
abbrev yx:=Ob Oz
structure xA where
 id:Int
 name:yx
 zB:Int
 valid:Int
 next:Int
 mod:Int
 deriving DecidableEq,Inhabited
structure zR where
 id:Int
 thread:Int
 text:yx
 at_:Int
 keys:Ob yx
 zr:Ob (Int×Int)
 mod:Int
 born:Int
 deriving DecidableEq,Inhabited
structure Ud where
 user:yx
 pass:yx
 xb:Int
 xl:Int
 yA:Int
 vC:Int
 ym:Int
 uF:Int
 CJ:Int
 deriving DecidableEq,Inhabited
structure Acc where
 N3:Ud
 zA:Int
 zg:Ob xA
 zC:Ob zR
 log:Vq
 zS:Int
 zN:Int
 zP:Int
def yU {α:Type}(p:α→Bool):Ob α→Int
 |[]=>-1
 |x :: r=>if p x then 0 else if yU p r < 0 then -1 else yU p r+1
def bL (x:Int):Ob Int→Ob Int
 |[]=>[x]
 |y :: r=>if x < y then x :: y :: r else if x=y then y :: r else y :: bL x r
def rise (l:Ob Int):Ob Int:=l.foldl (fun acc x=>bL x acc) []
def xK (id:Int)(f:xA→xA):Ob xA→Ob xA
 |[]=>[]
 |b :: r=>if b.id=id then f b :: r else b :: xK id f r
def xC (id:Int)(l:Ob xA):Int:=yU (fun b=>decide (b.id=id)) l
def zZ (l:Ob xA)(id:Int):Bool:=l.any fun b=>decide (b.id=id)
def zI (mod:Int)(ids:Ob Int)(l:Ob xA):Ob xA:=ids.foldl (fun bs id=>xK id (fun b=>{b with mod:=mod}) bs) l
def zX (mod:Int)(ids:Ob Int):Ob E4:=ids.map fun id=>⟨mod,1,id,2⟩
def yb (l:Ob xA)(id:Int):Int:=match l.find? (fun b=>decide (b.id=id)) with
 |some b=>b.next
 |none=>0
def JR (id:Int)(l:Ob xA):Ob xA:=xK id (fun b=>{b with next:=b.next+1}) l
def zM (ids:Ob Int)(l:Ob xA):Ob xA×Ob (Int×Int):=ids.foldl (fun s id=>(JR id s.1,s.2++[(id,yb s.1 id)])) (l,[])
def Acc.ends (x:Acc):Bool:=decide (x.N3.ym≤x.zA)
def Acc.spent (x:Acc)(id:Int):Bool:=decide (x.N3.vC < yb x.zg id)
def Z3:yx:=[73,78,66,79,88]
def YY:yx:=[36,115,101,101,110]
def xT (x:Acc)(name:yx)(zB but:Int):Int:=
 if zB≠0∧zZ x.zg zB=false then 6
 else if (zB=0∧Zn name=Zn Z3)∨x.zg.any (fun b=>decide (b.id≠but) && (decide (b.zB=zB) && decide (b.name=name)))=true then 5
 else if x.N3.xl≤((x.zg.filter fun b=>decide (b.id≠but)).length:Int) then 8
 else 0
def uL (l:Ob xA)(top:Int):Nat→Int→Bool
 |0,_=>false
 |f+1,id=>if id=top then true else match l.find? (fun b=>decide (b.id=id)) with
  |none=>false
  |some b=>uL l top f b.zB
def ue (right:yx→Bool)(x:Acc)(name:yx)(zB:Int):Acc×Int×Int:=
 if right name=false then (x,0,1)
 else if xT x name zB 0≠0 then (x,0,xT x name zB 0)
 else if x.ends then (x,0,11)
 else ({x with zA:=x.zA+1,zS:=x.zS+1,zg:=x.zg++[⟨x.zS+1,name,zB,x.zA+1,1,x.zA+1⟩],log:=x.log.add [⟨x.zA+1,1,x.zS+1,1⟩]},x.zS+1,0)
def yB (right:yx→Bool)(x:Acc)(id:Int)(name:yx)(zB:Int):Acc×Int:=
 match x.zg.find? (fun b=>decide (b.id=id)) with
 |none=>(x,6)
 |some b=>
  if right name=false∨id=1 then (x,1)
  else if xT x name zB id≠0 then (x,xT x name zB id)
  else if uL x.zg id (x.zg.length+1) zB then (x,10)
  else if b.name=name∧b.zB=zB then (x,0)
  else if x.ends then (x,11)
  else ({x with zA:=x.zA+1,zg:=zI (x.zA+1) [id] (xK id (fun b=>{b with name:=name,zB:=zB}) x.zg),log:=x.log.add (zX (x.zA+1) [id])},0)
def uK (m:zR)(id:Int):Bool:=m.zr.any fun p=>decide (p.1=id)
def vR (x:Acc)(id:Int):Acc×Int:=
 if zZ x.zg id=false then (x,6)
 else if id=1 then (x,1)
 else if x.zg.any (fun b=>decide (b.zB=id))||x.zC.any (fun m=>uK m id) then (x,10)
 else if x.ends then (x,11)
 else ({x with zA:=x.zA+1,zg:=x.zg.eraseIdx (xC id x.zg).toNat,log:=x.log.add [⟨x.zA+1,1,id,3⟩]},0)
def uN (head:yx→yx→yx)(x:Acc)(t:yx):Int:=
 if head t [105,110,45,114,101,112,108,121,45,116,111]=[] then 0
 else match x.zC.find? (fun m=>decide (head m.text [109,101,115,115,97,103,101,45,105,100]=head t [105,110,45,114,101,112,108,121,45,116,111])) with
  |some m=>m.thread
  |none=>0
def xO (head:yx→yx→yx)(x:Acc)(zg:Ob Int)(kf:Ob yx×Int)(at_:Int)(t:yx):Acc×Int×Int:=
 if zg=[]∨at_ < 0∨253402300799 < at_ then (x,0,1)
 else if kf.2≠0 then (x,0,kf.2)
 else if (rise zg).any (fun id=>!zZ x.zg id) then (x,0,6)
 else if x.N3.xb≤(x.zC.length:Int)∨x.N3.yA - x.zP < (t.length:Int) then (x,0,8)
 else if x.ends||(rise zg).any x.spent then (x,0,11)
 else
  let id:=x.zN+1
  let mod:=x.zA+1
  let th:=uN head x t
  let n:=zM (rise zg) x.zg
  ({x with zA:=mod,zN:=id,zg:=zI mod (rise zg) n.1,zP:=x.zP+t.length,zC:=x.zC++[⟨id,if th=0 then id else th,t,at_,kf.1,n.2,mod,mod⟩],log:=x.log.add (zX mod (rise zg)++[⟨mod,2,id,1⟩,⟨mod,3,if th=0 then id else th,if th=0 then 1 else 2⟩])},id,0)
def ya (head:yx→yx→yx)(x:Acc)(zg:Ob Int)(keys:Ob yx)(at_:Int)(t:yx):Acc×Int×Int:=xO head x zg (yz keys) at_ t
def Z4 (id:Int)(l:Ob zR):Int:=yU (fun m=>decide (m.id=id)) l
def xz (id:Int)(f:zR→zR):Ob zR→Ob zR
 |[]=>[]
 |m :: r=>if m.id=id then f m :: r else m :: xz id f r
def VN (x:Acc)(id:Int)(kf:Ob yx×Int):Acc×Int:=
 match x.zC.find? (fun m=>decide (m.id=id)) with
 |none=>(x,6)
 |some m=>
  if kf.2≠0 then (x,kf.2)
  else if kf.1=m.keys then (x,0)
  else if x.ends then (x,11)
  else
   let mod:=x.zA+1
   let ids:=if decide (YY∈kf.1)≠decide (YY∈m.keys) then rise (m.zr.map (·.1)) else []
   ({x with zA:=mod,zg:=zI mod ids x.zg,zC:=xz id (fun m=>{m with keys:=kf.1,mod:=mod}) x.zC,log:=x.log.add (zX mod ids++[⟨mod,2,id,2⟩])},0)
def vx (x:Acc)(id:Int)(keys:Ob yx):Acc×Int:=VN x id (yz keys)
def BU (p:Int×Int):Ob (Int×Int)→Ob (Int×Int)
 |[]=>[p]
 |q :: r=>if p.1 < q.1 then p :: q :: r else q :: BU p r
def Z9 (l:Ob (Int×Int)):Ob (Int×Int):=l.foldl (fun acc p=>BU p acc) []
def xn (x:Acc)(id:Int)(zg:Ob Int):Acc×Int:=
 match x.zC.find? (fun m=>decide (m.id=id)) with
 |none=>(x,6)
 |some m=>
  if zg=[] then (x,1)
  else if (rise zg).any (fun id=>!zZ x.zg id) then (x,6)
  else
   let was:=m.zr.map (·.1)
   let fresh:=(rise zg).filter fun b=>!decide (b∈was)
   let left:=was.filter fun b=>!decide (b∈rise zg)
   if fresh.length+left.length=0 then (x,0)
   else if x.ends||fresh.any x.spent then (x,11)
   else
    let mod:=x.zA+1
    let n:=zM fresh x.zg
    ({x with zA:=mod,zg:=zI mod (rise (left++fresh)) n.1,zC:=xz id (fun m=>{m with zr:=Z9 ((m.zr.filter fun p=>!decide (p.1∈left))++n.2),mod:=mod}) x.zC,log:=x.log.add (zX mod (rise (left++fresh))++[⟨mod,2,id,2⟩])},0)
def yQ (x:Acc)(id:Int):Acc×Int:=
 match x.zC.find? (fun m=>decide (m.id=id)) with
 |none=>(x,6)
 |some m=>
  if x.ends then (x,11)
  else
   let mod:=x.zA+1
   let rest:=x.zC.eraseIdx (Z4 id x.zC).toNat
   let how:=if rest.any (fun y=>decide (y.thread=m.thread)) then 2 else 3
   let ids:=rise (m.zr.map (·.1))
   ({x with zA:=mod,zg:=zI mod ids x.zg,zC:=rest,zP:=x.zP - m.text.length,log:=x.log.add (zX mod ids++[⟨mod,2,id,3⟩,⟨mod,3,m.thread,how⟩])},0)
def Yt (c:Ud):Acc:=⟨c,1,[⟨1,Z3,0,1,1,1⟩],[],⟨c.uF,[],0⟩,1,0,0⟩
def ids (l:Ob xA):Ob Int:=l.map (·.id)
theorem uv (l:Ob xA)(id:Int):zZ l id=true↔id∈ids l:=by
 simp[zZ,ids]
/-! ### The first of an Id -/
theorem Xm (id:Int)(f:xA→xA):∀l,(xK id f l).length=l.length
 |[]=>rfl
 |b :: r=>by
  unfold xK
  split
  ·rfl
  ·rw[OT,OT,Xm id f r]
theorem Yd (id:Int)(f:xA→xA):∀l,(ids l).Nodup→xK id f l=l.map (fun b=>if b.id=id then f b else b)
 |[],_=>rfl
 |b :: r,h=>by
  have h':b.id∉ids r∧(ids r).Nodup:=aR
  by_cases he:b.id=id
  ·have hr:∀c∈r,¬c.id=id:=fun c hc e=>h'.1 (by rw[he,←e];exact OV hc)
   rw[xK,OG he,OY,OG he]
   congr 1
   conv=>lhs;rw[←List.map_id r]
   exact PQ fun c hc=>by simp[hr c hc]
  ·rw[xK,Om he,OY,Om he,Yd id f r h'.2]
theorem U5 (l:Ob xA)(f:xA→xA)(hf:∀b,(f b).id=b.id):ids (l.map f)=ids l:=by
 simp only[ids,PS]
 exact PQ fun b _=>hf b
theorem UM (mod:Int):∀(is:Ob Int) (l:Ob xA),(ids l).Nodup→zI mod is l=l.map (fun b=>if b.id∈is then {b with mod:=mod} else b)
 |[],l,_=>by simp[zI]
 |i :: r,l,h=>by
  have h1:=Yd i (fun b=>{b with mod:=mod}) l h
  have h2:zI mod (i :: r) l=zI mod r (xK i (fun b=>{b with mod:=mod}) l):=rfl
  rw[h2,h1,UM mod r _ (by rw[U5];exact h;intro b;split <;> rfl),PS]
  refine PQ fun b _=>?_
  by_cases hb:b.id=i
  ·by_cases hr:b.id∈r
   ·simp[hb]
   ·simp[hb]
  ·simp[hb]
theorem ux {l:Ob xA}(h:(ids l).Nodup){b:xA}(hb:b∈l):yb l b.id=b.next:=by
 have:l.find? (fun c=>decide (c.id=b.id))=some b:=by
  induction l with
  |nil=>cases hb
  |cons c r ih=>
   have d:c.id∉ids r∧(ids r).Nodup:=aR
   rcases OB.1 hb with rfl|hb
   ·simp
   ·have a:¬c.id=b.id:=fun e=>d.1 (by rw[e];exact OV hb)
    rw[Pb (by simpa using a)]
    exact ih d.2 hb
 rw[yb,this]
def xE (is:Ob Int)(l:Ob xA):Ob xA:=l.map fun b=>if b.id∈is then {b with next:=b.next+1} else b
theorem Ym (is:Ob Int)(l:Ob xA):ids (xE is l)=ids l:=U5 l _ fun b=>by split <;> rfl
theorem U9 {l:Ob xA}(h:(ids l).Nodup)(i j:Int)(hij:i≠j):yb (JR i l) j=yb l j:=by
 rw[JR,Yd _ _ _ h]
 unfold yb
 induction l with
 |nil=>rfl
 |cons c r ih=>
  have b:c.id∉ids r∧(ids r).Nodup:=aR
  by_cases hc:c.id=j
  ·have a:¬c.id=i:=fun e=>hij (e.symm.trans hc)
   subst hc
   simp[a]
  ·have h1:¬(if c.id=i then {c with next:=c.next+1} else c).id=j:=by
    split
    ·exact hc
    ·exact hc
   rw[OY,Pb xv,Pb vM]
   exact ih b.2
theorem J3:∀(is:Ob Int) (l:Ob xA) (acc:Ob (Int×Int)),(ids l).Nodup→is.Nodup→
  is.foldl (fun s id=>(JR id s.1,s.2++[(id,yb s.1 id)])) (l,acc)=(xE is l,acc++is.map fun id=>(id,yb l id))
 |[],l,acc,_,_=>by simp[xE]
 |i :: r,l,acc,h,hn=>by
  have hn':i∉r∧r.Nodup:=by simpa using hn
  have d:JR i l=l.map (fun b=>if b.id=i then {b with next:=b.next+1} else b):=Yd i _ l h
  have c:(ids (JR i l)).Nodup:=by rw[d,U5];exact h;intro b;split <;> rfl
  rw[Pm,J3 r (JR i l) _ c hn'.2]
  refine Prod.ext ?_ ?_
  ·simp only[xE]
   rw[d,PS]
   refine PQ fun b _=>?_
   by_cases a:b.id=i
   ·subst a
    simp[hn'.1]
   ·simp[a]
  ·simp only[O4,OY,PO,PE]
   congr 2
   exact PQ fun j hj=>by rw[U9 h i j (fun e=>hn'.1 (e ▸ hj))]
theorem vT (is:Ob Int)(l:Ob xA)(h:(ids l).Nodup)(hn:is.Nodup):zM is l=(xE is l,is.map fun id=>(id,yb l id)):=by
 unfold zM
 rw[J3 is l [] h hn,PE]
/-! ### Rising zM -/
theorem eJ (x y:Int):∀l,y∈bL x l↔y=x∨y∈l
 |[]=>by simp[bL]
 |z :: r=>by
  unfold bL
  split
  ·simp
  ·split
   ·rename_i h;subst h;simp
   ·simp only[OB,eJ x y r]
    exact Kg
theorem QL (x:Int):∀l:Ob Int,l.Pairwise (· < ·)→(bL x l).Pairwise (· < ·)
 |[],_=>by simp[bL]
 |z :: r,h=>by
  obtain⟨h1,h2⟩:=Pc.1 h
  unfold bL
  split
  ·rename_i hx
   exact F2
  ·split
   ·exact h
   ·refine Pc.2 ⟨fun y hy=>?_,QL x r h2⟩
    rcases(eJ x y r).1 hy with rfl|hy
    ·omega
    ·exact h1 y hy
theorem QZ:∀(l acc:Ob Int),acc.Pairwise (· < ·)→(l.foldl (fun acc x=>bL x acc) acc).Pairwise (· < ·)∧∀y,y∈l.foldl (fun acc x=>bL x acc) acc↔y∈acc∨y∈l
 |[],acc,h=>ZE
 |x :: r,acc,h=>by
  obtain⟨h1,h2⟩:=QZ r (bL x acc) (QL x acc h)
  refine⟨h1,fun y=>?_⟩
  rw[Pm,h2,eJ,OB]
  exact Ni
theorem vY (l:Ob Int):(rise l).Pairwise (· < ·):=(QZ l [] Rz).1
theorem uU (l:Ob Int)(y:Int):y∈rise l↔y∈l:=by
 have:=(QZ l [] Rz).2 y
 simpa[rise] using this
theorem vS {l:Ob Int}(h:l.Pairwise (· < ·)):l.Nodup:=h.imp fun hab=>O
theorem xZ (l:Ob Int):(rise l).Nodup:=vS (vY l)
theorem Zs:∀{l m:Ob Int},l.Pairwise (· < ·)→m.Pairwise (· < ·)→(∀y,y∈l↔y∈m)→l=m
 |[],[],_,_,_=>rfl
 |[],y :: m,_,_,h=>pD
 |x :: l,[],_,_,h=>pE
 |x :: l,y :: m,hl,hm,h=>by
  obtain⟨a1,a2⟩:=Pc.1 hl
  obtain⟨b1,b2⟩:=Pc.1 hm
  have hxy:x=y:=by
   exact M9
  subst hxy
  rw[Zs a2 b2 fun z=>?_]
  exact MG
theorem Q0 {l:Ob Int}(h:l.Pairwise (· < ·)):rise l=l:=Zs (vY l) h (uU l)
theorem xG (l:Ob Int):(rise l).length≤l.length:=by
 have h:∀(l a:Ob Int),(l.foldl (fun a x=>bL x a) a).length≤a.length+l.length:=by
  intro l
  induction l with
  |nil=>intro a;simp
  |cons x r ih=>
   intro a
   have b:=ih (bL x a)
   have c:(bL x a).length≤a.length+1:=by
    clear b ih
    induction a with
    |nil=>simp[bL]
    |cons y a ih2=>
     unfold bL
     split
     ·simp
     ·split
      ·simp
      ·simp only[OT];omega
   rw[Pm,OT]
   omega
 simpa[rise] using h l []
structure rK (c:Ud):Prop where
 zC:1≤c.xb∧c.xb≤2147483647
 zg:1≤c.xl∧c.xl≤2147483647
 size:1≤c.yA∧c.yA≤2147483647
 uid:1≤c.vC∧c.vC≤2147483647
 mod:1≤c.ym∧c.ym≤2147483647
 log:1≤c.uF∧c.uF≤2147483647
 get:1≤c.CJ∧c.CJ≤2147483647
structure Km (c:Ud)(last:Int)(b:xA):Prop where
 id:1≤b.id∧b.id≤last
 next:1≤b.next∧b.next≤c.vC+1
 name:b.name.length≤64
structure Qr (bs:Ob xA)(l:Ob (Int×Int)):Prop where
 some_:l≠[]
 rising:(l.map (·.1)).Pairwise (· < ·)
 each:∀p∈l,p.1∈ids bs∧1≤p.2∧p.2 < yb bs p.1
structure Qq (bs:Ob xA)(last:Int)(m:zR):Prop where
 id:1≤m.id∧m.id≤last
 keys:m.keys.length≤16
 mem:Qr bs m.zr
def ZR (l:Ob zR):Int:=((l.map fun m=>m.text.length).sum:Nat)
theorem ZT (a b:Ob zR):ZR (a++b)=ZR a+ZR b:=by simp[ZR]
theorem Q8 (m:zR):ZR [m]=m.text.length:=by simp[ZR]
theorem xo (l:Ob zR):0≤ZR l:=Int.natCast_nonneg _
theorem Q7 {l:Ob zR}{m:zR}(h:m∈l):(m.text.length:Int)≤ZR l:=by
 obtain⟨a,b,rfl⟩:=List.append_of_mem h
 rw[ZT,show m :: b=[m]++b from rfl,ZT,Q8]
 have:=xo a
 have:=xo b
 omega
structure Fit (x:Acc):Prop where
 N3:rK x.N3
 zA:1≤x.zA∧x.zA≤x.N3.ym
 zS:1≤x.zS∧x.zS≤x.zA
 zN:0≤x.zN∧x.zN≤x.zA
 nb:(x.zg.length:Int)≤x.zA
 nm:(x.zC.length:Int)≤x.zA
 idsB:(ids x.zg).Nodup
 box:∀b∈x.zg,Km x.N3 x.zS b
 idsM:(x.zC.map (·.id)).Nodup
 mail:∀m∈x.zC,Qq x.zg x.zN m
 zP:x.zP=ZR x.zC∧x.zP≤x.N3.yA
 log:x.log.most=x.N3.uF∧(x.log.es.length:Int)≤x.N3.uF
structure xR (c:Ud)(l l':Ob xA):Prop where
 ids:ids l'=ids l
 ok:∀last,(∀b∈l,Km c last b)→∀b∈l',Km c last b
 next:∀i,yb l i≤yb l' i
theorem xR.refl (c:Ud)(l:Ob xA):xR c l l:=⟨rfl,fun _ h=>h,fun _=>Py _⟩
theorem xR.length {c:Ud}{l l':Ob xA}(h:xR c l l'):l'.length=l.length:=by
 have:=congrArg List.length h.ids
 simpa[Proofs.YtnofkliaofgiaaaGreatDoor.ids] using this
theorem xR.trans {c:Ud}{l l' l'':Ob xA}(h:xR c l l')(k:xR c l' l''):xR c l l'':=
 ⟨k.ids.trans h.ids,fun last hl=>k.ok last (h.ok last hl),fun i=>Int.le_trans (h.next i) (k.next i)⟩
theorem cW (l:Ob xA)(f:xA→xA)(hf:∀b,(f b).id=b.id)(hn:∀b∈l,b.next≤(f b).next):∀i,yb l i≤yb (l.map f) i:=by
 intro i
 induction l with
 |nil=>exact Py _
 |cons b r ih=>
  unfold yb
  by_cases hb:b.id=i
  ·have h1:(f b).id=i:=(hf b).trans hb
   rw[OY,PN xQ,PN xv]
   exact hn b zv
  ·have h1:¬(f b).id=i:=fun e=>hb ((hf b).symm.trans e)
   rw[OY,Pb xQ,Pb xv]
   exact ih fun b hb=>hn b (by simp[hb])
theorem Qy (c:Ud)(l:Ob xA)(f:xA→xA)(hf:∀b,(f b).id=b.id)(hn:∀b∈l,b.next≤(f b).next)(hm:∀b∈l,(f b).next≤c.vC+1∨(f b).next=b.next)(hs:∀b∈l,(f b).name=b.name):xR c l (l.map f):=by
 refine⟨U5 l f hf,fun last h b hb=>?_,cW l f hf hn⟩
 obtain⟨a,e,rfl⟩:=OL.1 hb
 have d:=h a e
 have g:=hn a e
 refine⟨by rw[hf];exact d.id,⟨by have:=d.next.1;omega,?_⟩,by rw[hs a e];exact d.name⟩
 rcases hm a e with h3|h3
 ·exact h3
 ·rw[h3]
  exact d.next.2
theorem xx (c:Ud)(mod:Int)(is:Ob Int)(l:Ob xA)(hn:(ids l).Nodup):xR c l (zI mod is l):=by
 rw[UM mod is l hn]
 refine Qy c l _ (fun b=>by split <;> rfl) (fun b _=>?_) (fun b _=>.inr ?_) (fun b _=>?_) <;> split <;> first|rfl|exact Py _
theorem ZJ (c:Ud)(is:Ob Int)(l:Ob xA)(hs:∀b∈l,b.id∈is→b.next≤c.vC):xR c l (xE is l):=by
 refine Qy c l _ (fun b=>by split <;> rfl) (fun b _=>?_) (fun b hb=>?_) (fun b _=>by split <;> rfl)
 ·split
  ·show b.next≤b.next+1
   omega
  ·exact Py _
 ·split
  ·rename_i h
   have:=hs b hb h
   left
   show b.next+1≤c.vC+1
   omega
  ·exact .inr rfl
theorem Qr.step {c:Ud}{l l':Ob xA}(h:xR c l l'){m:Ob (Int×Int)}(hm:Qr l m):Qr l' m:=
 ⟨hm.some_,hm.rising,fun p hp=>by
  obtain⟨h1,h2,h3⟩:=hm.each p hp
  exact⟨by rw[h.ids];exact h1,h2,Int.lt_of_lt_of_le h3 (h.next _)⟩⟩
theorem Qq.step {c:Ud}{l l':Ob xA}{last:Int}(h:xR c l l'){m:zR}(hm:Qq l last m):Qq l' last m:=⟨hm.id,hm.keys,hm.mem.step h⟩
theorem Qq.later {l:Ob xA}{last last':Int}(h:last≤last'){m:zR}(hm:Qq l last m):Qq l last' m:=⟨⟨hm.id.1,Int.le_trans hm.id.2 h⟩,hm.keys,hm.mem⟩
theorem Zy {c:Ud}{g:Vq}(hc:rK c)(h:g.most=c.uF∧(g.es.length:Int)≤c.uF)(e:Ob E4):(g.add e).most=c.uF∧((g.add e).es.length:Int)≤c.uF:=by
 have a:=g.rP e (by rw[h.1];exact hc.log.1)
 exact⟨a.2.trans h.1,by rw[←h.1];exact a.1⟩
theorem ri {c:Ud}(hc:rK c):Fit (Yt c):=by
 refine⟨hc,⟨Py _,hc.mod.1⟩,⟨Py _,Py _⟩,⟨Py _,by show (0:Int)≤1;decide⟩,by simp[Yt],by simp[Yt],by simp[Yt,ids],fun b hb=>?_,by simp[Yt],fun m hm=>by simp[Yt] at hm,⟨rfl,?_⟩,rfl,?_⟩
 ·obtain rfl:b=⟨1,Z3,0,1,1,1⟩:=by simpa[Yt] using hb
  exact⟨⟨zD,by show (1:Int)≤1;omega⟩,⟨zD,by show (1:Int)≤c.vC+1;have:=hc.uid.1;omega⟩,zD⟩
 ·show (0:Int)≤c.yA
  have:=hc.size.1
  omega
 ·show (([]:Ob E4).length:Int)≤c.uF
  have:=hc.log.1
  simp
  omega
theorem Vy {l:Ob xA}{is:Ob Int}(h:(ids l).Nodup){i:Int}(hi:i∈is)(hl:i∈ids l):yb (xE is l) i=yb l i+1:=by
 obtain⟨b,a,rfl⟩:=OL.1 hl
 have c:({b with next:=b.next+1}:xA)∈xE is l:=OL.2 ⟨b,a,by rw[OG hi]⟩
 have d:=ux (l:=xE is l) (by rw[Ym];exact h) c
 rw[ux h a]
 exact d
theorem uS {l:Ob xA}{is:Ob Int}(h:(rise is).any (fun id=>!zZ l id)=false){i:Int}(hi:i∈rise is):i∈ids l:=by
 have h1:¬(!zZ l i)=true:=fun h2=>by
  have a:(rise is).any (fun id=>!zZ l id)=true:=Ps.2 ⟨i,hi,h2⟩
  rw[h] at a
  cases a
 exact(uv l i).1 xv
theorem Fit.cX {x:Acc}(h:Fit x){i:Int}(hi:i∈ids x.zg):1≤yb x.zg i:=by
 obtain⟨b,a,rfl⟩:=OL.1 hi
 rw[ux h.idsB a]
 exact(h.box b a).next.1
theorem Qx (head:yx→yx→yx){x:Acc}(h:Fit x)(zg:Ob Int)(keys:Ob yx)(at_:Int)(t:yx)(hk:(yz keys).1.length≤16):Fit (ya head x zg keys at_ t).1:=by
 unfold ya xO
 split
 ·exact h
 ·rename_i hb
  split
  ·exact h
  ·split
   ·exact h
   ·rename_i hhas
    split
    ·exact h
    ·rename_i hfull
     split
     ·exact h
     ·rename_i hend
      simp only[Rb,not_or,Bool.not_eq_true] at hend
      obtain⟨j,k⟩:=hend
      have c:x.zA+1≤x.N3.ym:=by
       have:¬x.N3.ym≤x.zA:=by simpa[Acc.ends] using j
       omega
      have l:(rise zg).any (fun id=>!zZ x.zg id)=false:=by simpa using hhas
      have d:∀i∈rise zg,yb x.zg i≤x.N3.vC:=by
       intro i o
       have h1:¬x.spent i=true:=fun g=>by
        have y:(rise zg).any x.spent=true:=Ps.2 ⟨i,o,g⟩
        rw[k] at y
        cases y
       have A:¬x.N3.vC < yb x.zg i:=Jt
       omega
      have q:=vT (rise zg) x.zg h.idsB (xZ zg)
      have w:xR x.N3 x.zg (xE (rise zg) x.zg):=ZJ _ _ _ fun b hb o=>by
       have:=d _ o
       rwa [ux h.idsB hb] at this
      have u:xR x.N3 (xE (rise zg) x.zg) (zI (x.zA+1) (rise zg) (xE (rise zg) x.zg)):=xx _ _ _ _ fT
      have s:=w.trans u
      have v:zg≠[]:=fun e=>hb (.inl e)
      simp only[q]
      refine⟨h.N3,⟨V1,c⟩,⟨h.zS.1,Js⟩,⟨by have:=h.zN.1;show 0≤x.zN+1;omega,by have:=h.zN.2;show x.zN+1≤x.zA+1;omega⟩,?_,?_,?_,?_,?_,?_,?_,Zy h.N3 h.log _⟩
      ·have:=h.nb
       show ((zI (x.zA+1) (rise zg) (xE (rise zg) x.zg)).length:Int)≤x.zA+1
       rw[s.length]
       omega
      ·have:=h.nm
       show ((x.zC++[_]).length:Int)≤x.zA+1
       rw[Oo,Pf]
       omega
      ·show (ids (zI (x.zA+1) (rise zg) (xE (rise zg) x.zg))).Nodup
       rw[s.ids]
       exact h.idsB
      ·exact s.ok _ h.box
      ·show ((x.zC++[_]).map zR.id).Nodup
       rw[OQ,P6]
       refine⟨h.idsM,zv,fun a ha b hb=>?_⟩
       obtain⟨m,f,rfl⟩:=OL.1 ha
       have h1:=(h.mail m f).id.2
       have g:b=x.zN+1:=xQ
       rw[g]
       omega
      ·intro m f
       rcases OO.1 f with f|f
       ·exact((h.mail m f).step s).later (by show x.zN≤x.zN+1;omega)
       ·rw[OI] at f
        subst f
        refine⟨⟨by have:=h.zN.1;show 1≤x.zN+1;omega,Py _⟩,hk,?_⟩
        refine⟨?_,?_,fun p hp=>?_⟩
        ·intro e
         obtain⟨i,r,z⟩:∃i r,zg=i :: r:=by
          cases zg with
          |nil=>exact absurd rfl v
          |cons i r=>exact⟨i,r,rfl⟩
         have h1:i∈rise zg:=(uU zg i).2 (by rw[z];simp)
         have g:rise zg=[]:=by simpa using e
         rw[g] at h1
         cases h1
        ·show (((rise zg).map fun id=>(id,yb x.zg id)).map (·.1)).Pairwise (· < ·)
         rw[PS]
         have:(rise zg).map ((fun p:Int×Int=>p.1) ∘fun id=>(id,yb x.zg id))=rise zg:=by
          conv=>rhs;rw[←List.map_id (rise zg)]
          exact PQ fun _ _=>rfl
         rw[this]
         exact vY zg
        ·obtain⟨i,o,rfl⟩:=OL.1 hp
         have n:=uS l o
         refine⟨by show i∈ids (zI (x.zA+1) (rise zg) (xE (rise zg) x.zg));rw[s.ids];exact n,h.cX n,?_⟩
         have h1:=Vy h.idsB o n
         have g:=u.next i
         show yb x.zg i < yb (zI (x.zA+1) (rise zg) (xE (rise zg) x.zg)) i
         omega
      ·have h1:=h.zP
       have g:¬x.N3.yA - x.zP < (t.length:Int):=fun e=>hfull (.inr e)
       refine⟨?_,?_⟩
       ·show x.zP+t.length=ZR (x.zC++[_])
        rw[ZT,Q8,h1.1]
       ·show x.zP+t.length≤x.N3.yA
        omega
def Zb (l:Ob zR):Ob Int:=l.map zR.id
theorem Q4 (id:Int)(f:zR→zR)(hf:∀m,(f m).id=m.id):∀l,Zb (xz id f l)=Zb l
 |[]=>rfl
 |m :: r=>by
  unfold xz
  split
  ·simp[Zb,hf]
  ·simp only[Zb,OY] at *
   rw[show (xz id f r).map zR.id=r.map zR.id from Q4 id f hf r]
theorem VA (id:Int)(f:zR→zR):∀l,(xz id f l).length=l.length
 |[]=>rfl
 |m :: r=>by
  unfold xz
  split
  ·rfl
  ·rw[OT,OT,VA id f r]
theorem Zc {id:Int}{f:zR→zR}:∀{l:Ob zR} {m:zR},m∈xz id f l→m∈l∨∃a,l.find? (fun m=>decide (m.id=id))=some a∧m=f a
 |[],m,h=>by simp[xz] at h
 |a :: r,m,h=>by
  unfold xz at h
  split at h
  ·rename_i he
   rcases OB.1 h with rfl|h
   ·exact .inr ⟨a,by simp[he],rfl⟩
   ·exact .inl ZE
  ·rename_i he
   rcases OB.1 h with rfl|h
   ·exact .inl zv
   ·rcases Zc h with h|⟨b,hb,rfl⟩
    ·exact .inl ZE
    ·exact .inr ⟨b,by rw[Pb Ju];exact hb,rfl⟩
theorem UG (id:Int)(f:zR→zR)(hf:∀m,(f m).text=m.text):∀l,ZR (xz id f l)=ZR l
 |[]=>rfl
 |m :: r=>by
  have h1:∀(a:zR) (l:Ob zR),ZR (a :: l)=a.text.length+ZR l:=fun a l=>by simp[ZR]
  unfold xz
  split
  ·rw[h1,h1,hf]
  ·rw[h1,h1,UG id f hf r]
theorem B8 {x:Acc}(h:Fit x)(id:Int)(keys:Ob yx)(hk:(yz keys).1.length≤16):Fit (vx x id keys).1:=by
 unfold vx VN
 split
 ·exact h
 ·rename_i m hm
  split
  ·exact h
  ·split
   ·exact h
   ·split
    ·exact h
    ·rename_i hend
     have c:x.zA+1≤x.N3.ym:=by
      exact aO
     simp only[]
     generalize f:(if (decide (YY∈(yz keys).fst)≠decide (YY∈m.keys)) then rise (m.zr.map (·.1)) else ([]:Ob Int))=is
     have d:xR x.N3 x.zg (zI (x.zA+1) is x.zg):=xx _ _ _ _ h.idsB
     refine⟨h.N3,⟨V1,c⟩,⟨h.zS.1,Js⟩,⟨h.zN.1,Jv⟩,?_,?_,?_,d.ok _ h.box,?_,?_,?_,Zy h.N3 h.log _⟩
     ·have:=h.nb
      show ((zI (x.zA+1) is x.zg).length:Int)≤x.zA+1
      rw[d.length]
      omega
     ·exact Hc
     ·show (ids (zI (x.zA+1) is x.zg)).Nodup
      rw[d.ids]
      exact h.idsB
     ·exact G3
     ·intro a e
      rcases Zc e with e|⟨b,hb,rfl⟩
      ·exact(h.mail a e).step d
      ·have h1:=(h.mail b (O2 hb)).step d
       exact⟨h1.id,hk,h1.mem⟩
     ·exact FO
theorem Uz {l:Ob xA}{b:xA}{i:Int}(hi:i∈ids l):yb (l++[b]) i=yb l i:=by
 unfold yb
 rw[List.find?_append]
 obtain⟨c,a,rfl⟩:=OL.1 hi
 have:(l.find? (fun b=>decide (b.id=c.id))).isSome=true:=by
  rw[RA]
  exact⟨c,a,zv⟩
 obtain⟨d,e⟩:=Option.isSome_iff_exists.1 this
 rw[e]
 rfl
theorem CH (right:yx→Bool)(hr:∀t,right t=true→t.length≤64){x:Acc}(h:Fit x)(name:yx)(zB:Int):Fit (ue right x name zB).1:=by
 unfold ue
 split
 ·exact h
 ·rename_i hright
  split
  ·exact h
  ·split
   ·exact h
   ·rename_i hend
    have e:x.zA+1≤x.N3.ym:=by
     exact aO
    have f:name.length≤64:=hr name (by simpa using hright)
    refine⟨h.N3,⟨V1,e⟩,⟨by have:=h.zS.1;show 1≤x.zS+1;omega,by have:=h.zS.2;show x.zS+1≤x.zA+1;omega⟩,⟨h.zN.1,Jv⟩,?_,?_,?_,?_,h.idsM,?_,h.zP,Zy h.N3 h.log _⟩
    ·have:=h.nb
     show ((x.zg++[_]).length:Int)≤x.zA+1
     rw[Oo,Pf]
     omega
    ·have:=h.nm
     show (x.zC.length:Int)≤x.zA+1
     omega
    ·show (ids (x.zg++[_])).Nodup
     unfold ids
     rw[OQ,P6]
     refine⟨h.idsB,zv,fun a ha b hb=>?_⟩
     obtain⟨c,k,rfl⟩:=OL.1 ha
     have d:=(h.box c k).id.2
     have g:b=x.zS+1:=xQ
     rw[g]
     omega
    ·intro b hb
     rcases OO.1 hb with hb|hb
     ·have d:=h.box b hb
      exact⟨⟨d.id.1,by have:=d.id.2;show b.id≤x.zS+1;omega⟩,d.next,d.name⟩
     ·rw[OI] at hb
      subst hb
      exact⟨⟨by have:=h.zS.1;show 1≤x.zS+1;omega,Py _⟩,⟨Py _,by have:=h.N3.uid.1;show (1:Int)≤x.N3.vC+1;omega⟩,f⟩
    ·intro m l
     have d:=h.mail m l
     refine⟨d.id,d.keys,d.mem.some_,d.mem.rising,fun p hp=>?_⟩
     obtain⟨g,i,j⟩:=d.mem.each p hp
     refine⟨?_,i,?_⟩
     ·show p.1∈ids (x.zg++[_])
      unfold ids
      rw[OQ]
      exact PJ _ g
     ·show p.2 < yb (x.zg++[_]) p.1
      rw[Uz g]
      exact j
theorem Qz (c:Ud)(id:Int)(name:yx)(zB:Int)(hl:name.length≤64)(l:Ob xA)(hn:(ids l).Nodup):xR c l (xK id (fun b=>{b with name:=name,zB:=zB}) l):=by
 rw[Yd _ _ _ hn]
 refine⟨U5 l _ (fun b=>by split <;> rfl),fun last h b hb=>?_,cW l _ (fun b=>by split <;> rfl) (fun b _=>by split <;> exact Py _)⟩
 obtain⟨a,e,rfl⟩:=OL.1 hb
 have d:=h a e
 split
 ·exact⟨d.id,d.next,hl⟩
 ·exact d
theorem nR (right:yx→Bool)(hr:∀t,right t=true→t.length≤64){x:Acc}(h:Fit x)(id:Int)(name:yx)(zB:Int):Fit (yB right x id name zB).1:=by
 unfold yB
 split
 ·exact h
 ·split
  ·exact h
  ·rename_i hright
   split
   ·exact h
   ·split
    ·exact h
    ·split
     ·exact h
     ·split
      ·exact h
      ·rename_i hend
       have a:x.zA+1≤x.N3.ym:=by
        exact aO
       have c:name.length≤64:=hr name (by
        have:¬right name=false:=fun e=>hright (.inl e)
        simpa using this)
       have d:=Qz x.N3 id name zB c x.zg h.idsB
       have g:=xx x.N3 (x.zA+1) [id] _ (show (ids (xK id (fun b=>{b with name:=name,zB:=zB}) x.zg)).Nodup by rw[d.ids];exact h.idsB)
       have f:=d.trans g
       refine⟨h.N3,⟨V1,a⟩,⟨h.zS.1,Js⟩,⟨h.zN.1,Jv⟩,?_,?_,?_,f.ok _ h.box,h.idsM,fun m hm=>(h.mail m hm).step f,h.zP,Zy h.N3 h.log _⟩
       ·have:=h.nb
        show ((zI (x.zA+1) [id] _).length:Int)≤x.zA+1
        rw[f.length]
        omega
       ·have:=h.nm
        show (x.zC.length:Int)≤x.zA+1
        omega
       ·show (ids (zI (x.zA+1) [id] _)).Nodup
        rw[f.ids]
        exact h.idsB
theorem QV {α:Type}(p:α→Bool):∀l:Ob α,l.any p=true→0≤yU p l
 |[],h=>by simp at h
 |x :: r,h=>by
  unfold yU
  split
  ·exact Py _
  ·rename_i hx
   have h1:r.any p=true:=by simpa[hx] using h
   have:=QV p r h1
   split <;> omega
theorem UC {α:Type}(p:α→Bool):∀l:Ob α,l.any p=false→yU p l= -1
 |[],_=>rfl
 |x :: r,h=>by
  have h1:p x=false∧r.any p=false:=vZ
  unfold yU
  rw[UC p r h1.2]
  simp[h1.1]
theorem uu {α:Type}(p:α→Bool):∀l:Ob α,l.any p=true→l.eraseIdx (yU p l).toNat=l.eraseP p
 |[],h=>by simp at h
 |x :: r,h=>by
  unfold yU
  by_cases hx:p x=true
  ·simp[hx]
  ·have h1:r.any p=true:=by simpa[hx] using h
   have a:=QV p r h1
   rw[Om hx,Om O,P7 (by simpa using hx),←uu p r h1,show (yU p r+1).toNat=(yU p r).toNat+1 from by omega]
   rfl
theorem Xi {id i:Int}(hi:i≠id):∀l:Ob xA,yb (l.eraseP fun b=>decide (b.id=id)) i=yb l i
 |[]=>rfl
 |b :: r=>by
  by_cases hb:b.id=id
  ·have h1:¬b.id=i:=fun e=>hi (e.symm.trans hb)
   rw[Rj xQ]
   unfold yb
   rw[Pb xv]
  ·rw[P7 xQ]
   have ih:=Xi hi r
   unfold yb at ih ⊢
   by_cases h1:b.id=i
   ·rw[PN xv,PN xv]
   ·rw[Pb xv,Pb xv]
    exact ih
theorem U4 {id i:Int}(hi:i≠id):∀l:Ob xA,i∈ids l→i∈ids (l.eraseP fun b=>decide (b.id=id))
 |[],h=>h
 |b :: r,h=>by
  have h':i=b.id∨i∈ids r:=aR
  by_cases hb:b.id=id
  ·rw[Rj xQ]
   rcases h' with h'|h'
   ·exact absurd (h'.trans hb) hi
   ·exact h'
  ·rw[P7 xQ]
   rcases h' with h'|h'
   ·simp[ids,h']
   ·have:=U4 hi r h'
    simp only[ids,OY,OB] at this ⊢
    exact .inr this
theorem AR {x:Acc}(h:Fit x)(id:Int):Fit (vR x id).1:=by
 unfold vR
 split
 ·exact h
 ·rename_i hhas
  split
  ·exact h
  ·split
   ·exact h
   ·rename_i hbusy
    split
    ·exact h
    ·rename_i hend
     have c:x.zA+1≤x.N3.ym:=by
      exact aO
     have f:x.zg.any (fun b=>decide (b.id=id))=true:=by
      have:¬zZ x.zg id=false:=hhas
      simpa[zZ] using this
     have r:x.zg.eraseIdx (xC id x.zg).toNat=x.zg.eraseP fun b=>decide (b.id=id):=uu _ _ f
     have k:∀m∈x.zC,∀p∈m.zr,p.1≠id:=by
      intro m i p j e
      apply hbusy
      rw[Rb]
      exact .inr (Ps.2 ⟨m,i,Ps.2 ⟨p,j,by simpa using e⟩⟩)
     have a:=Rq (l:=x.zg) (p:=fun b=>decide (b.id=id))
     simp only[r]
     refine⟨h.N3,⟨V1,c⟩,⟨h.zS.1,Js⟩,⟨h.zN.1,Jv⟩,?_,?_,?_,fun b hb=>h.box b (a.subset hb),h.idsM,?_,h.zP,Zy h.N3 h.log _⟩
     ·have:=h.nb
      have:=a.length_le
      show ((x.zg.eraseP _).length:Int)≤x.zA+1
      omega
     ·have:=h.nm
      show (x.zC.length:Int)≤x.zA+1
      omega
     ·exact(a.map _).nodup h.idsB
     ·intro m i
      have d:=h.mail m i
      refine⟨d.id,d.keys,d.mem.some_,d.mem.rising,fun p j=>?_⟩
      obtain⟨n,o,q⟩:=d.mem.each p j
      have g:=k m i p j
      exact⟨U4 g _ n,o,by show p.2 < yb (x.zg.eraseP _) p.1;rw[Xi g];exact q⟩
theorem J8 (p:zR→Bool):∀(l:Ob zR) (m:zR),l.find? p=some m→ZR (l.eraseP p)=ZR l - m.text.length
 |[],m,h=>by simp at h
 |a :: r,m,h=>by
  have h1:∀(a:zR) (l:Ob zR),ZR (a :: l)=a.text.length+ZR l:=fun a l=>by simp[ZR]
  by_cases ha:p a=true
  ·rw[PN ha] at h
   obtain rfl:=O6 h
   rw[Rj ha,h1]
   omega
  ·rw[Pb ha] at h
   rw[P7 ha,h1,h1,J8 p r m h]
   omega
theorem JV {x:Acc}(h:Fit x)(id:Int):Fit (yQ x id).1:=by
 unfold yQ
 split
 ·exact h
 ·rename_i m hm
  split
  ·exact h
  ·rename_i hend
   have c:x.zA+1≤x.N3.ym:=by
    exact aO
   have d:x.zC.any (fun m=>decide (m.id=id))=true:=Ps.2 ⟨m,O2 hm,List.find?_some (p:=fun m:zR=>decide (m.id=id)) hm⟩
   have i:x.zC.eraseIdx (Z4 id x.zC).toNat=x.zC.eraseP fun m=>decide (m.id=id):=uu _ _ d
   have b:=Rq (l:=x.zC) (p:=fun m=>decide (m.id=id))
   simp only[i]
   have e:=xx x.N3 (x.zA+1) (rise (m.zr.map (·.1))) x.zg h.idsB
   refine⟨h.N3,⟨V1,c⟩,⟨h.zS.1,Js⟩,⟨h.zN.1,Jv⟩,?_,?_,?_,e.ok _ h.box,?_,fun a ha=>(h.mail a (b.subset ha)).step e,?_,Zy h.N3 h.log _⟩
   ·have:=h.nb
    show ((zI (x.zA+1) _ x.zg).length:Int)≤x.zA+1
    rw[e.length]
    omega
   ·have:=h.nm
    have:=b.length_le
    show ((x.zC.eraseP _).length:Int)≤x.zA+1
    omega
   ·show (ids (zI (x.zA+1) _ x.zg)).Nodup
    rw[e.ids]
    exact h.idsB
   ·exact(b.map _).nodup h.idsM
   ·have f:=h.zP
    have g:=J8 (fun m=>decide (m.id=id)) x.zC m hm
    refine⟨?_,?_⟩
    ·show x.zP - m.text.length=ZR (x.zC.eraseP _)
     rw[g,f.1]
    ·show x.zP - m.text.length≤x.N3.yA
     omega
theorem Qm (p q:Int×Int):∀l,q∈BU p l↔q=p∨q∈l
 |[]=>by simp[BU]
 |z :: r=>by
  unfold BU
  split
  ·simp
  ·simp only[OB,Qm p q r]
   exact Kg
theorem QM (p:Int×Int):∀l:Ob (Int×Int),l.Pairwise (fun a b=>a.1 < b.1)→(∀q∈l,q.1≠p.1)→(BU p l).Pairwise (fun a b=>a.1 < b.1)
 |[],_,_=>by simp[BU]
 |z :: r,h,hn=>by
  obtain⟨h1,h2⟩:=Pc.1 h
  unfold BU
  split
  ·rename_i hx
   exact F2
  ·rename_i hx
   have hz:=hn z zv
   refine Pc.2 ⟨fun y hy=>?_,QM p r h2 fun q hq=>hn q (by simp[hq])⟩
   rcases(Qm p y r).1 hy with rfl|hy
   ·omega
   ·exact h1 y hy
theorem dP:∀(l acc:Ob (Int×Int)),acc.Pairwise (fun a b=>a.1 < b.1)→(l.map (·.1)).Nodup→(∀q∈acc,q.1∉l.map (·.1))→
  (l.foldl (fun acc p=>BU p acc) acc).Pairwise (fun a b=>a.1 < b.1)∧∀q,q∈l.foldl (fun acc p=>BU p acc) acc↔q∈acc∨q∈l
 |[],acc,h,_,_=>ZE
 |p :: r,acc,h,hn,hd=>by
  have hn':p.1∉r.map (·.1)∧(r.map (·.1)).Nodup:=by
   rw[OY,P8] at hn
   exact hn
  have c:∀q∈acc,q.1≠p.1:=fun q hq e=>hd q hq (by rw[OY,e];simp)
  obtain⟨d,f⟩:=dP r (BU p acc) (QM p acc h c) hn'.2 (fun q hq=>by
   rcases(Qm p q acc).1 hq with rfl|hq
   ·exact hn'.1
   ·exact fun e=>hd q hq (by rw[OY];exact OP _ e))
  refine⟨d,fun q=>?_⟩
  rw[Pm,f,Qm,OB]
  exact Ni
theorem UH {l:Ob (Int×Int)}(h:(l.map (·.1)).Nodup):(Z9 l).Pairwise (fun a b=>a.1 < b.1)∧∀q,q∈Z9 l↔q∈l:=by
 obtain⟨c,d⟩:=dP l [] Rz h zv
 exact⟨c,fun q=>by simpa[Z9] using d q⟩
def nI (bs:Ob xA)(m:Ob (Int×Int))(zg:Ob Int):Ob (Int×Int):=
 Z9 ((m.filter fun p=>!decide (p.1∈(m.map (·.1)).filter fun b=>!decide (b∈rise zg)))++((rise zg).filter fun b=>!decide (b∈m.map (·.1))).map fun id=>(id,yb bs id))
theorem XY {bs:Ob xA}{m:Ob (Int×Int)}{zg:Ob Int}(hm:Qr bs m) :
  (((m.filter fun p=>!decide (p.1∈(m.map (·.1)).filter fun b=>!decide (b∈rise zg)))++((rise zg).filter fun b=>!decide (b∈m.map (·.1))).map fun id=>(id,yb bs id)).map (·.1)).Nodup:=by
 rw[OQ,P6]
 refine⟨((PA (l:=m)).map (·.1)).nodup (vS hm.rising),?_,fun a ha b hb=>?_⟩
 ·rw[PS]
  have:(((rise zg).filter fun b=>!decide (b∈m.map (·.1))).map ((fun p:Int×Int=>p.1) ∘fun id=>(id,yb bs id)))=(rise zg).filter fun b=>!decide (b∈m.map (·.1)):=by
   conv=>rhs;rw[←List.map_id ((rise zg).filter _)]
   exact PQ fun _ _=>rfl
  rw[this]
  exact(PA (l:=rise zg)).nodup (xZ zg)
 ·rintro rfl
  obtain⟨p,h,rfl⟩:=OL.1 ha
  obtain⟨q,j,d⟩:=OL.1 hb
  obtain⟨i,g,rfl⟩:=OL.1 j
  have e:p.1∈m.map (·.1):=OV (OZ.1 h).1
  have c:=(OZ.1 g).2
  have f:i=p.1:=d
  rw[f] at c
  simp only[Bool.not_eq_true',decide_eq_false_iff_not] at c
  exact c e
theorem CV {c:Ud}{bs bs':Ob xA}{m:Ob (Int×Int)}{zg:Ob Int}(hm:Qr bs m)(hne:zg≠[])(hin:∀i∈rise zg,i∈ids bs)(hs:xR c bs bs')(hpos:∀i∈ids bs,1≤yb bs i)(hb:∀i∈rise zg,i∉m.map (·.1)→yb bs i < yb bs' i):Qr bs' (nI bs m zg):=by
 have g:=XY (bs:=bs) (zg:=zg) hm
 obtain⟨l,d⟩:=UH g
 refine⟨?_,?_,fun p h=>?_⟩
 ·obtain⟨i,f⟩:∃i,i∈zg:=by
   cases zg with
   |nil=>exact absurd rfl hne
   |cons i r=>exact⟨i,zv⟩
  have j:=(uU zg i).2 f
  intro e
  by_cases k:i∈m.map (·.1)
  ·obtain⟨p,h,rfl⟩:=OL.1 k
   have a:p∈nI bs m zg:=(d p).2 (PJ _ (OZ.2 ⟨h,by simp[j]⟩))
   rw[e] at a
   cases a
  ·have a:(i,yb bs i)∈nI bs m zg:=(d _).2 (List.mem_append_right _ (OL.2 ⟨i,OZ.2 ⟨j,by simpa using k⟩,rfl⟩))
   rw[e] at a
   cases a
 ·rw[P0]
  exact l
 ·rcases OO.1 ((d p).1 h) with a|a
  ·exact(hm.step hs).each p (OZ.1 a).1
  ·obtain⟨i,f,rfl⟩:=OL.1 a
   have b:=OZ.1 f
   have n:i∉m.map (·.1):=by simpa using b.2
   exact⟨by rw[hs.ids];exact hin i b.1,hpos i (hin i b.1),hb i b.1 n⟩
theorem tL {x:Acc}(h:Fit x)(id:Int)(zg:Ob Int):Fit (xn x id zg).1:=by
 unfold xn
 split
 ·exact h
 ·rename_i m hm
  split
  ·exact h
  ·rename_i hne
   split
   ·exact h
   ·rename_i hhas
    simp only[]
    split
    ·exact h
    ·split
     ·exact h
     ·rename_i hend
      simp only[Rb,not_or,Bool.not_eq_true] at hend
      obtain⟨j,k⟩:=hend
      have f:x.zA+1≤x.N3.ym:=by
       have:¬x.N3.ym≤x.zA:=by simpa[Acc.ends] using j
       omega
      have d:(rise zg).any (fun id=>!zZ x.zg id)=false:=by simpa using hhas
      have u:=O2 hm
      have t:((rise zg).filter fun b=>!decide (b∈m.zr.map (·.1))).Nodup:=(PA (l:=rise zg)).nodup (xZ zg)
      have g:∀i∈(rise zg).filter (fun b=>!decide (b∈m.zr.map (·.1))),yb x.zg i≤x.N3.vC:=by
       intro i e
       have h1:¬x.spent i=true:=fun p=>by
        have q:=Ps.2 ⟨i,e,p⟩
        rw[k] at q
        cases q
       have w:¬x.N3.vC < yb x.zg i:=Jt
       omega
      rw[vT _ x.zg h.idsB t]
      have v:xR x.N3 x.zg (xE ((rise zg).filter fun b=>!decide (b∈m.zr.map (·.1))) x.zg):=ZJ _ _ _ fun b hb e=>by
       have:=g _ e
       rwa [ux h.idsB hb] at this
      generalize y:rise ((m.zr.map (·.1)).filter (fun b=>!decide (b∈rise zg))++(rise zg).filter (fun b=>!decide (b∈m.zr.map (·.1))))=turned
      have o:xR x.N3 (xE ((rise zg).filter fun b=>!decide (b∈m.zr.map (·.1))) x.zg) (zI (x.zA+1) turned (xE ((rise zg).filter fun b=>!decide (b∈m.zr.map (·.1))) x.zg)):=xx _ _ _ _ fT
      have n:=v.trans o
      simp only[]
      refine⟨h.N3,⟨V1,f⟩,⟨h.zS.1,Js⟩,⟨h.zN.1,Jv⟩,?_,?_,?_,n.ok _ h.box,?_,?_,?_,Zy h.N3 h.log _⟩
      ·have:=h.nb
       show ((zI (x.zA+1) turned _).length:Int)≤x.zA+1
       rw[n.length]
       omega
      ·exact Hc
      ·show (ids (zI (x.zA+1) turned _)).Nodup
       rw[n.ids]
       exact h.idsB
      ·exact G3
      ·intro a r
       rcases Zc r with r|⟨b,hb,rfl⟩
       ·exact(h.mail a r).step n
       ·have s:b=m:=by
         rw[hm] at hb
         exact(O6 hb).symm
        subst s
        have h1:=h.mail b u
        refine⟨h1.id,h1.keys,?_⟩
        have p:=CV (c:=x.N3) h1.mem hne (fun i e=>uS d e) n (fun i e=>h.cX e) (fun i e hw=>by
         have q:=Vy (is:=(rise zg).filter fun b_1=>!decide (b_1∈b.zr.map (·.1))) h.idsB (OZ.2 ⟨e,by simpa using hw⟩) (uS d e)
         have w:=o.next i
         omega)
        exact p
      ·exact FO
theorem kQ:∀(l:Ob Int) (a n:Int),l.Pairwise (· < ·)→(∀y∈l,a≤y∧y≤n)→a≤n+1→(l.length:Int)≤n - a+1
 |[],a,n,_,_,h=>zT
 |y :: r,a,n,hp,hb,h=>by
  obtain⟨h1,h2⟩:=Pc.1 hp
  have h3:=hb y zv
  have h4:=kQ r (y+1) n h2 (fun z hz=>⟨by have:=h1 z hz;omega,(hb z (OP _ hz)).2⟩) O
  rw[OT]
  omega
theorem Fit.lW {x:Acc}(h:Fit x){m:zR}(hm:m∈x.zC):m.zr.length≤4294967296:=by
 have g:=h.zA
 have i:=h.N3.mod
 have j:=h.zS
 have a:=(h.mail m hm).mem
 have c:=kQ (m.zr.map (·.1)) 1 x.zS a.rising (fun y hy=>by
  obtain⟨p,f,rfl⟩:=OL.1 hy
  obtain⟨b,d,e⟩:=OL.1 (a.each p f).1
  have:=(h.box b d).id
  rw[e] at this
  exact this) O
 rw[Ow] at c
 omega
theorem Fit.Nz {x:Acc}(h:Fit x){m:zR}(hm:m∈x.zC):∀i∈m.zr.map (·.1),i∈ids x.zg:=by
 intro i a
 obtain⟨p,b,rfl⟩:=OL.1 a
 exact((h.mail m hm).mem.each p b).1
def YK:Ud:=⟨[117],[112],1000,100,1048576,1073741824,1073741824,10000,200⟩
theorem rG:rK YK:=by constructor <;> decide
theorem eX (i:Int):rise [i]=[i]:=rfl
theorem headF_a (name:Ob Oz):yL [97] name=[]:=by
 have h:(vP [97]).1=[]:=zD
 simp[yL,h,uR]
theorem mA (head:yx→yx→yx)(x:Acc)(b:xA)(hb:x.zg=[b])(h1:b.id=1)(keys:Ob yx)(hk:(yz keys).2=0)(at_:Int)(ha:0≤at_)(ha2:at_≤253402300799)(t:yx)(hm:(x.zC.length:Int) < x.N3.xb)(ho:x.zP+t.length≤x.N3.yA)(hc:x.zA < x.N3.ym)(hu:b.next≤x.N3.vC) :
  ya head x [1] keys at_ t=({x with zA:=x.zA+1,zN:=x.zN+1,zg:=[{b with next:=b.next+1,mod:=x.zA+1}],zP:=x.zP+t.length,zC:=x.zC++[⟨x.zN+1,if uN head x t=0 then x.zN+1 else uN head x t,t,at_,(yz keys).1,[(1,b.next)],x.zA+1,x.zA+1⟩],log:=x.log.add [⟨x.zA+1,1,1,2⟩,⟨x.zA+1,2,x.zN+1,1⟩,⟨x.zA+1,3,if uN head x t=0 then x.zN+1 else uN head x t,if uN head x t=0 then 1 else 2⟩]},x.zN+1,0):=by
 have hhas:((rise [1]).any fun id=>!zZ x.zg id)=false:=by
  rw[eX,hb]
  simp[zZ,h1]
 have a:(x.ends||(rise [1]).any x.spent)=false:=by
  rw[eX]
  simp[Acc.ends,Acc.spent,hb,yb,h1]
  omega
 have c:zM [1] x.zg=([{b with next:=b.next+1}],[(1,b.next)]):=by
  rw[hb]
  simp[zM,JR,xK,yb,h1]
 unfold ya xO
 rw[Om zT,Om O,Om Jw,Om O,Om (by rw[a];decide)]
 simp only[eX,c,zI,zX,Pm,List.foldl_nil,xK,h1,if_true,OY,List.map_nil,PO,PE]
end
section
open Go.RowKit Go.Sort
attribute [local go_sem ↓] Go.wp_at_zero Go.wp_at_succ
abbrev yJ:Int→Oe:=P5 .i64
/-! ### The plain law -/
def Jg (l:Ob Int):Ob Int:=l.mergeSort fun x y=>decide (x≤y)
theorem lA (l:Ob Int):(Jg l).length=l.length:=by simp[Jg]
theorem lB (l:Ob Int):(Jg l).Pairwise (·≤·):=by
 have:=List.pairwise_mergeSort (le:=fun x y:Int=>decide (x≤y)) (by intro a b c;simp;exact Int.le_trans) (by intro a b;simp;exact Int.le_total a b) l
 unfold Jg
 simpa using this
theorem CL (l:Ob Int)(x:Int):x∈Jg l↔x∈l:=by simp[Jg]
theorem dS {d:Ob Int}(h:d.Pairwise (·≤·))(i j:Nat)(hij:i≤j)(hj:j < d.length):d.toArray[i]!≤d.toArray[j]!:=by
 rw[PD _ i zT,PD _ j vL]
 simp only[List.getElem_toArray]
 rcases Nat.lt_or_ge i j with h1|h1
 ·exact PF.1 h i j O hj h1
 ·obtain rfl:i=j:=O
  exact Py _
theorem QC {d:Ob Int}(h:d.Pairwise (·≤·)):∀m,m≤d.length→(Rc d.toArray m).Pairwise (· < ·)∧∀x,x∈Rc d.toArray m↔∃j,j < m∧d.toArray[j]! =x
 |0,_=>by simp[Rc]
 |m+1,hm=>by
  obtain⟨h1,h2⟩:=QC h m O
  rw[Lib.compactUpTo_succ]
  by_cases hk:Lib.keeps d.toArray m=true
  ·rw[OG hk]
   refine⟨?_,fun x=>?_⟩
   ·rw[List.pairwise_append]
    refine⟨h1,zv,fun a ha b hb=>?_⟩
    simp only[OI] at hb
    subst hb
    obtain⟨j,hj,rfl⟩:=(h2 a).1 ha
    have hne:d.toArray[m]!≠d.toArray[m - 1]!:=by
     exact Iy
    have c:=dS h j (m - 1) O O
    have e:=dS h (m - 1) m O O
    omega
   ·exact MV
  ·exact Mn
theorem Uk (l:Ob Int):Po (Jg l)=rise l:=by
 obtain⟨a,b⟩:=QC (lB l) (Jg l).length (Oq _)
 refine Zs a (vY l) fun x=>?_
 rw[uU,←CL l x]
 unfold Po
 rw[b]
 constructor
 ·rintro⟨j,hj,rfl⟩
  rw[PD _ j vL]
  simp
 ·intro d
  obtain⟨j,hj,c⟩:=Pg d
  refine⟨j,hj,?_⟩
  rw[PD _ j vL]
  simpa using c
/-! ### In memory -/
section
variable {w w':Oc} {e:Pa} {b off n cap:Nat} {h:OC Nat} {xs:Ob Oe}
theorem iZ (w:Oc)(q:Nat)(d:Array Int)(b off:Nat)(os:Array Obj):NH [b] w (grow (putRow yJ (Rf w q) b off d) os):=by
 exact oO
theorem BJ {cur:Array Oe}(hB:NG w b e cur)(q:Nat)(d:Array Int)(os:Array Obj):NG (grow (putRow yJ (Rf w q) b off d) os) b e (putCells yJ off d cur):=by
 exact oQ
theorem jZ (cur:Array Oe)(d:Array Int)(h:off+d.size≤cur.size):((putCells yJ off d cur).toList.drop off).take d.size=d.toList.map yJ:=by
 exact Mm
theorem Sl.CY (hs:Sl w e 1 (RO (some (Y b off)) n cap) h n xs)(q:Nat)(d:Array Int)(hd:d.size=n)(os:Array Obj) :
  Sl (grow (Sort.putRow yJ (Rf w q) b off d) os) e 1 (RO (some (Y b off)) n cap) h n (d.toList.map yJ):=by
 refine⟨by simp[hd],?_⟩
 rcases hs.2 with⟨_,hv,_⟩|⟨b',off',cap',cur,hh,hv,hB,hnc,hcm,hcs,ht⟩
 ·cases hv
 ·simp only[PH,Pk,Addr.mk.injEq,and_true,true_and] at hv
  obtain⟨⟨rfl,rfl⟩,rfl⟩:=hv
  refine .inr ⟨b,off,cap,_,hh,rfl,BJ hB q d os,hnc,hcm,by simpa[putCells] using hcs,?_⟩
  rw[Nat.mul_one,←hd]
  exact jZ cur d O
theorem Sl.LP {ss:Ob Int}(hs:Sl w e 1 (RO (some (Y b off)) n cap) h n (ss.map yJ)):Holds yJ w b off ss.toArray:=by
 exact Mr
end
theorem kZ (w:Oc)(v:Oe)(h:OC Nat)(n:Nat)(l:Ob Int)(hs:Sl w 3 1 v h n (l.map yJ))(hn:n≤1099511627776) :
  C 146 #[v] w fun e w'=>e=RR (.tuple #[])∧Sl w' 3 1 v h n ((Jg l).map yJ)∧NH h.toList w w':=by
 have a:l.length=n:=Jr
 rcases hs.2 with⟨rfl,rfl,rfl⟩|⟨b,off,cap,cur,rfl,rfl,hB,hnc,hcm,hcs,ht⟩
 ·obtain rfl:l=[]:=Oi a
  refine(Tryz.slices_Sort_int_none none 0 w).mono ?_
  rintro e w' ⟨rfl,rfl⟩
  exact⟨rfl,by simpa[Jg] using hs,NH.refl _ _⟩
 ·have c:=Tryz.slices_Sort_int b off cap l w hs.LP hB.lt O
  rw[a] at c
  refine c.mono ?_
  rintro e w' ⟨rfl,q,f,rfl⟩
  refine⟨rfl,?_,iZ _ _ _ _ _ _⟩
  have d:=hs.CY q (Jg l).toArray (by simp[lA,a]) f
  exact d
theorem JU (w:Oc)(v:Oe)(h:OC Nat)(n:Nat)(l:Ob Int)(hs:Sl w 3 1 v h n (l.map yJ))(hn:n≤1099511627776) :
  C 147 #[v] w fun e w'=>∃v',e=RR v'∧Sl w' 3 1 v' h (Po l).length ((Po l).map yJ)∧NH h.toList w w':=by
 have g:l.length=n:=Jr
 rcases hs.2 with⟨rfl,rfl,rfl⟩|⟨b,off,cap,cur,rfl,rfl,hB,hnc,hcm,hcs,ht⟩
 ·obtain rfl:l=[]:=Oi g
  refine(Tryz.slices_Compact_int_empty none 0 w).mono ?_
  rintro e w' ⟨rfl,rfl⟩
  exact⟨_,rfl,hs,NH.refl _ _⟩
 ·have f:=Tryz.slices_Compact_int b off cap l w hs.LP O O
  rw[g] at f
  have j:=Lib.compact_length_le l
  refine f.mono ?_
  rintro e w' ⟨rfl,q,rfl⟩
  have a:=hs.CY q (Po l++Pi (n - (Po l).length) 0).toArray zT #[]
  have c:=iZ w q (Po l++Pi (n - (Po l).length) 0).toArray b off #[]
  rw[jA] at a c
  refine⟨_,rfl,?_,c⟩
  have d:=a.shrink (Po l).length O
  have i:((Po l++Pi (n - (Po l).length) 0).toArray.toList.map yJ).take ((Po l).length * 1)=(Po l).map yJ:=by
   exact FZ
  rw[i] at d
  exact d
theorem ut (w:Oc)(v:Oe)(l:Ob Int)(S:Ob Nat)(hr:NN w S 1 v l.length (l.map yJ))(hn:l.length≤1099511627776) :
  C 92 #[v] w fun e w'=>∃v' h',e=RR v'∧Sl w' 3 1 v' h' l.length (l.map yJ)∧Od w w w'∧∀b,h'=some b→w.heap.size≤b:=by
 rcases hr.2 with⟨rfl,h0⟩|⟨a,cap,rfl,hnc,hcm,hat⟩
 ·obtain rfl:l=[]:=Oi h0
  refine(Tryz.slices_Clone_int_nil 0 0 w).mono ?_
  rintro e w' ⟨rfl,rfl⟩
  exact⟨_,none,rfl,Sl.nil _ _ _,Ok _ _,fun b d=>by cases d⟩
 ·rcases Nat.eq_zero_or_pos l.length with h0|hpos
  ·obtain rfl:l=[]:=Oi h0
   refine(Tryz.slices_Clone_int_zero a cap w).mono ?_
   rintro e w' ⟨v',rfl,c,_,d⟩
   exact⟨v',v'.ownBlock,rfl,Sl.rk c,d,fun b d=>(c.lt b d).1⟩
  ·obtain⟨b,g,f,k,_,_,i,_,h⟩:=hr.at_ hpos
   rw[k]
   refine(Tryz.slices_Clone_int b g l.length f l w (Oq _) O (fun j hj=>?_)).mono ?_
   ·rw[h j O]
    simp[List.getD,hj]
   ·rintro e w' ⟨v',rfl,c,_,d⟩
    rw[List.take_length] at c
    exact⟨v',v'.ownBlock,rfl,Sl.rk c,d,fun b d=>(c.lt b d).1⟩
end
end Go.Proofs.YtnofkliaofgiaaaGreatDoor
