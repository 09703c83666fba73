/-
  The plain model of an account: what the program's store does, as functions of data alone. No program in sight. The plain account: its mailboxes as maps, what holds of every account that the steps make. What holds of every account that the steps make: kept by each of them. What holds of every account, kept by the other steps: Keys, Make, Rename, Drop, Destroy, Place. What holds of every account, ke
-/
import Derived.Test.YtfhlhdmhgheonaaGreatDoorGA
import Derived.Test.YtfhlhdmhgheonaaGreatDoorGB
set_option maxRecDepth 100000
set_option maxHeartbeats 8000000
namespace Go.Proofs.YtfhlhdmhgheonaaGreatDoor
abbrev Text:=List UInt8
structure yg where
 id:Int
 name:Text
 parent:Int
 valid:Int
 next:Int
 mod:Int
 deriving DecidableEq,Inhabited
structure zX where
 id:Int
 thread:Int
 text:Text
 at_:Int
 keys:List Text
 members:List (Int×Int)
 mod:Int
 born:Int
 deriving DecidableEq,Inhabited
structure Xv where
 user:Text
 pass:Text
 maxMails:Int
 maxBoxes:Int
 maxSize:Int
 maxUid:Int
 maxMod:Int
 maxLog:Int
 maxGet:Int
 deriving DecidableEq,Inhabited
structure Acc where
 cfg:Xv
 clock:Int
 boxes:List yg
 mails:List zX
 log:Yc
 lastBox:Int
 lastId:Int
 octets:Int
def place {α:Type}(p:α→Bool):List α→Int
 |[]=>-1
 |x :: r=>if p x then 0 else if place p r < 0 then -1 else place p r+1
def VT (x:Int):List Int→List Int
 |[]=>[x]
 |y :: r=>if x < y then x :: y :: r else if x=y then y :: r else y :: VT x r
def rise (l:List Int):List Int:=l.foldl (fun acc x=>VT x acc) []
def yE (id:Int)(f:yg→yg):List yg→List yg
 |[]=>[]
 |b :: r=>if b.id=id then f b :: r else b :: yE id f r
def yx (id:Int)(l:List yg):Int:=place (fun b=>decide (b.id=id)) l
def zu (l:List yg)(id:Int):Bool:=l.any fun b=>decide (b.id=id)
def zf (mod:Int)(ids:List Int)(l:List yg):List yg:=ids.foldl (fun bs id=>yE id (fun b=>{b with mod:=mod}) bs) l
def zn (mod:Int)(ids:List Int):List E4:=ids.map fun id=>⟨mod,1,id,2⟩
def zw (l:List yg)(id:Int):Int:=match l.find? (fun b=>decide (b.id=id)) with
 |some b=>b.next
 |none=>0
def bump (id:Int)(l:List yg):List yg:=yE id (fun b=>{b with next:=b.next+1}) l
def numbers (ids:List Int)(l:List yg):List yg×List (Int×Int):=ids.foldl (fun s id=>(bump id s.1,s.2++[(id,zw s.1 id)])) (l,[])
def Acc.ends (x:Acc):Bool:=decide (x.cfg.maxMod≤x.clock)
def Acc.spent (x:Acc)(id:Int):Bool:=decide (x.cfg.maxUid < zw x.boxes id)
def uH:Text:=[73,78,66,79,88]
def ZA:Text:=[36,115,101,101,110]
def yG (x:Acc)(name:Text)(parent but:Int):Int:=
 if parent≠0∧zu x.boxes parent=false then 6
 else if (parent=0∧vP name=vP uH)∨x.boxes.any (fun b=>decide (b.id≠but) && (decide (b.parent=parent) && decide (b.name=name)))=true then 5
 else if x.cfg.maxBoxes≤((x.boxes.filter fun b=>decide (b.id≠but)).length:Int) then 8
 else 0
def xU (l:List yg)(top:Int):Nat→Int→Bool
 |0,_=>false
 |f+1,id=>if id=top then true else match l.find? (fun b=>decide (b.id=id)) with
  |none=>false
  |some b=>xU l top f b.parent
def vE (right:Text→Bool)(x:Acc)(name:Text)(parent:Int):Acc×Int×Int:=
 if right name=false then (x,0,1)
 else if yG x name parent 0≠0 then (x,0,yG x name parent 0)
 else if x.ends then (x,0,11)
 else ({x with clock:=x.clock+1,lastBox:=x.lastBox+1,boxes:=x.boxes++[⟨x.lastBox+1,name,parent,x.clock+1,1,x.clock+1⟩],log:=x.log.add [⟨x.clock+1,1,x.lastBox+1,1⟩]},x.lastBox+1,0)
def zK (right:Text→Bool)(x:Acc)(id:Int)(name:Text)(parent:Int):Acc×Int:=
 match x.boxes.find? (fun b=>decide (b.id=id)) with
 |none=>(x,6)
 |some b=>
  if right name=false∨id=1 then (x,1)
  else if yG x name parent id≠0 then (x,yG x name parent id)
  else if xU x.boxes id (x.boxes.length+1) parent then (x,10)
  else if b.name=name∧b.parent=parent then (x,0)
  else if x.ends then (x,11)
  else ({x with clock:=x.clock+1,boxes:=zf (x.clock+1) [id] (yE id (fun b=>{b with name:=name,parent:=parent}) x.boxes),log:=x.log.add (zn (x.clock+1) [id])},0)
def xZ (m:zX)(id:Int):Bool:=m.members.any fun p=>decide (p.1=id)
def xW (x:Acc)(id:Int):Acc×Int:=
 if zu x.boxes id=false then (x,6)
 else if id=1 then (x,1)
 else if x.boxes.any (fun b=>decide (b.parent=id))||x.mails.any (fun m=>xZ m id) then (x,10)
 else if x.ends then (x,11)
 else ({x with clock:=x.clock+1,boxes:=x.boxes.eraseIdx (yx id x.boxes).toNat,log:=x.log.add [⟨x.clock+1,1,id,3⟩]},0)
def vT (head:Text→Text→Text)(x:Acc)(t:Text):Int:=
 if head t [105,110,45,114,101,112,108,121,45,116,111]=[] then 0
 else match x.mails.find? (fun m=>decide (head m.text [109,101,115,115,97,103,101,45,105,100]=head t [105,110,45,114,101,112,108,121,45,116,111])) with
  |some m=>m.thread
  |none=>0
def yS (head:Text→Text→Text)(x:Acc)(boxes:List Int)(kf:List Text×Int)(at_:Int)(t:Text):Acc×Int×Int:=
 if boxes=[]∨at_ < 0∨253402300799 < at_ then (x,0,1)
 else if kf.2≠0 then (x,0,kf.2)
 else if (rise boxes).any (fun id=>!zu x.boxes id) then (x,0,6)
 else if x.cfg.maxMails≤(x.mails.length:Int)∨x.cfg.maxSize - x.octets < (t.length:Int) then (x,0,8)
 else if x.ends||(rise boxes).any x.spent then (x,0,11)
 else
  let id:=x.lastId+1
  let mod:=x.clock+1
  let th:=vT head x t
  let n:=numbers (rise boxes) x.boxes
  ({x with clock:=mod,lastId:=id,boxes:=zf mod (rise boxes) n.1,octets:=x.octets+t.length,mails:=x.mails++[⟨id,if th=0 then id else th,t,at_,kf.1,n.2,mod,mod⟩],log:=x.log.add (zn mod (rise boxes)++[⟨mod,2,id,1⟩,⟨mod,3,if th=0 then id else th,if th=0 then 1 else 2⟩])},id,0)
def zq (head:Text→Text→Text)(x:Acc)(boxes:List Int)(keys:List Text)(at_:Int)(t:Text):Acc×Int×Int:=yS head x boxes (zG keys) at_ t
def Yi (id:Int)(l:List zX):Int:=place (fun m=>decide (m.id=id)) l
def zZ (id:Int)(f:zX→zX):List zX→List zX
 |[]=>[]
 |m :: r=>if m.id=id then f m :: r else m :: zZ id f r
def Vk (x:Acc)(id:Int)(kf:List Text×Int):Acc×Int:=
 match x.mails.find? (fun m=>decide (m.id=id)) with
 |none=>(x,6)
 |some m=>
  if kf.2≠0 then (x,kf.2)
  else if kf.1=m.keys then (x,0)
  else if x.ends then (x,11)
  else
   let mod:=x.clock+1
   let ids:=if decide (ZA∈kf.1)≠decide (ZA∈m.keys) then rise (m.members.map (·.1)) else []
   ({x with clock:=mod,boxes:=zf mod ids x.boxes,mails:=zZ id (fun m=>{m with keys:=kf.1,mod:=mod}) x.mails,log:=x.log.add (zn mod ids++[⟨mod,2,id,2⟩])},0)
def xM (x:Acc)(id:Int)(keys:List Text):Acc×Int:=Vk x id (zG keys)
def zcJ (p:Int×Int):List (Int×Int)→List (Int×Int)
 |[]=>[p]
 |q :: r=>if p.1 < q.1 then p :: q :: r else q :: zcJ p r
def uL (l:List (Int×Int)):List (Int×Int):=l.foldl (fun acc p=>zcJ p acc) []
def yB (x:Acc)(id:Int)(boxes:List Int):Acc×Int:=
 match x.mails.find? (fun m=>decide (m.id=id)) with
 |none=>(x,6)
 |some m=>
  if boxes=[] then (x,1)
  else if (rise boxes).any (fun id=>!zu x.boxes id) then (x,6)
  else
   let was:=m.members.map (·.1)
   let fresh:=(rise boxes).filter fun b=>!decide (b∈was)
   let left:=was.filter fun b=>!decide (b∈rise boxes)
   if fresh.length+left.length=0 then (x,0)
   else if x.ends||fresh.any x.spent then (x,11)
   else
    let mod:=x.clock+1
    let n:=numbers fresh x.boxes
    ({x with clock:=mod,boxes:=zf mod (rise (left++fresh)) n.1,mails:=zZ id (fun m=>{m with members:=uL ((m.members.filter fun p=>!decide (p.1∈left))++n.2),mod:=mod}) x.mails,log:=x.log.add (zn mod (rise (left++fresh))++[⟨mod,2,id,2⟩])},0)
def yh (x:Acc)(id:Int):Acc×Int:=
 match x.mails.find? (fun m=>decide (m.id=id)) with
 |none=>(x,6)
 |some m=>
  if x.ends then (x,11)
  else
   let mod:=x.clock+1
   let rest:=x.mails.eraseIdx (Yi id x.mails).toNat
   let how:=if rest.any (fun y=>decide (y.thread=m.thread)) then 2 else 3
   let ids:=rise (m.members.map (·.1))
   ({x with clock:=mod,boxes:=zf mod ids x.boxes,mails:=rest,octets:=x.octets - m.text.length,log:=x.log.add (zn mod ids++[⟨mod,2,id,3⟩,⟨mod,3,m.thread,how⟩])},0)
def newP (c:Xv):Acc:=⟨c,1,[⟨1,uH,0,1,1,1⟩],[],⟨c.maxLog,[],0⟩,1,0,0⟩
def ids (l:List yg):List Int:=l.map (·.id)
theorem yU (l:List yg)(id:Int):zu l id=true↔id∈ids l:=by
 simp[zu,ids]
/-! ### The first of an Id -/
theorem ZO (id:Int)(f:yg→yg):∀l,(yE id f l).length=l.length
 |[]=>rfl
 |b :: r=>by
  unfold yE
  split
  ·rfl
  ·rw[List.length_cons,List.length_cons,ZO id f r]
theorem zaF (id:Int)(f:yg→yg):∀l,id∉ids l→yE id f l=l
 |[],_=>rfl
 |b :: r,h=>by
  have h1:¬b.id=id:=fun e=>h (by simp[ids,e])
  have h2:id∉ids r:=fun e=>h (by simp only[ids,List.map_cons,List.mem_cons];exact .inr e)
  rw[yE,if_neg h1,zaF id f r h2]
theorem ZH (id:Int)(f:yg→yg):∀l,(ids l).Nodup→yE id f l=l.map (fun b=>if b.id=id then f b else b)
 |[],_=>rfl
 |b :: r,h=>by
  have h':b.id∉ids r∧(ids r).Nodup:=by simpa[ids] using h
  by_cases a:b.id=id
  ·have d:∀c∈r,¬c.id=id:=fun c hc e=>h'.1 (by rw[a,←e];exact List.mem_map_of_mem hc)
   rw[yE,if_pos a,List.map_cons,if_pos a]
   congr 1
   conv=>lhs;rw[←List.map_id r]
   exact List.map_congr_left fun c hc=>by simp[d c hc]
  ·rw[yE,if_neg a,List.map_cons,if_neg a,ZH id f r h'.2]
theorem VH (l:List yg)(f:yg→yg)(hf:∀b,(f b).id=b.id):ids (l.map f)=ids l:=by
 simp only[ids,List.map_map]
 exact List.map_congr_left fun b _=>hf b
theorem Xb (mod:Int):∀(is:List Int) (l:List yg),(ids l).Nodup→zf mod is l=l.map (fun b=>if b.id∈is then {b with mod:=mod} else b)
 |[],l,_=>by simp[zf]
 |i :: r,l,h=>by
  have h1:=ZH i (fun b=>{b with mod:=mod}) l h
  have h2:zf mod (i :: r) l=zf mod r (yE i (fun b=>{b with mod:=mod}) l):=rfl
  rw[h2,h1,Xb mod r _ (by rw[VH];exact h;intro b;split <;> rfl),List.map_map]
  refine List.map_congr_left fun b _=>?_
  by_cases hb:b.id=i
  ·by_cases hr:b.id∈r
   ·simp[hb]
   ·simp[hb]
  ·simp[hb]
theorem vY {l:List yg}(h:(ids l).Nodup){b:yg}(hb:b∈l):zw l b.id=b.next:=by
 have:l.find? (fun c=>decide (c.id=b.id))=some b:=by
  induction l with
  |nil=>cases hb
  |cons c r ih=>
   have d:c.id∉ids r∧(ids r).Nodup:=by simpa[ids] using h
   rcases List.mem_cons.1 hb with rfl|hb
   ·simp
   ·have a:¬c.id=b.id:=fun e=>d.1 (by rw[e];exact List.mem_map_of_mem hb)
    rw[List.find?_cons_of_neg (by simpa using a)]
    exact ih d.2 hb
 rw[zw,this]
def y8 (is:List Int)(l:List yg):List yg:=l.map fun b=>if b.id∈is then {b with next:=b.next+1} else b
theorem uW (is:List Int)(l:List yg):ids (y8 is l)=ids l:=VH l _ fun b=>by split <;> rfl
theorem Xp {l:List yg}(h:(ids l).Nodup)(i j:Int)(hij:i≠j):zw (bump i l) j=zw l j:=by
 rw[bump,ZH _ _ _ h]
 unfold zw
 induction l with
 |nil=>rfl
 |cons c r ih=>
  have d:c.id∉ids r∧(ids r).Nodup:=by simpa[ids] using h
  by_cases a:c.id=j
  ·have b:¬c.id=i:=fun e=>hij (e.symm.trans a)
   subst a
   simp[b]
  ·have f:¬(if c.id=i then {c with next:=c.next+1} else c).id=j:=by
    split
    ·exact a
    ·exact a
   rw[List.map_cons,List.find?_cons_of_neg (by simpa using f),List.find?_cons_of_neg (by simpa using a)]
   exact ih d.2
theorem XA:∀(is:List Int) (l:List yg) (acc:List (Int×Int)),(ids l).Nodup→is.Nodup→
  is.foldl (fun s id=>(bump id s.1,s.2++[(id,zw s.1 id)])) (l,acc)=(y8 is l,acc++is.map fun id=>(id,zw l id))
 |[],l,acc,_,_=>by simp[y8]
 |i :: r,l,acc,h,hn=>by
  have hn':i∉r∧r.Nodup:=by simpa using hn
  have d:bump i l=l.map (fun b=>if b.id=i then {b with next:=b.next+1} else b):=ZH i _ l h
  have c:(ids (bump i l)).Nodup:=by rw[d,VH];exact h;intro b;split <;> rfl
  rw[List.foldl_cons,XA r (bump i l) _ c hn'.2]
  refine Prod.ext ?_ ?_
  ·simp only[y8]
   rw[d,List.map_map]
   refine List.map_congr_left fun b _=>?_
   by_cases a:b.id=i
   ·subst a
    simp[hn'.1]
   ·simp[a]
  ·simp only[List.append_assoc,List.map_cons,List.cons_append,List.nil_append]
   congr 2
   exact List.map_congr_left fun j hj=>by rw[Xp h i j (fun e=>hn'.1 (e ▸ hj))]
theorem vN (is:List Int)(l:List yg)(h:(ids l).Nodup)(hn:is.Nodup):numbers is l=(y8 is l,is.map fun id=>(id,zw l id)):=by
 unfold numbers
 rw[XA is l [] h hn,List.nil_append]
/-! ### Rising numbers -/
theorem Jm (x y:Int):∀l,y∈VT x l↔y=x∨y∈l
 |[]=>by simp[VT]
 |z :: r=>by
  unfold VT
  split
  ·simp
  ·split
   ·rename_i h;subst h;simp
   ·simp only[List.mem_cons,Jm x y r]
    constructor
    ·rintro(h|h|h)
     ·exact .inr (.inl h)
     ·exact .inl h
     ·exact .inr (.inr h)
    ·rintro(h|h|h)
     ·exact .inr (.inl h)
     ·exact .inl h
     ·exact .inr (.inr h)
theorem VB (x:Int):∀l:List Int,l.Pairwise (· < ·)→(VT x l).Pairwise (· < ·)
 |[],_=>by simp[VT]
 |z :: r,h=>by
  obtain⟨h1,h2⟩:=List.pairwise_cons.1 h
  unfold VT
  split
  ·rename_i hx
   refine List.pairwise_cons.2 ⟨fun y hy=>?_,h⟩
   rcases List.mem_cons.1 hy with rfl|hy
   ·exact hx
   ·have:=h1 y hy
    omega
  ·split
   ·exact h
   ·refine List.pairwise_cons.2 ⟨fun y hy=>?_,VB x r h2⟩
    rcases(Jm x y r).1 hy with rfl|hy
    ·omega
    ·exact h1 y hy
theorem Vj:∀(l acc:List Int),acc.Pairwise (· < ·)→(l.foldl (fun acc x=>VT x acc) acc).Pairwise (· < ·)∧∀y,y∈l.foldl (fun acc x=>VT x acc) acc↔y∈acc∨y∈l
 |[],acc,h=>by simp[h]
 |x :: r,acc,h=>by
  obtain⟨h1,h2⟩:=Vj r (VT x acc) (VB x acc h)
  refine⟨h1,fun y=>?_⟩
  rw[List.foldl_cons,h2,Jm,List.mem_cons]
  constructor
  ·rintro((h|h)|h)
   ·exact .inr (.inl h)
   ·exact .inl h
   ·exact .inr (.inr h)
  ·rintro(h|h|h)
   ·exact .inl (.inr h)
   ·exact .inl (.inl h)
   ·exact .inr h
theorem xE (l:List Int):(rise l).Pairwise (· < ·):=(Vj l [] List.Pairwise.nil).1
theorem vB (l:List Int)(y:Int):y∈rise l↔y∈l:=by
 have:=(Vj l [] List.Pairwise.nil).2 y
 simpa[rise] using this
theorem xC {l:List Int}(h:l.Pairwise (· < ·)):l.Nodup:=h.imp fun hab=>by omega
theorem xV (l:List Int):(rise l).Nodup:=xC (xE l)
theorem uN:∀{l m:List Int},l.Pairwise (· < ·)→m.Pairwise (· < ·)→(∀y,y∈l↔y∈m)→l=m
 |[],[],_,_,_=>rfl
 |[],y :: m,_,_,h=>by have:=(h y).2 (by simp);simp at this
 |x :: l,[],_,_,h=>by have:=(h x).1 (by simp);simp at this
 |x :: l,y :: m,hl,hm,h=>by
  obtain⟨a1,a2⟩:=List.pairwise_cons.1 hl
  obtain⟨b1,b2⟩:=List.pairwise_cons.1 hm
  have hxy:x=y:=by
   have a:=(h x).1 (by simp)
   have b:=(h y).2 (by simp)
   rcases List.mem_cons.1 a with a|a
   ·exact a
   ·rcases List.mem_cons.1 b with b|b
    ·exact b.symm
    ·have:=b1 x a
     have:=a1 y b
     omega
  subst hxy
  rw[uN a2 b2 fun z=>?_]
  constructor
  ·intro c
   have a:=(h z).1 (List.mem_cons_of_mem _ c)
   rcases List.mem_cons.1 a with rfl|a
   ·have:=a1 z c
    omega
   ·exact a
  ·intro c
   have a:=(h z).2 (List.mem_cons_of_mem _ c)
   rcases List.mem_cons.1 a with rfl|a
   ·have:=b1 z c
    omega
   ·exact a
theorem X8 {l:List Int}(h:l.Pairwise (· < ·)):rise l=l:=uN (xE l) h (vB l)
theorem zY (l:List Int):(rise l).length≤l.length:=by
 have h:∀(l a:List Int),(l.foldl (fun a x=>VT x a) a).length≤a.length+l.length:=by
  intro l
  induction l with
  |nil=>intro a;simp
  |cons x r ih=>
   intro a
   have b:=ih (VT x a)
   have c:(VT x a).length≤a.length+1:=by
    clear b ih
    induction a with
    |nil=>simp[VT]
    |cons y a ih2=>
     unfold VT
     split
     ·simp
     ·split
      ·simp
      ·simp only[List.length_cons];omega
   rw[List.foldl_cons,List.length_cons]
   omega
 simpa[rise] using h l []
structure zay (c:Xv):Prop where
 mails:1≤c.maxMails∧c.maxMails≤2147483647
 boxes:1≤c.maxBoxes∧c.maxBoxes≤2147483647
 size:1≤c.maxSize∧c.maxSize≤2147483647
 uid:1≤c.maxUid∧c.maxUid≤2147483647
 mod:1≤c.maxMod∧c.maxMod≤2147483647
 log:1≤c.maxLog∧c.maxLog≤2147483647
 get:1≤c.maxGet∧c.maxGet≤2147483647
structure BoxOk (c:Xv)(last:Int)(b:yg):Prop where
 id:1≤b.id∧b.id≤last
 next:1≤b.next∧b.next≤c.maxUid+1
 name:b.name.length≤64
structure VF (bs:List yg)(l:List (Int×Int)):Prop where
 some_:l≠[]
 rising:(l.map (·.1)).Pairwise (· < ·)
 each:∀p∈l,p.1∈ids bs∧1≤p.2∧p.2 < zw bs p.1
structure X9 (bs:List yg)(last:Int)(m:zX):Prop where
 id:1≤m.id∧m.id≤last
 keys:m.keys.length≤16
 mem:VF bs m.members
def uj (l:List zX):Int:=((l.map fun m=>m.text.length).sum:Nat)
theorem uE (a b:List zX):uj (a++b)=uj a+uj b:=by simp[uj]
theorem VR (m:zX):uj [m]=m.text.length:=by simp[uj]
theorem zW (l:List zX):0≤uj l:=Int.natCast_nonneg _
theorem Vl {l:List zX}{m:zX}(h:m∈l):(m.text.length:Int)≤uj l:=by
 obtain⟨a,b,rfl⟩:=List.append_of_mem h
 rw[uE,show m :: b=[m]++b from rfl,uE,VR]
 have:=zW a
 have:=zW b
 omega
structure Fit (x:Acc):Prop where
 cfg:zay x.cfg
 clock:1≤x.clock∧x.clock≤x.cfg.maxMod
 lastBox:1≤x.lastBox∧x.lastBox≤x.clock
 lastId:0≤x.lastId∧x.lastId≤x.clock
 nb:(x.boxes.length:Int)≤x.clock
 nm:(x.mails.length:Int)≤x.clock
 idsB:(ids x.boxes).Nodup
 box:∀b∈x.boxes,BoxOk x.cfg x.lastBox b
 idsM:(x.mails.map (·.id)).Nodup
 mail:∀m∈x.mails,X9 x.boxes x.lastId m
 octets:x.octets=uj x.mails∧x.octets≤x.cfg.maxSize
 log:x.log.most=x.cfg.maxLog∧(x.log.es.length:Int)≤x.cfg.maxLog
structure xN (c:Xv)(l l':List yg):Prop where
 ids:ids l'=ids l
 ok:∀last,(∀b∈l,BoxOk c last b)→∀b∈l',BoxOk c last b
 next:∀i,zw l i≤zw l' i
theorem xN.length {c:Xv}{l l':List yg}(h:xN c l l'):l'.length=l.length:=by
 have:=congrArg List.length h.ids
 simpa[Proofs.YtfhlhdmhgheonaaGreatDoor.ids] using this
theorem xN.trans {c:Xv}{l l' l'':List yg}(h:xN c l l')(k:xN c l' l''):xN c l l'':=
 ⟨k.ids.trans h.ids,fun last hl=>k.ok last (h.ok last hl),fun i=>Int.le_trans (h.next i) (k.next i)⟩
theorem UA (l:List yg)(f:yg→yg)(hf:∀b,(f b).id=b.id)(hn:∀b∈l,b.next≤(f b).next):∀i,zw l i≤zw (l.map f) i:=by
 intro i
 induction l with
 |nil=>exact Int.le_refl _
 |cons b r ih=>
  unfold zw
  by_cases a:b.id=i
  ·have c:(f b).id=i:=(hf b).trans a
   rw[List.map_cons,List.find?_cons_of_pos (by simpa using a),List.find?_cons_of_pos (by simpa using c)]
   exact hn b (by simp)
  ·have c:¬(f b).id=i:=fun e=>a ((hf b).symm.trans e)
   rw[List.map_cons,List.find?_cons_of_neg (by simpa using a),List.find?_cons_of_neg (by simpa using c)]
   exact ih fun b a=>hn b (by simp[a])
theorem VO (c:Xv)(l:List yg)(f:yg→yg)(hf:∀b,(f b).id=b.id)(hn:∀b∈l,b.next≤(f b).next)(hm:∀b∈l,(f b).next≤c.maxUid+1∨(f b).next=b.next)(hs:∀b∈l,(f b).name=b.name):xN c l (l.map f):=by
 refine⟨VH l f hf,fun last h b hb=>?_,UA l f hf hn⟩
 obtain⟨a,e,rfl⟩:=List.mem_map.1 hb
 have d:=h a e
 have g:=hn a e
 refine⟨by rw[hf];exact d.id,⟨by have:=d.next.1;omega,?_⟩,by rw[hs a e];exact d.name⟩
 rcases hm a e with h3|h3
 ·exact h3
 ·rw[h3]
  exact d.next.2
theorem uJ (c:Xv)(mod:Int)(is:List Int)(l:List yg)(hn:(ids l).Nodup):xN c l (zf mod is l):=by
 rw[Xb mod is l hn]
 refine VO c l _ (fun b=>by split <;> rfl) (fun b _=>?_) (fun b _=>.inr ?_) (fun b _=>?_) <;> split <;> first|rfl|exact Int.le_refl _
theorem Ye (c:Xv)(is:List Int)(l:List yg)(hs:∀b∈l,b.id∈is→b.next≤c.maxUid):xN c l (y8 is l):=by
 refine VO c l _ (fun b=>by split <;> rfl) (fun b _=>?_) (fun b hb=>?_) (fun b _=>by split <;> rfl)
 ·split
  ·show b.next≤b.next+1
   omega
  ·exact Int.le_refl _
 ·split
  ·rename_i h
   have:=hs b hb h
   left
   show b.next+1≤c.maxUid+1
   omega
  ·exact .inr rfl
theorem VF.step {c:Xv}{l l':List yg}(h:xN c l l'){m:List (Int×Int)}(hm:VF l m):VF l' m:=
 ⟨hm.some_,hm.rising,fun p hp=>by
  obtain⟨h1,h2,h3⟩:=hm.each p hp
  exact⟨by rw[h.ids];exact h1,h2,Int.lt_of_lt_of_le h3 (h.next _)⟩⟩
theorem X9.step {c:Xv}{l l':List yg}{last:Int}(h:xN c l l'){m:zX}(hm:X9 l last m):X9 l' last m:=⟨hm.id,hm.keys,hm.mem.step h⟩
theorem X9.later {l:List yg}{last last':Int}(h:last≤last'){m:zX}(hm:X9 l last m):X9 l last' m:=⟨⟨hm.id.1,Int.le_trans hm.id.2 h⟩,hm.keys,hm.mem⟩
theorem ug {c:Xv}{g:Yc}(hc:zay c)(h:g.most=c.maxLog∧(g.es.length:Int)≤c.maxLog)(e:List E4):(g.add e).most=c.maxLog∧((g.add e).es.length:Int)≤c.maxLog:=by
 have a:=g.zbu e (by rw[h.1];exact hc.log.1)
 exact⟨a.2.trans h.1,by rw[←h.1];exact a.1⟩
theorem Jo {c:Xv}(hc:zay c):Fit (newP c):=by
 refine⟨hc,⟨Int.le_refl _,hc.mod.1⟩,⟨Int.le_refl _,Int.le_refl _⟩,⟨Int.le_refl _,by show (0:Int)≤1;decide⟩,by simp[newP],by simp[newP],by simp[newP,ids],fun b hb=>?_,by simp[newP],fun m hm=>by simp[newP] at hm,⟨rfl,?_⟩,rfl,?_⟩
 ·obtain rfl:b=⟨1,uH,0,1,1,1⟩:=by simpa[newP] using hb
  exact⟨⟨by decide,by show (1:Int)≤1;omega⟩,⟨by decide,by show (1:Int)≤c.maxUid+1;have:=hc.uid.1;omega⟩,by decide⟩
 ·show (0:Int)≤c.maxSize
  have:=hc.size.1
  omega
 ·show (([]:List E4).length:Int)≤c.maxLog
  have:=hc.log.1
  simp
  omega
theorem YF {l:List yg}{is:List Int}(h:(ids l).Nodup){i:Int}(hi:i∈is)(hl:i∈ids l):zw (y8 is l) i=zw l i+1:=by
 obtain⟨b,a,rfl⟩:=List.mem_map.1 hl
 have c:({b with next:=b.next+1}:yg)∈y8 is l:=List.mem_map.2 ⟨b,a,by rw[if_pos hi]⟩
 have d:=vY (l:=y8 is l) (by rw[uW];exact h) c
 rw[vY h a]
 exact d
theorem Zl {l:List yg}{is:List Int}(h:(rise is).any (fun id=>!zu l id)=false){i:Int}(hi:i∈rise is):i∈ids l:=by
 have b:¬(!zu l i)=true:=fun h2=>by
  have a:(rise is).any (fun id=>!zu l id)=true:=List.any_eq_true.2 ⟨i,hi,h2⟩
  rw[h] at a
  cases a
 exact(yU l i).1 (by simpa using b)
theorem Fit.UB {x:Acc}(h:Fit x){i:Int}(hi:i∈ids x.boxes):1≤zw x.boxes i:=by
 obtain⟨b,a,rfl⟩:=List.mem_map.1 hi
 rw[vY h.idsB a]
 exact(h.box b a).next.1
theorem Q6 (head:Text→Text→Text){x:Acc}(h:Fit x)(boxes:List Int)(keys:List Text)(at_:Int)(t:Text)(hk:(zG keys).1.length≤16):Fit (zq head x boxes keys at_ t).1:=by
 unfold zq yS
 split
 ·exact h
 ·rename_i hb
  split
  ·exact h
  ·split
   ·exact h
   ·rename_i hhas
    split
    ·exact h
    ·rename_i hfull
     split
     ·exact h
     ·rename_i hend
      simp only[Bool.or_eq_true,not_or,Bool.not_eq_true] at hend
      obtain⟨n,o⟩:=hend
      have c:x.clock+1≤x.cfg.maxMod:=by
       have:¬x.cfg.maxMod≤x.clock:=by simpa[Acc.ends] using n
       omega
      have j:(rise boxes).any (fun id=>!zu x.boxes id)=false:=by simpa using hhas
      have d:∀i∈rise boxes,zw x.boxes i≤x.cfg.maxUid:=by
       intro i q
       have f:¬x.spent i=true:=fun k=>by
        have z:(rise boxes).any x.spent=true:=List.any_eq_true.2 ⟨i,q,k⟩
        rw[o] at z
        cases z
       have B:¬x.cfg.maxUid < zw x.boxes i:=by simpa[Acc.spent] using f
       omega
      have s:=vN (rise boxes) x.boxes h.idsB (xV boxes)
      have w:xN x.cfg x.boxes (y8 (rise boxes) x.boxes):=Ye _ _ _ fun b hb q=>by
       have:=d _ q
       rwa [vY h.idsB hb] at this
      have u:xN x.cfg (y8 (rise boxes) x.boxes) (zf (x.clock+1) (rise boxes) (y8 (rise boxes) x.boxes)):=uJ _ _ _ _ (by rw[uW];exact h.idsB)
      have v:=w.trans u
      have y:boxes≠[]:=fun e=>hb (.inl e)
      simp only[s]
      refine⟨h.cfg,⟨by have:=h.clock.1;show 1≤x.clock+1;omega,c⟩,⟨h.lastBox.1,by have:=h.lastBox.2;show x.lastBox≤x.clock+1;omega⟩,⟨by have:=h.lastId.1;show 0≤x.lastId+1;omega,by have:=h.lastId.2;show x.lastId+1≤x.clock+1;omega⟩,?_,?_,?_,?_,?_,?_,?_,ug h.cfg h.log _⟩
      ·have:=h.nb
       show ((zf (x.clock+1) (rise boxes) (y8 (rise boxes) x.boxes)).length:Int)≤x.clock+1
       rw[v.length]
       omega
      ·have:=h.nm
       show ((x.mails++[_]).length:Int)≤x.clock+1
       rw[List.length_append,List.length_singleton]
       omega
      ·show (ids (zf (x.clock+1) (rise boxes) (y8 (rise boxes) x.boxes))).Nodup
       rw[v.ids]
       exact h.idsB
      ·exact v.ok _ h.box
      ·show ((x.mails++[_]).map zX.id).Nodup
       rw[List.map_append,List.nodup_append]
       refine⟨h.idsM,by simp,fun a ha b hb=>?_⟩
       obtain⟨m,g,rfl⟩:=List.mem_map.1 ha
       have f:=(h.mail m g).id.2
       have k:b=x.lastId+1:=by simpa using hb
       rw[k]
       omega
      ·intro m g
       rcases List.mem_append.1 g with g|g
       ·exact((h.mail m g).step v).later (by show x.lastId≤x.lastId+1;omega)
       ·rw[List.mem_singleton] at g
        subst g
        refine⟨⟨by have:=h.lastId.1;show 1≤x.lastId+1;omega,Int.le_refl _⟩,hk,?_⟩
        refine⟨?_,?_,fun p hp=>?_⟩
        ·intro e
         obtain⟨i,r,A⟩:∃i r,boxes=i :: r:=by
          cases boxes with
          |nil=>exact absurd rfl y
          |cons i r=>exact⟨i,r,rfl⟩
         have f:i∈rise boxes:=(vB boxes i).2 (by rw[A];simp)
         have k:rise boxes=[]:=by simpa using e
         rw[k] at f
         cases f
        ·show (((rise boxes).map fun id=>(id,zw x.boxes id)).map (·.1)).Pairwise (· < ·)
         rw[List.map_map]
         have:(rise boxes).map ((fun p:Int×Int=>p.1) ∘fun id=>(id,zw x.boxes id))=rise boxes:=by
          conv=>rhs;rw[←List.map_id (rise boxes)]
          exact List.map_congr_left fun _ _=>rfl
         rw[this]
         exact xE boxes
        ·obtain⟨i,q,rfl⟩:=List.mem_map.1 hp
         have l:=Zl j q
         refine⟨by show i∈ids (zf (x.clock+1) (rise boxes) (y8 (rise boxes) x.boxes));rw[v.ids];exact l,h.UB l,?_⟩
         have f:=YF h.idsB q l
         have k:=u.next i
         show zw x.boxes i < zw (zf (x.clock+1) (rise boxes) (y8 (rise boxes) x.boxes)) i
         omega
      ·have f:=h.octets
       have k:¬x.cfg.maxSize - x.octets < (t.length:Int):=fun e=>hfull (.inr e)
       refine⟨?_,?_⟩
       ·show x.octets+t.length=uj (x.mails++[_])
        rw[uE,VR,f.1]
       ·show x.octets+t.length≤x.cfg.maxSize
        omega
def vw (l:List zX):List Int:=l.map zX.id
theorem YO (id:Int)(f:zX→zX)(hf:∀m,(f m).id=m.id):∀l,vw (zZ id f l)=vw l
 |[]=>rfl
 |m :: r=>by
  unfold zZ
  split
  ·simp[vw,hf]
  ·simp only[vw,List.map_cons] at *
   rw[show (zZ id f r).map zX.id=r.map zX.id from YO id f hf r]
theorem Zm (id:Int)(f:zX→zX):∀l,(zZ id f l).length=l.length
 |[]=>rfl
 |m :: r=>by
  unfold zZ
  split
  ·rfl
  ·rw[List.length_cons,List.length_cons,Zm id f r]
theorem YU {id:Int}{f:zX→zX}:∀{l:List zX} {m:zX},m∈zZ id f l→m∈l∨∃a,l.find? (fun m=>decide (m.id=id))=some a∧m=f a
 |[],m,h=>by simp[zZ] at h
 |a :: r,m,h=>by
  unfold zZ at h
  split at h
  ·rename_i he
   rcases List.mem_cons.1 h with rfl|h
   ·exact .inr ⟨a,by simp[he],rfl⟩
   ·exact .inl (by simp[h])
  ·rename_i he
   rcases List.mem_cons.1 h with rfl|h
   ·exact .inl (by simp)
   ·rcases YU h with h|⟨b,hb,rfl⟩
    ·exact .inl (by simp[h])
    ·exact .inr ⟨b,by rw[List.find?_cons_of_neg (by simpa using he)];exact hb,rfl⟩
theorem ZW (id:Int)(f:zX→zX)(hf:∀m,(f m).text=m.text):∀l,uj (zZ id f l)=uj l
 |[]=>rfl
 |m :: r=>by
  have h1:∀(a:zX) (l:List zX),uj (a :: l)=a.text.length+uj l:=fun a l=>by simp[uj]
  unfold zZ
  split
  ·rw[h1,h1,hf]
  ·rw[h1,h1,ZW id f hf r]
theorem zdj {x:Acc}(h:Fit x)(id:Int)(keys:List Text)(hk:(zG keys).1.length≤16):Fit (xM x id keys).1:=by
 unfold xM Vk
 split
 ·exact h
 ·rename_i m hm
  split
  ·exact h
  ·split
   ·exact h
   ·split
    ·exact h
    ·rename_i hend
     have c:x.clock+1≤x.cfg.maxMod:=by
      have:¬x.cfg.maxMod≤x.clock:=by simpa[Acc.ends] using hend
      omega
     simp only[]
     generalize g:(if (decide (ZA∈(zG keys).fst)≠decide (ZA∈m.keys)) then rise (m.members.map (·.1)) else ([]:List Int))=is
     have d:xN x.cfg x.boxes (zf (x.clock+1) is x.boxes):=uJ _ _ _ _ h.idsB
     refine⟨h.cfg,⟨by have:=h.clock.1;show 1≤x.clock+1;omega,c⟩,⟨h.lastBox.1,by have:=h.lastBox.2;show x.lastBox≤x.clock+1;omega⟩,⟨h.lastId.1,by have:=h.lastId.2;show x.lastId≤x.clock+1;omega⟩,?_,?_,?_,d.ok _ h.box,?_,?_,?_,ug h.cfg h.log _⟩
     ·have:=h.nb
      show ((zf (x.clock+1) is x.boxes).length:Int)≤x.clock+1
      rw[d.length]
      omega
     ·have:=h.nm
      show ((zZ id _ x.mails).length:Int)≤x.clock+1
      rw[Zm]
      omega
     ·show (ids (zf (x.clock+1) is x.boxes)).Nodup
      rw[d.ids]
      exact h.idsB
     ·show (vw (zZ id _ x.mails)).Nodup
      rw[YO]
      ·exact h.idsM
      ·exact fun _=>rfl
     ·intro a f
      rcases YU f with f|⟨b,hb,rfl⟩
      ·exact(h.mail a f).step d
      ·have e:=(h.mail b (List.mem_of_find?_eq_some hb)).step d
       exact⟨e.id,hk,e.mem⟩
     ·have e:=h.octets
      refine⟨?_,e.2⟩
      show x.octets=uj (zZ id _ x.mails)
      rw[ZW]
      ·exact e.1
      ·exact fun _=>rfl
theorem UU {l:List yg}{b:yg}{i:Int}(hi:i∈ids l):zw (l++[b]) i=zw l i:=by
 unfold zw
 rw[List.find?_append]
 obtain⟨c,a,rfl⟩:=List.mem_map.1 hi
 have:(l.find? (fun b=>decide (b.id=c.id))).isSome=true:=by
  rw[List.find?_isSome]
  exact⟨c,a,by simp⟩
 obtain⟨d,e⟩:=Option.isSome_iff_exists.1 this
 rw[e]
 rfl
theorem zcP (right:Text→Bool)(hr:∀t,right t=true→t.length≤64){x:Acc}(h:Fit x)(name:Text)(parent:Int):Fit (vE right x name parent).1:=by
 unfold vE
 split
 ·exact h
 ·rename_i hright
  split
  ·exact h
  ·split
   ·exact h
   ·rename_i hend
    have e:x.clock+1≤x.cfg.maxMod:=by
     have:¬x.cfg.maxMod≤x.clock:=by simpa[Acc.ends] using hend
     omega
    have g:name.length≤64:=hr name (by simpa using hright)
    refine⟨h.cfg,⟨by have:=h.clock.1;show 1≤x.clock+1;omega,e⟩,⟨by have:=h.lastBox.1;show 1≤x.lastBox+1;omega,by have:=h.lastBox.2;show x.lastBox+1≤x.clock+1;omega⟩,⟨h.lastId.1,by have:=h.lastId.2;show x.lastId≤x.clock+1;omega⟩,?_,?_,?_,?_,h.idsM,?_,h.octets,ug h.cfg h.log _⟩
    ·have:=h.nb
     show ((x.boxes++[_]).length:Int)≤x.clock+1
     rw[List.length_append,List.length_singleton]
     omega
    ·have:=h.nm
     show (x.mails.length:Int)≤x.clock+1
     omega
    ·show (ids (x.boxes++[_])).Nodup
     unfold ids
     rw[List.map_append,List.nodup_append]
     refine⟨h.idsB,by simp,fun a ha b f=>?_⟩
     obtain⟨c,j,rfl⟩:=List.mem_map.1 ha
     have d:=(h.box c j).id.2
     have i:b=x.lastBox+1:=by simpa using f
     rw[i]
     omega
    ·intro b f
     rcases List.mem_append.1 f with f|f
     ·have d:=h.box b f
      exact⟨⟨d.id.1,by have:=d.id.2;show b.id≤x.lastBox+1;omega⟩,d.next,d.name⟩
     ·rw[List.mem_singleton] at f
      subst f
      exact⟨⟨by have:=h.lastBox.1;show 1≤x.lastBox+1;omega,Int.le_refl _⟩,⟨Int.le_refl _,by have:=h.cfg.uid.1;show (1:Int)≤x.cfg.maxUid+1;omega⟩,g⟩
    ·intro m k
     have d:=h.mail m k
     refine⟨d.id,d.keys,d.mem.some_,d.mem.rising,fun p hp=>?_⟩
     obtain⟨i,l,n⟩:=d.mem.each p hp
     refine⟨?_,l,?_⟩
     ·show p.1∈ids (x.boxes++[_])
      unfold ids
      rw[List.map_append]
      exact List.mem_append_left _ i
     ·show p.2 < zw (x.boxes++[_]) p.1
      rw[UU i]
      exact n
theorem QN (c:Xv)(id:Int)(name:Text)(parent:Int)(hl:name.length≤64)(l:List yg)(hn:(ids l).Nodup):xN c l (yE id (fun b=>{b with name:=name,parent:=parent}) l):=by
 rw[ZH _ _ _ hn]
 refine⟨VH l _ (fun b=>by split <;> rfl),fun last h b hb=>?_,UA l _ (fun b=>by split <;> rfl) (fun b _=>by split <;> exact Int.le_refl _)⟩
 obtain⟨a,e,rfl⟩:=List.mem_map.1 hb
 have d:=h a e
 split
 ·exact⟨d.id,d.next,hl⟩
 ·exact d
theorem zat (right:Text→Bool)(hr:∀t,right t=true→t.length≤64){x:Acc}(h:Fit x)(id:Int)(name:Text)(parent:Int):Fit (zK right x id name parent).1:=by
 unfold zK
 split
 ·exact h
 ·split
  ·exact h
  ·rename_i hright
   split
   ·exact h
   ·split
    ·exact h
    ·split
     ·exact h
     ·split
      ·exact h
      ·rename_i hend
       have a:x.clock+1≤x.cfg.maxMod:=by
        have:¬x.cfg.maxMod≤x.clock:=by simpa[Acc.ends] using hend
        omega
       have c:name.length≤64:=hr name (by
        have:¬right name=false:=fun e=>hright (.inl e)
        simpa using this)
       have d:=QN x.cfg id name parent c x.boxes h.idsB
       have g:=uJ x.cfg (x.clock+1) [id] _ (show (ids (yE id (fun b=>{b with name:=name,parent:=parent}) x.boxes)).Nodup by rw[d.ids];exact h.idsB)
       have f:=d.trans g
       refine⟨h.cfg,⟨by have:=h.clock.1;show 1≤x.clock+1;omega,a⟩,⟨h.lastBox.1,by have:=h.lastBox.2;show x.lastBox≤x.clock+1;omega⟩,⟨h.lastId.1,by have:=h.lastId.2;show x.lastId≤x.clock+1;omega⟩,?_,?_,?_,f.ok _ h.box,h.idsM,fun m hm=>(h.mail m hm).step f,h.octets,ug h.cfg h.log _⟩
       ·have:=h.nb
        show ((zf (x.clock+1) [id] _).length:Int)≤x.clock+1
        rw[f.length]
        omega
       ·have:=h.nm
        show (x.mails.length:Int)≤x.clock+1
        omega
       ·show (ids (zf (x.clock+1) [id] _)).Nodup
        rw[f.ids]
        exact h.idsB
theorem Vu {α:Type}(p:α→Bool):∀l:List α,l.any p=true→0≤place p l
 |[],h=>by simp at h
 |x :: r,h=>by
  unfold place
  split
  ·exact Int.le_refl _
  ·rename_i hx
   have h1:r.any p=true:=by simpa[hx] using h
   have:=Vu p r h1
   split <;> omega
theorem VQ {α:Type}(p:α→Bool):∀l:List α,l.any p=false→place p l= -1
 |[],_=>rfl
 |x :: r,h=>by
  have h1:p x=false∧r.any p=false:=by simpa using h
  unfold place
  rw[VQ p r h1.2]
  simp[h1.1]
theorem Zi {α:Type}(p:α→Bool):∀l:List α,l.any p=true→l.eraseIdx (place p l).toNat=l.eraseP p
 |[],h=>by simp at h
 |x :: r,h=>by
  unfold place
  by_cases hx:p x=true
  ·simp[hx]
  ·have h1:r.any p=true:=by simpa[hx] using h
   have a:=Vu p r h1
   rw[if_neg hx,if_neg (by omega),List.eraseP_cons_of_neg (by simpa using hx),←Zi p r h1,show (place p r+1).toNat=(place p r).toNat+1 from by omega]
   rfl
theorem YX {id i:Int}(hi:i≠id):∀l:List yg,zw (l.eraseP fun b=>decide (b.id=id)) i=zw l i
 |[]=>rfl
 |b :: r=>by
  by_cases hb:b.id=id
  ·have h1:¬b.id=i:=fun e=>hi (e.symm.trans hb)
   rw[List.eraseP_cons_of_pos (by simpa using hb)]
   unfold zw
   rw[List.find?_cons_of_neg (by simpa using h1)]
  ·rw[List.eraseP_cons_of_neg (by simpa using hb)]
   have ih:=YX hi r
   unfold zw at ih ⊢
   by_cases h1:b.id=i
   ·rw[List.find?_cons_of_pos (by simpa using h1),List.find?_cons_of_pos (by simpa using h1)]
   ·rw[List.find?_cons_of_neg (by simpa using h1),List.find?_cons_of_neg (by simpa using h1)]
    exact ih
theorem Uq {id i:Int}(hi:i≠id):∀l:List yg,i∈ids l→i∈ids (l.eraseP fun b=>decide (b.id=id))
 |[],h=>h
 |b :: r,h=>by
  have h':i=b.id∨i∈ids r:=by simpa[ids] using h
  by_cases a:b.id=id
  ·rw[List.eraseP_cons_of_pos (by simpa using a)]
   rcases h' with h'|h'
   ·exact absurd (h'.trans a) hi
   ·exact h'
  ·rw[List.eraseP_cons_of_neg (by simpa using a)]
   rcases h' with h'|h'
   ·simp[ids,h']
   ·have:=Uq hi r h'
    simp only[ids,List.map_cons,List.mem_cons] at this ⊢
    exact .inr this
theorem zc5 {x:Acc}(h:Fit x)(id:Int):Fit (xW x id).1:=by
 unfold xW
 split
 ·exact h
 ·rename_i hhas
  split
  ·exact h
  ·split
   ·exact h
   ·rename_i hbusy
    split
    ·exact h
    ·rename_i hend
     have c:x.clock+1≤x.cfg.maxMod:=by
      have:¬x.cfg.maxMod≤x.clock:=by simpa[Acc.ends] using hend
      omega
     have d:x.boxes.any (fun b=>decide (b.id=id))=true:=by
      have:¬zu x.boxes id=false:=hhas
      simpa[zu] using this
     have n:x.boxes.eraseIdx (yx id x.boxes).toNat=x.boxes.eraseP fun b=>decide (b.id=id):=Zi _ _ d
     have k:∀m∈x.mails,∀p∈m.members,p.1≠id:=by
      intro m i p j e
      apply hbusy
      rw[Bool.or_eq_true]
      exact .inr (List.any_eq_true.2 ⟨m,i,List.any_eq_true.2 ⟨p,j,by simpa using e⟩⟩)
     have a:=List.eraseP_sublist (l:=x.boxes) (p:=fun b=>decide (b.id=id))
     simp only[n]
     refine⟨h.cfg,⟨by have:=h.clock.1;show 1≤x.clock+1;omega,c⟩,⟨h.lastBox.1,by have:=h.lastBox.2;show x.lastBox≤x.clock+1;omega⟩,⟨h.lastId.1,by have:=h.lastId.2;show x.lastId≤x.clock+1;omega⟩,?_,?_,?_,fun b hb=>h.box b (a.subset hb),h.idsM,?_,h.octets,ug h.cfg h.log _⟩
     ·have:=h.nb
      have:=a.length_le
      show ((x.boxes.eraseP _).length:Int)≤x.clock+1
      omega
     ·have:=h.nm
      show (x.mails.length:Int)≤x.clock+1
      omega
     ·exact(a.map _).nodup h.idsB
     ·intro m i
      have f:=h.mail m i
      refine⟨f.id,f.keys,f.mem.some_,f.mem.rising,fun p j=>?_⟩
      obtain⟨o,q,r⟩:=f.mem.each p j
      have g:=k m i p j
      exact⟨Uq g _ o,q,by show p.2 < zw (x.boxes.eraseP _) p.1;rw[YX g];exact r⟩
theorem XP (p:zX→Bool):∀(l:List zX) (m:zX),l.find? p=some m→uj (l.eraseP p)=uj l - m.text.length
 |[],m,h=>by simp at h
 |a :: r,m,h=>by
  have h1:∀(a:zX) (l:List zX),uj (a :: l)=a.text.length+uj l:=fun a l=>by simp[uj]
  by_cases ha:p a=true
  ·rw[List.find?_cons_of_pos ha] at h
   obtain rfl:=Option.some.inj h
   rw[List.eraseP_cons_of_pos ha,h1]
   omega
  ·rw[List.find?_cons_of_neg ha] at h
   rw[List.eraseP_cons_of_neg ha,h1,h1,XP p r m h]
   omega
theorem Qx {x:Acc}(h:Fit x)(id:Int):Fit (yh x id).1:=by
 unfold yh
 split
 ·exact h
 ·rename_i m hm
  split
  ·exact h
  ·rename_i hend
   have c:x.clock+1≤x.cfg.maxMod:=by
    have:¬x.cfg.maxMod≤x.clock:=by simpa[Acc.ends] using hend
    omega
   have d:x.mails.any (fun m=>decide (m.id=id))=true:=List.any_eq_true.2 ⟨m,List.mem_of_find?_eq_some hm,List.find?_some (p:=fun m:zX=>decide (m.id=id)) hm⟩
   have f:x.mails.eraseIdx (Yi id x.mails).toNat=x.mails.eraseP fun m=>decide (m.id=id):=Zi _ _ d
   have b:=List.eraseP_sublist (l:=x.mails) (p:=fun m=>decide (m.id=id))
   simp only[f]
   have e:=uJ x.cfg (x.clock+1) (rise (m.members.map (·.1))) x.boxes h.idsB
   refine⟨h.cfg,⟨by have:=h.clock.1;show 1≤x.clock+1;omega,c⟩,⟨h.lastBox.1,by have:=h.lastBox.2;show x.lastBox≤x.clock+1;omega⟩,⟨h.lastId.1,by have:=h.lastId.2;show x.lastId≤x.clock+1;omega⟩,?_,?_,?_,e.ok _ h.box,?_,fun a ha=>(h.mail a (b.subset ha)).step e,?_,ug h.cfg h.log _⟩
   ·have:=h.nb
    show ((zf (x.clock+1) _ x.boxes).length:Int)≤x.clock+1
    rw[e.length]
    omega
   ·have:=h.nm
    have:=b.length_le
    show ((x.mails.eraseP _).length:Int)≤x.clock+1
    omega
   ·show (ids (zf (x.clock+1) _ x.boxes)).Nodup
    rw[e.ids]
    exact h.idsB
   ·exact(b.map _).nodup h.idsM
   ·have g:=h.octets
    have i:=XP (fun m=>decide (m.id=id)) x.mails m hm
    refine⟨?_,?_⟩
    ·show x.octets - m.text.length=uj (x.mails.eraseP _)
     rw[i,g.1]
    ·show x.octets - m.text.length≤x.cfg.maxSize
     omega
theorem XV (p q:Int×Int):∀l,q∈zcJ p l↔q=p∨q∈l
 |[]=>by simp[zcJ]
 |z :: r=>by
  unfold zcJ
  split
  ·simp
  ·simp only[List.mem_cons,XV p q r]
   constructor
   ·rintro(h|h|h)
    ·exact .inr (.inl h)
    ·exact .inl h
    ·exact .inr (.inr h)
   ·rintro(h|h|h)
    ·exact .inr (.inl h)
    ·exact .inl h
    ·exact .inr (.inr h)
theorem Vm (p:Int×Int):∀l:List (Int×Int),l.Pairwise (fun a b=>a.1 < b.1)→(∀q∈l,q.1≠p.1)→(zcJ p l).Pairwise (fun a b=>a.1 < b.1)
 |[],_,_=>by simp[zcJ]
 |z :: r,h,hn=>by
  obtain⟨h1,h2⟩:=List.pairwise_cons.1 h
  unfold zcJ
  split
  ·rename_i hx
   refine List.pairwise_cons.2 ⟨fun y hy=>?_,h⟩
   rcases List.mem_cons.1 hy with rfl|hy
   ·exact hx
   ·have:=h1 y hy
    omega
  ·rename_i hx
   have hz:=hn z (by simp)
   refine List.pairwise_cons.2 ⟨fun y hy=>?_,Vm p r h2 fun q hq=>hn q (by simp[hq])⟩
   rcases(XV p y r).1 hy with rfl|hy
   ·omega
   ·exact h1 y hy
theorem Ut:∀(l acc:List (Int×Int)),acc.Pairwise (fun a b=>a.1 < b.1)→(l.map (·.1)).Nodup→(∀q∈acc,q.1∉l.map (·.1))→
  (l.foldl (fun acc p=>zcJ p acc) acc).Pairwise (fun a b=>a.1 < b.1)∧∀q,q∈l.foldl (fun acc p=>zcJ p acc) acc↔q∈acc∨q∈l
 |[],acc,h,_,_=>by simp[h]
 |p :: r,acc,h,hn,hd=>by
  have hn':p.1∉r.map (·.1)∧(r.map (·.1)).Nodup:=by
   rw[List.map_cons,List.nodup_cons] at hn
   exact hn
  have c:∀q∈acc,q.1≠p.1:=fun q hq e=>hd q hq (by rw[List.map_cons,e];simp)
  obtain⟨d,f⟩:=Ut r (zcJ p acc) (Vm p acc h c) hn'.2 (fun q hq=>by
   rcases(XV p q acc).1 hq with rfl|hq
   ·exact hn'.1
   ·exact fun e=>hd q hq (by rw[List.map_cons];exact List.mem_cons_of_mem _ e))
  refine⟨d,fun q=>?_⟩
  rw[List.foldl_cons,f,XV,List.mem_cons]
  constructor
  ·rintro((h|h)|h)
   ·exact .inr (.inl h)
   ·exact .inl h
   ·exact .inr (.inr h)
  ·rintro(h|h|h)
   ·exact .inl (.inr h)
   ·exact .inl (.inl h)
   ·exact .inr h
theorem X0 {l:List (Int×Int)}(h:(l.map (·.1)).Nodup):(uL l).Pairwise (fun a b=>a.1 < b.1)∧∀q,q∈uL l↔q∈l:=by
 obtain⟨c,d⟩:=Ut l [] List.Pairwise.nil h (by simp)
 exact⟨c,fun q=>by simpa[uL] using d q⟩
def zai (bs:List yg)(m:List (Int×Int))(boxes:List Int):List (Int×Int):=
 uL ((m.filter fun p=>!decide (p.1∈(m.map (·.1)).filter fun b=>!decide (b∈rise boxes)))++((rise boxes).filter fun b=>!decide (b∈m.map (·.1))).map fun id=>(id,zw bs id))
theorem XM {bs:List yg}{m:List (Int×Int)}{boxes:List Int}(hm:VF bs m) :
  (((m.filter fun p=>!decide (p.1∈(m.map (·.1)).filter fun b=>!decide (b∈rise boxes)))++((rise boxes).filter fun b=>!decide (b∈m.map (·.1))).map fun id=>(id,zw bs id)).map (·.1)).Nodup:=by
 rw[List.map_append,List.nodup_append]
 refine⟨((List.filter_sublist (l:=m)).map (·.1)).nodup (xC hm.rising),?_,fun a ha b hb=>?_⟩
 ·rw[List.map_map]
  have:(((rise boxes).filter fun b=>!decide (b∈m.map (·.1))).map ((fun p:Int×Int=>p.1) ∘fun id=>(id,zw bs id)))=(rise boxes).filter fun b=>!decide (b∈m.map (·.1)):=by
   conv=>rhs;rw[←List.map_id ((rise boxes).filter _)]
   exact List.map_congr_left fun _ _=>rfl
  rw[this]
  exact(List.filter_sublist (l:=rise boxes)).nodup (xV boxes)
 ·rintro rfl
  obtain⟨p,g,rfl⟩:=List.mem_map.1 ha
  obtain⟨q,h,d⟩:=List.mem_map.1 hb
  obtain⟨i,j,rfl⟩:=List.mem_map.1 h
  have e:p.1∈m.map (·.1):=List.mem_map_of_mem (List.mem_filter.1 g).1
  have c:=(List.mem_filter.1 j).2
  have f:i=p.1:=d
  rw[f] at c
  simp only[Bool.not_eq_true',decide_eq_false_iff_not] at c
  exact c e
theorem zcs {c:Xv}{bs bs':List yg}{m:List (Int×Int)}{boxes:List Int}(hm:VF bs m)(hne:boxes≠[])(hin:∀i∈rise boxes,i∈ids bs)(hs:xN c bs bs')(hpos:∀i∈ids bs,1≤zw bs i)(hb:∀i∈rise boxes,i∉m.map (·.1)→zw bs i < zw bs' i):VF bs' (zai bs m boxes):=by
 have d:=XM (bs:=bs) (boxes:=boxes) hm
 obtain⟨n,f⟩:=X0 d
 refine⟨?_,?_,fun p h=>?_⟩
 ·obtain⟨i,g⟩:∃i,i∈boxes:=by
   cases boxes with
   |nil=>exact absurd rfl hne
   |cons i r=>exact⟨i,by simp⟩
  have j:=(vB boxes i).2 g
  intro e
  by_cases k:i∈m.map (·.1)
  ·obtain⟨p,h,rfl⟩:=List.mem_map.1 k
   have a:p∈zai bs m boxes:=(f p).2 (List.mem_append_left _ (List.mem_filter.2 ⟨h,by simp[j]⟩))
   rw[e] at a
   cases a
  ·have a:(i,zw bs i)∈zai bs m boxes:=(f _).2 (List.mem_append_right _ (List.mem_map.2 ⟨i,List.mem_filter.2 ⟨j,by simpa using k⟩,rfl⟩))
   rw[e] at a
   cases a
 ·rw[List.pairwise_map]
  exact n
 ·rcases List.mem_append.1 ((f p).1 h) with a|a
  ·exact(hm.step hs).each p (List.mem_filter.1 a).1
  ·obtain⟨i,g,rfl⟩:=List.mem_map.1 a
   have b:=List.mem_filter.1 g
   have l:i∉m.map (·.1):=by simpa using b.2
   exact⟨by rw[hs.ids];exact hin i b.1,hpos i (hin i b.1),hb i b.1 l⟩
theorem zb9 {x:Acc}(h:Fit x)(id:Int)(boxes:List Int):Fit (yB x id boxes).1:=by
 unfold yB
 split
 ·exact h
 ·rename_i m hm
  split
  ·exact h
  ·rename_i hne
   split
   ·exact h
   ·rename_i hhas
    simp only[]
    split
    ·exact h
    ·split
     ·exact h
     ·rename_i hend
      simp only[Bool.or_eq_true,not_or,Bool.not_eq_true] at hend
      obtain⟨k,n⟩:=hend
      have f:x.clock+1≤x.cfg.maxMod:=by
       have:¬x.cfg.maxMod≤x.clock:=by simpa[Acc.ends] using k
       omega
      have d:(rise boxes).any (fun id=>!zu x.boxes id)=false:=by simpa using hhas
      have q:=List.mem_of_find?_eq_some hm
      have r:((rise boxes).filter fun b=>!decide (b∈m.members.map (·.1))).Nodup:=(List.filter_sublist (l:=rise boxes)).nodup (xV boxes)
      have g:∀i∈(rise boxes).filter (fun b=>!decide (b∈m.members.map (·.1))),zw x.boxes i≤x.cfg.maxUid:=by
       intro i e
       have j:¬x.spent i=true:=fun v=>by
        have s:=List.any_eq_true.2 ⟨i,e,v⟩
        rw[n] at s
        cases s
       have y:¬x.cfg.maxUid < zw x.boxes i:=by simpa[Acc.spent] using j
       omega
      rw[vN _ x.boxes h.idsB r]
      have t:xN x.cfg x.boxes (y8 ((rise boxes).filter fun b=>!decide (b∈m.members.map (·.1))) x.boxes):=Ye _ _ _ fun b hb e=>by
       have:=g _ e
       rwa [vY h.idsB hb] at this
      generalize z:rise ((m.members.map (·.1)).filter (fun b=>!decide (b∈rise boxes))++(rise boxes).filter (fun b=>!decide (b∈m.members.map (·.1))))=turned
      have o:xN x.cfg (y8 ((rise boxes).filter fun b=>!decide (b∈m.members.map (·.1))) x.boxes) (zf (x.clock+1) turned (y8 ((rise boxes).filter fun b=>!decide (b∈m.members.map (·.1))) x.boxes)):=uJ _ _ _ _ (by rw[uW];exact h.idsB)
      have p:=t.trans o
      simp only[]
      refine⟨h.cfg,⟨by have:=h.clock.1;show 1≤x.clock+1;omega,f⟩,⟨h.lastBox.1,by have:=h.lastBox.2;show x.lastBox≤x.clock+1;omega⟩,⟨h.lastId.1,by have:=h.lastId.2;show x.lastId≤x.clock+1;omega⟩,?_,?_,?_,p.ok _ h.box,?_,?_,?_,ug h.cfg h.log _⟩
      ·have:=h.nb
       show ((zf (x.clock+1) turned _).length:Int)≤x.clock+1
       rw[p.length]
       omega
      ·have:=h.nm
       show ((zZ id _ x.mails).length:Int)≤x.clock+1
       rw[Zm]
       omega
      ·show (ids (zf (x.clock+1) turned _)).Nodup
       rw[p.ids]
       exact h.idsB
      ·show (vw (zZ id _ x.mails)).Nodup
       rw[YO]
       ·exact h.idsM
       ·exact fun _=>rfl
      ·intro a w
       rcases YU w with w|⟨b,hb,rfl⟩
       ·exact(h.mail a w).step p
       ·have u:b=m:=by
         rw[hm] at hb
         exact(Option.some.inj hb).symm
        subst u
        have j:=h.mail b q
        refine⟨j.id,j.keys,?_⟩
        have v:=zcs (c:=x.cfg) j.mem hne (fun i e=>Zl d e) p (fun i e=>h.UB e) (fun i e hw=>by
         have s:=YF (is:=(rise boxes).filter fun b_1=>!decide (b_1∈b.members.map (·.1))) h.idsB (List.mem_filter.2 ⟨e,by simpa using hw⟩) (Zl d e)
         have y:=o.next i
         omega)
        exact v
      ·have j:=h.octets
       refine⟨?_,j.2⟩
       show x.octets=uj (zZ id _ x.mails)
       rw[ZW]
       ·exact j.1
       ·exact fun _=>rfl
theorem J3:∀(l:List Int) (a n:Int),l.Pairwise (· < ·)→(∀y∈l,a≤y∧y≤n)→a≤n+1→(l.length:Int)≤n - a+1
 |[],a,n,_,_,h=>by simp;omega
 |y :: r,a,n,hp,hb,h=>by
  obtain⟨h1,h2⟩:=List.pairwise_cons.1 hp
  have h3:=hb y (by simp)
  have h4:=J3 r (y+1) n h2 (fun z hz=>⟨by have:=h1 z hz;omega,(hb z (List.mem_cons_of_mem _ hz)).2⟩) (by omega)
  rw[List.length_cons]
  omega
theorem Fit.Jp {x:Acc}(h:Fit x){m:zX}(hm:m∈x.mails):m.members.length≤4294967296:=by
 have g:=h.clock
 have i:=h.cfg.mod
 have j:=h.lastBox
 have a:=(h.mail m hm).mem
 have c:=J3 (m.members.map (·.1)) 1 x.lastBox a.rising (fun y hy=>by
  obtain⟨p,d,rfl⟩:=List.mem_map.1 hy
  obtain⟨b,f,e⟩:=List.mem_map.1 (a.each p d).1
  have:=(h.box b f).id
  rw[e] at this
  exact this) (by omega)
 rw[List.length_map] at c
 omega
theorem Fit.memIn {x:Acc}(h:Fit x){m:zX}(hm:m∈x.mails):∀i∈m.members.map (·.1),i∈ids x.boxes:=by
 intro i a
 obtain⟨p,b,rfl⟩:=List.mem_map.1 a
 exact((h.mail m hm).mem.each p b).1
def wideP:Xv:=⟨[117],[112],1000,100,1048576,1073741824,1073741824,10000,200⟩
theorem wideP_ok:zay wideP:=by constructor <;> decide
theorem UR (i:Int):rise [i]=[i]:=rfl
theorem zab (head:Text→Text→Text)(x:Acc)(b:yg)(hb:x.boxes=[b])(h1:b.id=1)(keys:List Text)(hk:(zG keys).2=0)(at_:Int)(ha:0≤at_)(ha2:at_≤253402300799)(t:Text)(hm:(x.mails.length:Int) < x.cfg.maxMails)(ho:x.octets+t.length≤x.cfg.maxSize)(hc:x.clock < x.cfg.maxMod)(hu:b.next≤x.cfg.maxUid) :
  zq head x [1] keys at_ t=({x with clock:=x.clock+1,lastId:=x.lastId+1,boxes:=[{b with next:=b.next+1,mod:=x.clock+1}],octets:=x.octets+t.length,mails:=x.mails++[⟨x.lastId+1,if vT head x t=0 then x.lastId+1 else vT head x t,t,at_,(zG keys).1,[(1,b.next)],x.clock+1,x.clock+1⟩],log:=x.log.add [⟨x.clock+1,1,1,2⟩,⟨x.clock+1,2,x.lastId+1,1⟩,⟨x.clock+1,3,if vT head x t=0 then x.lastId+1 else vT head x t,if vT head x t=0 then 1 else 2⟩]},x.lastId+1,0):=by
 have a:((rise [1]).any fun id=>!zu x.boxes id)=false:=by
  rw[UR,hb]
  simp[zu,h1]
 have c:(x.ends||(rise [1]).any x.spent)=false:=by
  rw[UR]
  simp[Acc.ends,Acc.spent,hb,zw,h1]
  omega
 have d:numbers [1] x.boxes=([{b with next:=b.next+1}],[(1,b.next)]):=by
  rw[hb]
  simp[numbers,bump,yE,zw,h1]
 unfold zq yS
 rw[if_neg (by simp;omega),if_neg (by omega),if_neg (by rw[a];decide),if_neg (by omega),if_neg (by rw[c];decide)]
 simp only[UR,d,zf,zn,List.foldl_cons,List.foldl_nil,yE,h1,if_true,List.map_cons,List.map_nil,List.cons_append,List.nil_append]
end Go.Proofs.YtfhlhdmhgheonaaGreatDoor
namespace Go.Proofs.YtfhlhdmhgheonaaGreatDoor
open Go.RowKit Go.Sort
attribute [local go_sem ↓] Go.wp_at_zero Go.wp_at_succ
abbrev encI:Int→Value:=Value.int .i64
/-! ### The plain law -/
def Xr (l:List Int):List Int:=l.mergeSort fun x y=>decide (x≤y)
theorem JZ (l:List Int):(Xr l).length=l.length:=by simp[Xr]
theorem QE (l:List Int):(Xr l).Pairwise (·≤·):=by
 have:=List.pairwise_mergeSort (le:=fun x y:Int=>decide (x≤y)) (by intro a b c;simp;exact Int.le_trans) (by intro a b;simp;exact Int.le_total a b) l
 unfold Xr
 simpa using this
theorem zcv (l:List Int)(x:Int):x∈Xr l↔x∈l:=by simp[Xr]
theorem Ua {d:List Int}(h:d.Pairwise (·≤·))(i j:Nat)(hij:i≤j)(hj:j < d.length):d.toArray[i]!≤d.toArray[j]!:=by
 rw[getElem!_pos _ i (by simp;omega),getElem!_pos _ j (by simpa using hj)]
 simp only[List.getElem_toArray]
 rcases Nat.lt_or_ge i j with h1|h1
 ·exact List.pairwise_iff_getElem.1 h i j (by omega) hj h1
 ·obtain rfl:i=j:=by omega
  exact Int.le_refl _
theorem VA {d:List Int}(h:d.Pairwise (·≤·)):∀m,m≤d.length→(Lib.compactUpTo d.toArray m).Pairwise (· < ·)∧∀x,x∈Lib.compactUpTo d.toArray m↔∃j,j < m∧d.toArray[j]! =x
 |0,_=>by simp[Lib.compactUpTo]
 |m+1,hm=>by
  obtain⟨h1,h2⟩:=VA h m (by omega)
  rw[Lib.compactUpTo_succ]
  by_cases hk:Lib.keeps d.toArray m=true
  ·rw[if_pos hk]
   refine⟨?_,fun x=>?_⟩
   ·rw[List.pairwise_append]
    refine⟨h1,by simp,fun a ha b hb=>?_⟩
    simp only[List.mem_singleton] at hb
    subst hb
    obtain⟨j,hj,rfl⟩:=(h2 a).1 ha
    have hne:d.toArray[m]!≠d.toArray[m - 1]!:=by
     simp only[Lib.keeps,decide_eq_true_eq] at hk
     rcases hk with hk|hk
     ·omega
     ·exact hk
    have i:=Ua h j (m - 1) (by omega) (by omega)
    have k:=Ua h (m - 1) m (by omega) (by omega)
    omega
   ·rw[List.mem_append,h2,List.mem_singleton]
    constructor
    ·rintro(⟨j,hj,c⟩|c)
     ·exact⟨j,by omega,c⟩
     ·exact⟨m,by omega,c.symm⟩
    ·rintro⟨j,hj,c⟩
     by_cases f:j=m
     ·subst f
      exact .inr c.symm
     ·exact .inl ⟨j,by omega,c⟩
  ·rw[if_neg hk,List.append_nil]
   refine⟨h1,fun x=>?_⟩
   rw[h2]
   have g:¬(m=0∨d.toArray[m]!≠d.toArray[m - 1]!):=by simpa[Lib.keeps] using hk
   constructor
   ·rintro⟨j,hj,c⟩
    exact⟨j,by omega,c⟩
   ·rintro⟨j,hj,c⟩
    by_cases f:j=m
    ·subst f
     refine⟨j - 1,by omega,?_⟩
     rw[←c]
     refine Decidable.byContradiction fun hne=>g (.inr fun e=>hne e.symm)
    ·exact⟨j,by omega,c⟩
theorem Y3 (l:List Int):Lib.compact (Xr l)=rise l:=by
 obtain⟨b,c⟩:=VA (QE l) (Xr l).length (Nat.le_refl _)
 refine uN b (xE l) fun x=>?_
 rw[vB,←zcv l x]
 unfold Lib.compact
 rw[c]
 constructor
 ·rintro⟨j,a,rfl⟩
  rw[getElem!_pos _ j (by simpa using a)]
  simp
 ·intro d
  obtain⟨j,a,e⟩:=List.getElem_of_mem d
  refine⟨j,a,?_⟩
  rw[getElem!_pos _ j (by simpa using a)]
  simpa using e
/-! ### In memory -/
section
variable {w w':World} {e:TypeId} {b off n cap:Nat} {h:Option Nat} {xs:List Value}
theorem Qj (w:World)(q:Nat)(d:Array Int)(b off:Nat)(os:Array Obj):Chg [b] w (grow (putRow encI (Sort.ahead w q) b off d) os):=by
 refine⟨rfl,rfl,rfl,by simp,fun k hk hne=>?_⟩
 rw[heap_grow_old _ _ (by simpa using hk)]
 have:b≠k:=fun e=>hne (by simp[e])
 simp[putRow,mapBlock,Sort.ahead,Array.getElem?_modify,this]
theorem zdv {cur:Array Value}(hB:Blk w b e cur)(q:Nat)(d:Array Int)(os:Array Obj):Blk (grow (putRow encI (Sort.ahead w q) b off d) os) b e (putCells encI off d cur):=by
 have a:=hB.lt
 unfold Blk at hB ⊢
 rw[heap_grow_old _ _ (by simpa using a)]
 simp[putRow,mapBlock,Sort.ahead,Array.getElem?_modify,hB]
 rfl
theorem JB (cur:Array Value)(d:Array Int)(h:off+d.size≤cur.size):((putCells encI off d cur).toList.drop off).take d.size=d.toList.map encI:=by
 apply List.ext_getElem?
 intro k
 rw[List.getElem?_take]
 by_cases a:k < d.size
 ·rw[if_pos a,List.getElem?_drop,List.getElem?_map]
  simp only[putCells,Array.getElem?_toList,Array.getElem?_mapIdx]
  rw[Array.getElem?_eq_getElem (show off+k < cur.size by omega),Option.map_some,if_pos ⟨by omega,by omega⟩,Nat.add_sub_cancel_left]
  simp[a]
 ·rw[if_neg a,List.getElem?_eq_none]
  simp
  omega
theorem Sl.zcG (hs:Sl w e 1 (.slice (some ⟨b,off,none⟩) n cap) h n xs)(q:Nat)(d:Array Int)(hd:d.size=n)(os:Array Obj) :
  Sl (grow (Sort.putRow encI (Sort.ahead w q) b off d) os) e 1 (.slice (some ⟨b,off,none⟩) n cap) h n (d.toList.map encI):=by
 refine⟨by simp[hd],?_⟩
 rcases hs.2 with⟨_,hv,_⟩|⟨b',off',cap',cur,hh,hv,hB,hnc,hcm,hcs,ht⟩
 ·cases hv
 ·simp only[Value.slice.injEq,Option.some.injEq,Addr.mk.injEq,and_true,true_and] at hv
  obtain⟨⟨rfl,rfl⟩,rfl⟩:=hv
  refine .inr ⟨b,off,cap,_,hh,rfl,zdv hB q d os,hnc,hcm,by simpa[putCells] using hcs,?_⟩
  rw[Nat.mul_one,←hd]
  exact JB cur d (by omega)
theorem Sl.holdsI {ss:List Int}(hs:Sl w e 1 (.slice (some ⟨b,off,none⟩) n cap) h n (ss.map encI)):Holds encI w b off ss.toArray:=by
 have m:ss.length=n:=by have:=hs.1;simpa using this
 intro j i
 have a:j < ss.length:=by simpa using i
 obtain⟨o,d,f,p,g,_,_,_,c⟩:=hs.at_ (by omega)
 simp only[Value.slice.injEq,Option.some.injEq,Addr.mk.injEq,and_true,true_and] at g
 obtain⟨⟨rfl,rfl⟩,rfl⟩:=g
 obtain⟨k,l⟩:=c j (by omega)
 refine⟨?_,l⟩
 rw[k]
 simp[a]
end
theorem JA (w:World)(v:Value)(h:Option Nat)(n:Nat)(l:List Int)(hs:Sl w 3 1 v h n (l.map encI))(hn:n≤1099511627776) :
  Calls Tryz.prog 165 #[v] w fun e w'=>e=.returned (.tuple #[])∧Sl w' 3 1 v h n ((Xr l).map encI)∧Chg h.toList w w':=by
 have a:l.length=n:=by have:=hs.1;simpa using this
 rcases hs.2 with⟨rfl,rfl,rfl⟩|⟨b,off,cap,cur,rfl,rfl,hB,hnc,hcm,hcs,ht⟩
 ·obtain rfl:l=[]:=List.eq_nil_of_length_eq_zero a
  refine(Tryz.slices_Sort_int_none none 0 w).mono ?_
  rintro e w' ⟨rfl,rfl⟩
  exact⟨rfl,by simpa[Xr] using hs,Chg.refl _ _⟩
 ·have c:=Tryz.slices_Sort_int b off cap l w hs.holdsI hB.lt (by omega)
  rw[a] at c
  refine c.mono ?_
  rintro e w' ⟨rfl,q,f,rfl⟩
  refine⟨rfl,?_,Qj _ _ _ _ _ _⟩
  have d:=hs.zcG q (Xr l).toArray (by simp[JZ,a]) f
  exact d
theorem Xx (w:World)(v:Value)(h:Option Nat)(n:Nat)(l:List Int)(hs:Sl w 3 1 v h n (l.map encI))(hn:n≤1099511627776) :
  Calls Tryz.prog 166 #[v] w fun e w'=>∃v',e=.returned v'∧Sl w' 3 1 v' h (Lib.compact l).length ((Lib.compact l).map encI)∧Chg h.toList w w':=by
 have a:l.length=n:=by have:=hs.1;simpa using this
 rcases hs.2 with⟨rfl,rfl,rfl⟩|⟨b,off,cap,cur,rfl,rfl,hB,hnc,hcm,hcs,ht⟩
 ·obtain rfl:l=[]:=List.eq_nil_of_length_eq_zero a
  refine(Tryz.slices_Compact_int_empty none 0 w).mono ?_
  rintro e w' ⟨rfl,rfl⟩
  exact⟨_,rfl,hs,Chg.refl _ _⟩
 ·have c:=Tryz.slices_Compact_int b off cap l w hs.holdsI (by omega) (by omega)
  rw[a] at c
  have i:=Lib.compact_length_le l
  refine c.mono ?_
  rintro e w' ⟨rfl,q,rfl⟩
  have d:=hs.zcG q (Lib.compact l++List.replicate (n - (Lib.compact l).length) 0).toArray (by simp;omega) #[]
  have f:=Qj w q (Lib.compact l++List.replicate (n - (Lib.compact l).length) 0).toArray b off #[]
  rw[Ql] at d f
  refine⟨_,rfl,?_,f⟩
  have g:=d.shrink (Lib.compact l).length (by omega)
  have j:((Lib.compact l++List.replicate (n - (Lib.compact l).length) 0).toArray.toList.map encI).take ((Lib.compact l).length * 1)=(Lib.compact l).map encI:=by
   simp only[List.map_append,Nat.mul_one]
   rw[List.take_append_of_le_length (by simp),List.take_of_length_le (by simp)]
  rw[j] at g
  exact g
theorem xK (w:World)(v:Value)(l:List Int)(S:List Nat)(hr:RdS w S 1 v l.length (l.map encI))(hn:l.length≤1099511627776) :
  Calls Tryz.prog 135 #[v] w fun e w'=>∃v' h',e=.returned v'∧Sl w' 3 1 v' h' l.length (l.map encI)∧Below w.heap.size w w'∧∀b,h'=some b→w.heap.size≤b:=by
 rcases hr.2 with⟨rfl,h0⟩|⟨a,cap,rfl,hnc,hcm,hat⟩
 ·obtain rfl:l=[]:=List.eq_nil_of_length_eq_zero h0
  refine(Tryz.slices_Clone_int_nil 0 0 w).mono ?_
  rintro e w' ⟨rfl,rfl⟩
  exact⟨_,none,rfl,Sl.nil _ _ _,Below.refl _ _,fun b d=>by cases d⟩
 ·rcases Nat.eq_zero_or_pos l.length with h0|hpos
  ·obtain rfl:l=[]:=List.eq_nil_of_length_eq_zero h0
   refine(Tryz.slices_Clone_int_zero a cap w).mono ?_
   rintro e w' ⟨v',rfl,c,_,d⟩
   exact⟨v',v'.ownBlock,rfl,Sl.za9 c,d,fun b d=>(c.lt b d).1⟩
  ·obtain⟨b,g,f,h,_,_,i,_,k⟩:=hr.at_ hpos
   rw[h]
   refine(Tryz.slices_Clone_int b g l.length f l w (Nat.le_refl _) (by omega) (fun j hj=>?_)).mono ?_
   ·rw[k j (by omega)]
    simp[List.getD,hj]
   ·rintro e w' ⟨v',rfl,c,_,d⟩
    rw[List.take_length] at c
    exact⟨v',v'.ownBlock,rfl,Sl.za9 c,d,fun b d=>(c.lt b d).1⟩
end Go.Proofs.YtfhlhdmhgheonaaGreatDoor
