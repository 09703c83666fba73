/-
  The plain law of ViewFollows: an update's text is made of lines, and who goes by them has the view's messages. No program in sight. What ViewFollows asks, in plain words: behind an update of all a view has the mailbox's messages. No program in sight. A line of an update, read: where it ends, where its number ends, what the number is. No program in sight. An update's lines hold no carriage return i
-/
import Derived.Test.YtnofkliaofgiaaaGreatDoorGVG
import Derived.Test.YtnofkliaofgiaaaGreatDoorGVC
import Derived.Test.YtnofkliaofgiaaaGreatDoorSeqNumM
import Derived.Test.YtnofkliaofgiaaaGreatDoorGR7
import Derived.Test.YtnofkliaofgiaaaGreatDoorGVD
import Derived.Test.YtnofkliaofgiaaaGreatDoorGVJ
set_option maxRecDepth 100000
set_option maxHeartbeats 8000000
open Go.Proofs.Tryz
open Bool renaming and_eq_true→PP,false_eq_true→Px
open Int renaming le_refl→Py
open List renaming append_assoc→O4,append_nil→Pr,cons_append→PO,filter_cons_of_pos→PM,filter_sublist→PA,find?_isSome→RA,foldl_cons→Pm,getElem?_eq_getElem→Ot,getElem_mem→Oj,length_append→Oo,length_cons→OT,length_map→Ow,length_singleton→Pf,map_append→OQ,map_congr_left→PQ,map_cons→OY,map_map→PS,mem_append→OO,mem_append_left→PJ,mem_cons→OB,mem_cons_of_mem→OP,mem_filter→OZ,mem_map→OL,mem_map_of_mem→OV,mem_of_find?_eq_some→O2,mem_singleton→OI,pairwise_cons→Pc,replicate→Pi
open Nat renaming le_refl→Oq,le_trans→Ol
open UInt8 renaming ofNat→OW,toNat_ofNat'→Rl
open _root_ renaming List→Ob,UInt8→Oz,if_neg→Om,if_pos→OG
namespace Go.Proofs.YtnofkliaofgiaaaGreatDoor
section
structure Y5 where
 n:Nat
 words:yx
def XB (l:Y5):yx:=VT (l.n:Nat) l.words
def vp (ls:Ob Y5):yx:=ls.flatMap XB
def YZ (out:Ob Int)(l:Y5):Ob Int:=
 if l.words=xS then out++Pi (l.n - out.length) 0 else if l.words=xe then out.eraseIdx (l.n - 1) else out
def XL:yx:=[70,69,84,67,72,32]
structure OkF (out:Ob Int)(l:Y5):Prop where
 clean:∀c∈l.words,c≠13
 few:l.n≤1073741824
 ok:(l.words=xS∧out.length≤l.n)∨(l.words=xe∧1≤l.n∧l.n≤out.length)∨((∃r,l.words=XL++r)∧1≤l.n∧l.n≤out.length)
def Xw:Ob Int→Ob Y5→Prop
 |_,[]=>True
 |out,l :: r=>OkF out l∧Xw (YZ out l) r
def UW (out:Ob Int)(ls:Ob Y5):Ob Int:=ls.foldl YZ out
theorem Y':∀(a b:Ob Y5) (out:Ob Int),Xw out a→Xw (UW out a) b→Xw out (a++b)
 |[],_,_,_,h=>h
 |l :: r,b,out,h,k=>⟨h.1,Y' r b (YZ out l) h.2 k⟩
theorem Q3 (a b:Ob Y5)(out:Ob Int):UW out (a++b)=UW (UW out a) b:=List.foldl_append ..
def YT (is:NL→Bool):Nat→Ob NL→Ob Y5
 |_,[]=>[]
 |i,m :: r=>if is m then YT is (i+1) r else ⟨i+1,xe⟩ :: YT is i r
theorem VM (is:NL→Bool):∀(i:Nat) (l:Ob NL),YF is i l=vp (YT is i l)
 |_,[]=>rfl
 |i,m :: r=>by
  unfold YF YT
  split
  ·exact VM is (i+1) r
  ·rw[VM is i r]
   show VT (((i:Nat):Int)+1) xe++_=VT (((i+1:Nat):Nat):Int) xe++vp (YT is i r)
   rw[show (((i:Nat):Int)+1)=((i+1:Nat):Int) from by omega]
theorem JZ (n:Nat)(out:Ob Int):YZ out ⟨n,xe⟩=out.eraseIdx (n - 1):=by
 unfold YZ
 rw[Om (show ¬xe=xS by decide),OG rfl]
theorem QE (n:Nat)(out:Ob Int):YZ out ⟨n,xS⟩=out++Pi (n - out.length) 0:=by
 unfold YZ
 rw[OG rfl]
theorem XS (is:NL→Bool):∀(i:Nat) (l:Ob NL) (pre:Ob Int),pre.length=i→i+l.length≤1073741824→
  Xw (pre++l.map (·.uid)) (YT is i l)∧UW (pre++l.map (·.uid)) (YT is i l)=pre++(l.filter is).map (·.uid)
 |_,[],pre,_,_=>⟨trivial,rfl⟩
 |i,m :: r,pre,hi,hn=>by
  rw[OT] at hn
  unfold YT
  cases hm:is m with
  |true=>
   rw[OG rfl,PM hm]
   have ih:=XS is (i+1) r (pre++[m.uid]) (by simp[hi]) O
   simpa using ih
  |false=>
   rw[Om zD,List.filter_cons_of_neg (by rw[hm];decide)]
   have ih:=XS is i r pre hi O
   have he:YZ (pre++(m :: r).map (·.uid)) ⟨i+1,xe⟩=pre++r.map (·.uid):=by
    rw[JZ,Nat.add_sub_cancel,List.eraseIdx_append_of_length_le O,show i - pre.length=0 by omega]
    rfl
   refine⟨⟨⟨show ∀c∈xe,c≠13 by decide,by show i+1≤_;omega,.inr (.inl ⟨rfl,by show 1≤i+1;omega,?_⟩)⟩,?_⟩,?_⟩
   ·show i+1≤(pre++(m :: r).map (·.uid)).length
    simp
    omega
   ·rw[he]
    exact ih.1
   ·show UW (YZ _ _) _=_
    rw[he]
    exact ih.2
def vy (flags:Ob yx→yx)(uid:Int)(z:zR):yx:=Vv++[32]++XD uid++[32]++Vw++[32]++flags z.keys++[32]++(LS++XD z.mod++[41,41])
def UO (flags:Ob yx→yx)(zs:Ob (Int×zR)):Nat→Ob NL→Ob Y5
 |_,[]=>[]
 |i,m :: r=>(match YE zs m with
  |some z=>if m.told < z.2.mod then [⟨i+1,vy flags m.uid z.2⟩] else []
  |none=>[])++UO flags zs (i+1) r
theorem Xn (a b:Ob Y5):vp (a++b)=vp a++vp b:=by simp[vp]
theorem aG (flags:Ob yx→yx)(zs:Ob (Int×zR)):∀(i:Nat) (l:Ob NL),xU flags zs i l=vp (UO flags zs i l)
 |_,[]=>rfl
 |i,m :: r=>by
  unfold xU UO
  rw[Xn,aG flags zs (i+1) r]
  congr 1
  cases YE zs m with
  |none=>rfl
  |some z=>
   simp only
   split
   ·show XK flags i m.uid z.2=VT (((i+1:Nat):Nat):Int) (vy flags m.uid z.2)++[]
    rw[Pr,←show (((i:Nat):Int)+1)=((i+1:Nat):Int) from by omega]
    rfl
   ·rfl
theorem Ul (n:Nat):∀c∈Lib.decDigits n,48≤c.toNat∧c.toNat≤57:=by
 induction n using Nat.strongRecOn with
 |ind n ih=>
  intro c a
  have b:∀k,k < 10→(OW (48+k)).toNat=48+k:=fun k hk=>by
   rw[Rl]
   omega
  rw[Lib.decDigits] at a
  split at a
  ·rename_i h
   rw[OI] at a
   rw[a,b n h]
   omega
  ·rename_i h
   rcases OO.1 a with h1|h1
   ·exact ih (n / 10) O c h1
   ·rw[OI] at h1
    rw[h1,b (n % 10) O]
    omega
theorem XI (n:Nat):∀c∈Lib.decDigits n,c≠13:=fun c hc h=>by
 have:=Ul n c hc
 rw[h] at this
 exact absurd this.1 zD
theorem XM (flags:Ob yx→yx)(uid:Int)(z:zR):∃r,vy flags uid z=XL++r:=
 ⟨_,by unfold vy;simp only[O4];rfl⟩
theorem sB (flags:Ob yx→yx)(n:Nat)(uid:Int)(z:zR)(out:Ob Int):YZ out ⟨n,vy flags uid z⟩=out:=by
 obtain⟨r,a⟩:=XM flags uid z
 unfold YZ
 rw[Om (show ¬vy flags uid z=xS by rw[a];intro h;cases h),Om (show ¬vy flags uid z=xe by rw[a];intro h;cases h)]
theorem Qb (flags:Ob yx→yx)(zs:Ob (Int×zR))(hz:∀z∈zs,∀uid,∀c∈vy flags uid z.2,c≠13):∀(i:Nat) (l:Ob NL) (out:Ob Int),i+l.length≤out.length→out.length≤1073741824→
  Xw out (UO flags zs i l)∧UW out (UO flags zs i l)=out
 |_,[],_,_,_=>⟨trivial,rfl⟩
 |i,m :: r,out,h,hb=>by
  rw[OT] at h
  have ih:=Qb flags zs hz (i+1) r out O hb
  unfold UO
  cases hq:YE zs m with
  |none=>exact ih
  |some z=>
   simp only
   split
   ·have hz2:z∈zs:=O2 hq
    have he:=sB flags (i+1) m.uid z.2 out
    refine⟨⟨⟨hz z hz2 _,by show i+1≤_;omega,.inr (.inr ⟨XM ..,by show 1≤i+1;omega,by show i+1≤_;omega⟩)⟩,?_⟩,?_⟩
    ·rw[he]
     exact ih.1
    ·show UW (YZ _ _) _=_
     rw[he]
     exact ih.2
   ·exact ih
def lO (flags:Ob yx→yx)(zs:Ob (Int×zR))(v:yI)(all:Bool):Ob Y5:=
 let l1:=if all then v.l.filter (N6 zs) else v.l
 (if all then YT (N6 zs) 0 v.l else [])++UO flags zs 0 l1++(if l1.length < (yH flags zs v all).2.l.length then [⟨(yH flags zs v all).2.l.length,xS⟩] else [])
theorem wP (flags:Ob yx→yx)(zs:Ob (Int×zR))(v:yI)(all:Bool):(yH flags zs v all).1=vp (lO flags zs v all):=by
 unfold lO
 simp only
 rw[Xn,Xn,←aG]
 unfold yH
 simp only
 congr 1
 ·congr 1
  split
  ·exact VM _ _ _
  ·rfl
 ·cases all <;> simp only[if_true,Px,if_false] <;> split <;> first|rfl|(show _=VT _ _++[];rw[Pr])
theorem D4 (flags:Ob yx→yx)(zs:Ob (Int×zR))(hz:∀z∈zs,∀uid,∀c∈vy flags uid z.2,c≠13)(v:yI)(all:Bool)(hn:v.l.length+zs.length≤1073741824) :
  Xw (v.l.map (·.uid)) (lO flags zs v all)∧∃k,UW (v.l.map (·.uid)) (lO flags zs v all)=(if all then v.l.filter (N6 zs) else v.l).map (·.uid)++Pi k 0∧
   k+(if all then v.l.filter (N6 zs) else v.l).length=(yH flags zs v all).2.l.length:=by
 obtain⟨a,b⟩:∃a,(if all then v.l.filter (N6 zs) else v.l)=a:=⟨_,rfl⟩
 obtain⟨d,f⟩:∃d,(yH flags zs v all).2.l.length=d:=⟨_,rfl⟩
 have q:a.length≤v.l.length:=by
  rw[←b]
  split
  ·exact List.length_filter_le _ _
  ·exact Oq _
 have j:a.length≤d∧d≤a.length+zs.length:=by
  rw[←f]
  unfold yH
  simp only
  rw[b]
  have n:=(Us v.had zs ⟨v.box,a.map (xi zs),v.had⟩).2
  have t:∀(m:Ob (Int×zR)) (u:yI),u.l.length≤(yy v.had m u).l.length:=by
   intro m
   induction m with
   |nil=>intro u;exact Oq _
   |cons y r ih=>
    intro u
    unfold yy at ih ⊢
    rw[Pm]
    refine Ol ?_ (ih _)
    split
    ·show u.l.length≤(u.l++[_]).length
     rw[Oo]
     omega
    ·exact Oq _
  have o:=t zs ⟨v.box,a.map (xi zs),v.had⟩
  simp only[Ow] at n o
  exact⟨o,n⟩
 have i:Xw (v.l.map (·.uid)) (if all then YT (N6 zs) 0 v.l else [])∧UW (v.l.map (·.uid)) (if all then YT (N6 zs) 0 v.l else [])=a.map (·.uid):=by
  cases all with
  |true=>
   have h:=XS (N6 zs) 0 v.l [] rfl O
   rw[←b]
   simpa using h
  |false=>
   rw[←b]
   exact⟨trivial,rfl⟩
 have s:=Qb flags zs hz 0 a (a.map (·.uid)) zv zT
 unfold lO
 simp only
 rw[b,f]
 have p:Xw (v.l.map (·.uid)) ((if all then YT (N6 zs) 0 v.l else [])++UO flags zs 0 a):=Y' _ _ _ i.1 (by rw[i.2];exact s.1)
 have g:UW (v.l.map (·.uid)) ((if all then YT (N6 zs) 0 v.l else [])++UO flags zs 0 a)=a.map (·.uid):=by rw[Q3,i.2,s.2]
 by_cases e:a.length < d
 ·rw[OG e]
  refine⟨Y' _ _ _ p ?_,d - a.length,?_,O⟩
  ·rw[g]
   exact⟨⟨show ∀c∈xS,c≠13 by decide,by show d≤_;omega,.inl ⟨rfl,by rw[Ow];exact j.1⟩⟩,trivial⟩
  ·rw[Q3,g]
   show YZ (a.map (·.uid)) ⟨d,xS⟩=_
   rw[QE,Ow]
 ·rw[Om e,Pr]
  exact⟨p,0,by rw[g];simp,O⟩
theorem iK {x:Acc}(h:Fit x)(h1:(1:Int)∈ids x.zg)(a:Uc):(1:Int)∈ids (N5 x a).1.zg:=by
 have hm:∀(l:Ob xA),ids l=ids x.zg→(1:Int)∈ids l:=fun l e=>by rw[e];exact h1
 have Ir:∀mod is,ids (zI mod is x.zg)=ids x.zg:=fun mod is=>(xx x.N3 mod is x.zg h.idsB).ids
 have c:∀mod is js,js.Nodup→ids (zI mod is (zM js x.zg).1)=ids x.zg:=fun mod is js hj=>by
  have d:ids (zM js x.zg).1=ids x.zg:=by
   rw[vT js x.zg h.idsB hj]
   exact Ym js x.zg
  rw[(xx x.N3 mod is _ (by rw[d];exact h.idsB)).ids,d]
 unfold N5
 split
 ·unfold ue
  repeat' split
  all_goals first
   |exact h1
   |(show (1:Int)∈ids (x.zg++_)
     unfold Proofs.YtnofkliaofgiaaaGreatDoor.ids
     rw[OQ]
     exact PJ _ h1)
 split
 ·unfold yB
  repeat' split
  all_goals first
   |exact h1
   |(refine hm _ ?_
     show ids (zI _ _ (xK _ _ x.zg))=_
     have d:ids (xK a.id (fun b=>{b with name:=a.name,zB:=a.at_}) x.zg)=ids x.zg:=by
      rw[Yd _ _ _ h.idsB]
      exact U5 _ _ fun b=>by split <;> rfl
     rw[(xx x.N3 _ _ _ (by rw[d];exact h.idsB)).ids,d])
 split
 ·unfold vR
  by_cases f:zZ x.zg a.id=false
  ·rw[OG f];exact h1
  rw[Om f]
  by_cases g:a.id=1
  ·rw[OG g];exact h1
  rw[Om g]
  repeat' split
  all_goals first
   |exact h1
   |(show (1:Int)∈ids (x.zg.eraseIdx (xC a.id x.zg).toNat)
     have j:x.zg.any (fun b=>decide (b.id=a.id))=true:=by
      cases i:zZ x.zg a.id with
      |true=>exact i
      |false=>exact absurd i f
     rw[show xC a.id x.zg=yU (fun b=>decide (b.id=a.id)) x.zg from rfl,uu _ _ j]
     exact U4 (fun e=>g e.symm) _ h1)
 split
 ·unfold ya xO
  repeat' split
  all_goals first
   |exact h1
   |exact hm _ (c _ _ _ (xZ _))
 split
 ·unfold vx VN
  exact GV
 split
 ·unfold xn
  split
  ·exact h1
  ·simp only
   repeat' split
   all_goals first
    |exact h1
    |exact hm _ (c _ _ _ ((xZ _).sublist PA))
 split
 ·unfold yQ
  exact GV
 ·exact h1
structure rN (x:Acc)(v:yI):Prop where
 cover:∀z∈N9 x 1,z.1≤v.had→∃m∈v.l,m.uid=z.1∧m.id=z.2.id
 rise:(v.l.map (·.uid)).Pairwise (· < ·)
 top:∀m∈v.l,m.uid≤v.had
 first:(1:Int)∈ids x.zg
 next:v.had < yb x.zg 1
theorem LA {x:Acc}(h:NW x){m:zR}(hm:m∈x.zC){p:Int×Int}(hp:p∈m.zr):yY m.zr p.1=p.2:=by
 have b:=(h.mem m hm).1
 have c:∀l:Ob (Int×Int),(l.map (·.1)).Pairwise (· < ·)→p∈l→yY l p.1=p.2:=by
  intro l
  induction l with
  |nil=>intro _ h;cases h
  |cons a r ih=>
   intro b hp
   rw[OY,Pc] at b
   rcases OB.1 hp with rfl|h1
   ·simp[yY]
   ·have f:=b.1 p.1 (OV h1)
    have d:=ih b.2 h1
    have e:¬a.1=p.1:=O
    rw[←d]
    simp[yY,e]
 exact c _ b hp
theorem rN.act {x x':Acc}{v:yI}(h:rN x v)(hx:NW x)(he:NI x x')(h1:(1:Int)∈ids x'.zg):rN x' v:=by
 refine⟨fun z hz hle=>?_,h.rise,h.top,h1,Int.lt_of_lt_of_le h.next (he.next 1 h1 h.first)⟩
 obtain⟨e,g2,g3⟩:=Xp hz
 have c:=Vk (l:=z.2.zr) (box:=1) bJ
 rw[←g2] at c
 obtain⟨k,a⟩:=he.mem
 rcases a z.2 e _ c with⟨m,hm,hid,hp⟩|⟨_,_,b⟩
 ·have b:=LA hx hm hp
  simp only at b
  have d:=L0 (x:=x) (box:=1) hm (by rw[b];exact g3)
  rw[b] at d
  obtain⟨j,f,g,i⟩:=h.cover _ d hle
  exact⟨j,f,g,i.trans hid⟩
 ·simp only at b
  have:=h.next
  omega
theorem cI (had:Int):∀(zs:Ob (Int×zR)) (v:yI),(yy had zs v).l=v.l++(zs.filter fun z=>decide (had < z.1)).map Ua
 |[],v=>by simp[yy]
 |z :: r,v=>by
  have ih:=cI had r (if had < z.1 then UV v z else v)
  unfold yy at ih ⊢
  rw[Pm,ih]
  by_cases h:had < z.1
  ·rw[OG h,PM vZ]
   simp[UV,Ua]
  ·rw[Om h,List.filter_cons_of_neg vZ]
theorem iV (had:Int):∀(zs:Ob (Int×zR)) (v:yI),v.had≤(yy had zs v).had∧(∀z∈zs,had < z.1→z.1≤(yy had zs v).had)∧((yy had zs v).had=v.had∨∃z∈zs,(yy had zs v).had=z.1)
 |[],v=>⟨Py _,fun z hz=>(by cases hz),.inl rfl⟩
 |z :: r,v=>by
  obtain⟨h1,h2,h3⟩:=iV had r (if had < z.1 then UV v z else v)
  have e:yy had (z :: r) v=yy had r (if had < z.1 then UV v z else v):=rfl
  rw[e]
  by_cases h:had < z.1
  ·rw[OG h] at h1 h2 h3 ⊢
   have h4:max v.had z.1≤(yy had r (UV v z)).had:=h1
   refine⟨O,fun y hy hl=>?_,?_⟩
   ·rcases OB.1 hy with rfl|hy
    ·omega
    ·exact h2 y hy hl
   ·rcases h3 with h3|⟨y,hy,h3⟩
    ·have h5:(yy had r (UV v z)).had=max v.had z.1:=h3
     by_cases hc:v.had≤z.1
     ·exact .inr ⟨z,zv,O⟩
     ·exact .inl O
    ·exact .inr ⟨y,OP _ hy,h3⟩
  ·rw[Om h] at h1 h2 h3 ⊢
   refine⟨h1,fun y hy hl=>?_,?_⟩
   ·rcases OB.1 hy with rfl|hy
    ·exact absurd hl h
    ·exact h2 y hy hl
   ·rcases h3 with h3|⟨y,hy,h3⟩
    ·exact .inl h3
    ·exact .inr ⟨y,OP _ hy,h3⟩
theorem Qd (flags:Ob yx→yx)(zs:Ob (Int×zR))(v:yI)(all:Bool):(yH flags zs v all).2.l=(if all then v.l.filter (N6 zs) else v.l).map (xi zs)++(zs.filter fun z=>decide (v.had < z.1)).map Ua:=cI _ _ _
theorem ZU (flags:Ob yx→yx)(zs:Ob (Int×zR))(v:yI)(all:Bool):(yH flags zs v all).2.l.map (·.uid)=(if all then v.l.filter (N6 zs) else v.l).map (·.uid)++(zs.filter fun z=>decide (v.had < z.1)).map (·.1):=by
 rw[Qd,OQ,PS,PS]
 congr 1
 exact PQ fun m _=>(UQ zs m).1
theorem rN.upd {x:Acc}{v:yI}(h:rN x v)(hx:NW x)(flags:Ob yx→yx)(all:Bool):rN x (yH flags (N9 x 1) v all).2:=by
 have r:=Qd flags (N9 x 1) v all
 have A:=ZU flags (N9 x 1) v all
 obtain⟨g,i,q⟩:=iV v.had (N9 x 1) ⟨v.box,(if all then v.l.filter (N6 (N9 x 1)) else v.l).map (xi (N9 x 1)),v.had⟩
 have w:(yH flags (N9 x 1) v all).2.had=(yy v.had (N9 x 1) ⟨v.box,(if all then v.l.filter (N6 (N9 x 1)) else v.l).map (xi (N9 x 1)),v.had⟩).had:=rfl
 rw[←w] at g i q
 generalize (yH flags (N9 x 1) v all).2=v' at *
 have f:∀m∈(if all then v.l.filter (N6 (N9 x 1)) else v.l),m∈v.l:=fun m d=>by
  split at d
  ·exact(OZ.1 d).1
  ·exact d
 have n:((if all then v.l.filter (N6 (N9 x 1)) else v.l).map (·.uid)).Pairwise (· < ·):=by
  split
  ·exact h.rise.sublist (PA.map _)
  ·exact h.rise
 refine⟨fun z e hle=>?_,?_,fun m d=>?_,h.first,?_⟩
 ·rw[r]
  by_cases o:z.1≤v.had
  ·obtain⟨m,d,c,j⟩:=h.cover z e o
   have u:N6 (N9 x 1) m=true:=by
    unfold N6 YE
    rw[RA]
    exact⟨z,e,by simp[N7,c,j]⟩
   have k:m∈(if all then v.l.filter (N6 (N9 x 1)) else v.l):=by
    split
    ·exact OZ.2 ⟨d,u⟩
    ·exact d
   have p:=UQ (N9 x 1) m
   exact⟨xi (N9 x 1) m,PJ _ (OV k),p.1.trans c,p.2.trans j⟩
  ·exact⟨Ua z,List.mem_append_right _ (OV (OZ.2 ⟨e,zT⟩)),rfl,rfl⟩
 ·rw[A,List.pairwise_append]
  refine⟨n,(uW hx 1).sublist (PA.map _),fun a g b i=>?_⟩
  obtain⟨m,d,rfl⟩:=OL.1 g
  obtain⟨z,e,rfl⟩:=OL.1 i
  have c:=h.top m (f m d)
  have j:=of_decide_eq_true (OZ.1 e).2
  omega
 ·rw[r] at d
  rcases OO.1 d with c|c
  ·obtain⟨y,B,rfl⟩:=OL.1 c
   rw[(UQ _ y).1]
   exact Int.le_trans (h.top y (f y B)) g
  ·obtain⟨z,e,rfl⟩:=OL.1 c
   exact i z (OZ.1 e).1 (of_decide_eq_true (OZ.1 e).2)
 ·rcases q with c|⟨z,e,c⟩
  ·rw[c]
   exact h.next
  ·rw[c]
   obtain⟨t,g2,g3⟩:=Xp e
   have s:=Vk (l:=z.2.zr) (box:=1) bJ
   have k:=((hx.fit.mail z.2 t).mem.each _ s).2.2
   rw[g2]
   exact k
theorem rN.all {x:Acc}{v:yI}(h:rN x v)(hx:NW x)(flags:Ob yx→yx):(yH flags (N9 x 1) v true).2.l.map (·.uid)=(N9 x 1).map (·.1):=by
 have f:=h.upd hx flags true
 refine Zs f.rise (uW hx 1) fun y=>⟨fun hy=>?_,fun hy=>?_⟩
 ·rw[ZU] at hy
  rcases OO.1 hy with h1|h1
  ·obtain⟨m,d,rfl⟩:=OL.1 h1
   have b:=(OZ.1 d).2
   unfold N6 YE at b
   rw[RA] at b
   obtain⟨z,a,c⟩:=b
   simp only[N7,PP,decide_eq_true_eq] at c
   exact OL.2 ⟨z,a,c.1⟩
  ·obtain⟨z,a,rfl⟩:=OL.1 h1
   exact OV (OZ.1 a).1
 ·obtain⟨z,a,rfl⟩:=OL.1 hy
  by_cases e:z.1≤v.had
  ·obtain⟨m,d,b,c⟩:=h.cover z a e
   rw[ZU]
   refine PJ _ (OL.2 ⟨m,?_,b⟩)
   rw[OG rfl]
   refine OZ.2 ⟨d,?_⟩
   unfold N6 YE
   rw[RA]
   exact⟨z,a,by simp[N7,b,c]⟩
  ·rw[ZU]
   exact List.mem_append_right _ (OL.2 ⟨z,OZ.2 ⟨a,zT⟩,rfl⟩)
end
section
open Go.Lib
theorem J2:∀(a b:Ob Oz) (n:Int),ZM (a++b) n=(ZM a n).bind (ZM b)
 |[],_,_=>rfl
 |c :: r,b,n=>by
  rw[PO]
  unfold ZM
  split
  ·rfl
  ·exact J2 r b _
theorem CP (n:Nat):ZM (decDigits n) 0=some (n:Int):=by
 induction n using Nat.strongRecOn with
 |ind n ih=>
  have b:∀k,k < 10→(OW (48+k)).toNat=48+k:=fun k hk=>by
   rw[Rl]
   omega
  have a:∀k (m:Int),k < 10→ZM [OW (48+k)] m=some (m * 10+(k:Int)):=fun k m hk=>by
   unfold ZM
   rw[b k hk,Om O]
   unfold ZM
   congr 1
   omega
  rw[decDigits]
  split
  ·rename_i h
   rw[a n 0 h]
   congr 1
   omega
  ·rename_i h
   rw[J2,ih (n / 10) O]
   show ZM _ _=_
   rw[a (n % 10) _ O]
   congr 1
   omega
theorem LM (n:Nat):decDigits n≠[]:=by
 rw[decDigits]
 split <;> simp
theorem Ky (n:Nat)(h:1≤n):(decDigits n).head?≠some 48:=by
 induction n using Nat.strongRecOn with
 |ind n ih=>
  rw[decDigits]
  split
  ·rename_i h1
   intro e
   injection e with e
   have a:=congrArg UInt8.toNat e
   rw[Rl] at a
   have d:(48:Oz).toNat=48:=rfl
   omega
  ·rename_i h1
   have a:=ih (n / 10) O O
   rw[List.head?_append]
   cases b:(decDigits (n / 10)).head? with
   |none=>exact absurd (List.head?_eq_none_iff.1 b) (LM _)
   |some c=>
    rw[b] at a
    exact a
theorem AG (n:Nat)(k:Nat)(h:n < 10 ^ (k+1)):(decDigits n).length≤k+1:=by
 induction k generalizing n with
 |zero=>
  rw[decDigits,dif_pos vZ]
  simp
 |succ k ih=>
  rw[decDigits]
  split
  ·simp
  ·rw[Oo,Pf]
   have:=ih (n / 10) (by rw[Nat.div_lt_iff_lt_mul zD];rw[Nat.pow_succ] at h;exact h)
   omega
theorem tJ (n:Nat)(h:n≤1073741824):XX (decDigits n)=((n:Int),true):=by
 have e:=AG n 9 O
 unfold XX
 have b:¬(decDigits n=[]∨10 < (decDigits n).length∨((decDigits n).head?=some 48∧1 < (decDigits n).length)):=by
  rintro(a|a|⟨a,c⟩)
  ·exact LM n a
  ·omega
  ·by_cases d:n=0
   ·subst d
    rw[decDigits,dif_pos zD] at c
    simp at c
   ·exact Ky n O a
 rw[Om b,CP]
 simp only
 rw[Om O]
theorem qT (a b:Ob Oz)(c:Oz)(tl:Ob Oz)(ha:∀y∈a,y≠c):index (a++(c :: tl)++b) (c :: tl)=(a.length:Int):=by
 refine index_hit (fun j hj=>?_) zv ?_
 ·cases e:occAt (a++(c :: tl)++b) (c :: tl) j with
  |false=>rfl
  |true=>
   unfold occAt at e
   rw[List.isPrefixOf_iff_prefix] at e
   obtain⟨r,g⟩:=e
   have d:(a++(c :: tl)++b)[j]?=some c:=by
    have f:((a++(c :: tl)++b).drop j)[0]?=some c:=by rw[←g];rfl
    rw[List.getElem?_drop,Nat.add_zero] at f
    exact f
   rw[O4,List.getElem?_append_left hj,Ot hj] at d
   injection d with d
   exact absurd d (ha _ (Oj hj))
 ·unfold occAt
  rw[List.isPrefixOf_iff_prefix,O4,List.drop_left']
  ·exact⟨b,rfl⟩
  ·rfl
theorem Yb (l:Y5):XB l=42 :: 32 :: (decDigits l.n++32 :: (l.words++[13,10])):=by
 unfold XB VT XD
 simp
theorem tj (l:Y5)(R:yx)(hc:∀c∈l.words,c≠13):index (XB l++R) [13,10]=(((decDigits l.n).length+l.words.length+3:Nat):Int):=by
 have h:=qT (42 :: 32 :: (decDigits l.n++32 :: l.words)) R 13 [10] (fun y hy=>by
  simp only[OB,OO] at hy
  rcases hy with rfl|rfl|h1|rfl|h1
  ·decide
  ·decide
  ·exact XI _ y h1
  ·decide
  ·exact hc y h1)
 rw[Yb]
 have e:42 :: 32 :: (decDigits l.n++32 :: (l.words++[13,10]))++R=42 :: 32 :: (decDigits l.n++32 :: l.words)++[13,10]++R:=zv
 rw[e,h]
 simp
 omega
theorem td (n:Nat)(words:yx):index (decDigits n++32 :: words) [32]=((decDigits n).length:Int):=by
 have h:=qT (decDigits n) words 32 [] (fun y hy e=>by
  have a:=Ul n y hy
  rw[e] at a
  exact absurd a.1 zD)
 simpa using h
end
section
theorem mL (s:yx)(h:∀c∈s,c≠13):∀c∈ZW s,c≠13:=by
 unfold ZW Xx
 split
 ·decide
 split
 ·decide
 split
 ·decide
 split
 ·decide
 split
 ·decide
 ·simpa using h
theorem wT (l:yF)(h:∀s∈l,∀c∈s,c≠13):∀i,i≤l.length→∀c∈J l i,c≠13
 |0,_=>by simp[gW]
 |i+1,hi=>by
  have ih:=wT l h i (Nat.le_of_succ_le hi)
  have h1:=mL l[i] (h _ (Oj O))
  by_cases h0:i=0
  ·subst h0
   rw[lX l O]
   exact h1
  ·rw[wU l i O O]
   intro c hc
   rcases OO.1 hc with hc|hc
   ·rcases OO.1 hc with hc|hc
    ·exact ih c hc
    ·rw[OI] at hc
     rw[hc]
     decide
   ·exact h1 c hc
theorem nW (s:yx)(h:xD s=true):∀c∈s,c≠13:=by
 intro c b e
 subst e
 unfold xD Y8 at h
 simp only[PP,List.all_eq_true] at h
 have a:=h.1.1.1 _ b
 unfold Ui at a
 simp only[PP,decide_eq_true_eq] at a
 have d:((13:Oz).toNat:Int)=13:=rfl
 omega
theorem cF (a:Int):∀c∈XD a,c≠13:=by
 unfold XD
 exact XI _
theorem oM (z:zR)(hk:∀s∈z.keys,xD s=true)(uid:Int):∀c∈vy yq uid z,c≠13:=by
 have b:∀c∈yq z.keys,c≠13:=by
  unfold yq
  intro c a
  rcases OO.1 a with a|a
  ·rcases OB.1 a with rfl|a
   ·decide
   ·exact wT z.keys (fun s hs=>nW s (hk s hs)) _ (Oq _) c a
  ·rw[OI] at a
   rw[a]
   decide
 have d:=cF uid
 have e:=cF z.mod
 have f:∀c∈Vv,c≠13:=zD
 have g:∀c∈Vw,c≠13:=zD
 have h:∀c∈LS,c≠13:=zD
 unfold vy
 intro c a
 simp only[OO,OB,List.not_mem_nil,or_false] at a
 rcases a with((((((((a|a)|a)|a)|a)|a)|a)|a)|(a|a)|a)
 ·exact f c a
 ·rw[a];decide
 ·exact d c a
 ·rw[a];decide
 ·exact g c a
 ·rw[a];decide
 ·exact b c a
 ·rw[a];decide
 ·exact h c a
 ·exact e c a
 ·rcases a with rfl|rfl <;> decide
theorem EB {x:Acc}(h:NW x)(box:Int):∀z∈N9 x box,∀uid,∀c∈vy yq uid z.2,c≠13:=fun z hz uid=>
 oM z.2 (fun s hs=>h.km.keys _ (Xp hz).1 s hs) uid
theorem LB {zs:Ob (Int×zR)}(hz:∀z∈zs,NY z)(v:yI)(all:Bool)(hu:∀m∈v.l,m.uid≤9223372036854775807)(hl:v.l.length≤1048576)(hz2:zs.length≤1048576):(yH yq zs v all).1.length≤1099511627776:=by
 have f:=Yl (N6 zs) v.l 0 O
 obtain⟨a,c⟩:∃a,(if all then v.l.filter (N6 zs) else v.l)=a:=⟨_,rfl⟩
 have d:a.length≤v.l.length∧∀m∈a,m∈v.l:=by
  rw[←c]
  split
  ·exact⟨List.length_filter_le _ _,fun m hm=>(OZ.1 hm).1⟩
  ·exact⟨Oq _,fun _ h=>h⟩
 have g:=Y1 hz a 0 (fun m hm=>hu m (d.2 m hm)) O
 have e:=(Us v.had zs ⟨v.box,a.map (xi zs),v.had⟩).2
 simp only[Ow] at e
 unfold yH
 simp only
 rw[c]
 generalize (yy v.had zs ⟨v.box,a.map (xi zs),v.had⟩).l.length=n3 at e
 have k:=Qp (n3:Int) O xS
 have n:xS.length=6:=rfl
 simp only[Oo]
 have i:(if all=true then YF (N6 zs) 0 v.l else []).length≤40 * v.l.length:=by
  split
  ·exact f
  ·simp
 have j:(if a.length < n3 then VT (n3:Int) xS else []).length≤32:=by
  split
  ·omega
  ·simp
 first
  |omega
  |(refine Ol (Nat.add_le_add (Nat.add_le_add i g) ?_) (b:=40 * v.l.length+30300 * a.length+32) O;exact j)
structure LD (us uids:Ob Int)(ls:Ob Y5)(text:yx)(all:Bool):Prop where
 text:text=vp ls
 chain:Xw us ls
 small:(vp ls).length≤1099511627776
 len:(UW us ls).length=uids.length
 more:all=false→us.length≤uids.length
 same:∀i (h1:i < (UW us ls).length) (h2:i < uids.length),(UW us ls)[i]=0∨(UW us ls)[i]=uids[i]
theorem upd_out {x:Acc}(hx:NW x){v:yI}(all:Bool)(hz:∀z∈N9 x 1,NY z)(hu:∀m∈v.l,m.uid≤9223372036854775807)(hl:v.l.length≤1048576)(hz2:(N9 x 1).length≤1048576) :
  LD (v.l.map (·.uid)) ((yH yq (N9 x 1) v all).2.l.map (·.uid)) (lO yq (N9 x 1) v all) (yH yq (N9 x 1) v all).1 all:=by
 obtain⟨e,k,a,g⟩:=D4 yq (N9 x 1) (EB hx 1) v all O
 have b:=ZU yq (N9 x 1) v all
 have c:=wP yq (N9 x 1) v all
 have f:=LB hz v all hu hl hz2
 refine⟨c,e,by rw[←c];exact f,?_,fun ha=>?_,fun i i1 i2=>?_⟩
 ·rw[a,Oo,List.length_replicate,Ow,Ow]
  omega
 ·subst ha
  rw[b,Oo]
  simp only[Px,if_false]
  omega
 ·by_cases d:i < ((if all then v.l.filter (N6 (N9 x 1)) else v.l).map (·.uid)).length
  ·right
   simp only[a,b]
   rw[List.getElem_append_left d,List.getElem_append_left d]
  ·left
   simp only[a]
   rw[List.getElem_append_right O,List.getElem_replicate]
end
end Go.Proofs.YtnofkliaofgiaaaGreatDoor
