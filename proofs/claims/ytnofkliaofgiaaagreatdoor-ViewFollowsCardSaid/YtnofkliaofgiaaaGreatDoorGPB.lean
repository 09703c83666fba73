/-
  The reference's Place in plain words: which mailboxes are new, which are turned, how the members are written anew. No program in sight. The reference's Place: words, and the ways in which it refuses at once. Printed by gen_refplace.py. The walk of the reference's Place where the email and the mailboxes are there. Printed by gen_refplace.py.
-/
import Derived.Test.YtnofkliaofgiaaaGreatDoorGRS
import Derived.Test.YtnofkliaofgiaaaGreatDoorGE
import Derived.Test.YtnofkliaofgiaaaGreatDoorGPA
import Derived.Test.YtnofkliaofgiaaaGreatDoorGRA
import Derived.Test.YtnofkliaofgiaaaGreatDoorGRD
set_option maxRecDepth 100000
set_option maxHeartbeats 8000000
open Go.Proofs.Tryz
open Exists renaming intro→OA
open Go renaming Program→Pv,TypeId→Pa,Value→Oe,World→Oc
open Go.Ending renaming returned→RR
open Go.IntKind renaming i64→Ov
open Go.IntWalk renaming i64_in→Og
open Go.RowKit renaming Below→Od
open Go.RowKit.Below renaming refl→Ok
open Go.Value renaming pointer→RQ,slice→RO,string→RP
open Go.Value.slice renaming inj→OM
open List renaming append_assoc→O4,append_nil→Pr,eq_nil_of_length_eq_zero→Oi,filter_cons_of_pos→PM,filter_nil→RL,filter_sublist→PA,find?_cons_of_neg→Pb,find?_cons_of_pos→PN,getElem?_eq_getElem→Ot,getElem?_eq_some_iff→OX,getElem?_map→O5,getElem_mem→Oj,getElem_of_mem→Pg,getElem_set_self→Ph,length_append→Oo,length_map→Ow,length_set→Pd,length_take→OU,map_append→OQ,map_cons→OY,map_map→PS,mem_append→OO,mem_cons→OB,mem_cons_of_mem→OP,mem_filter→OZ,mem_map→OL,mem_map_of_mem→OV,mem_of_find?_eq_some→O2,nil_append→PE,nodup_append→P6,pairwise_cons→Pc,pairwise_iff_getElem→PF,pairwise_map→P0,sublist_append_left→Ru,take_of_length_le→Ou,take_succ_eq_append_getElem→Oh
open Nat renaming le_refl→Oq,le_trans→Ol,zero_le→OE
open Option.some renaming injEq→Pk
open Prod.mk renaming injEq→Rt
open _root_ renaming List→Ob,Option→OC,decide_eq_false→OD,decide_eq_true→OS,if_neg→Om,if_pos→OG
namespace Go.Proofs.YtnofkliaofgiaaaGreatDoor
section
theorem J5:∀a b:Ob (Int×Int),a.Pairwise (fun p q=>p.1 < q.1)→b.Pairwise (fun p q=>p.1 < q.1)→(∀q,q∈a↔q∈b)→a=b
 |[],[],_,_,_=>rfl
 |[],y :: s,_,_,h=>by
  have:=(h y).2 zv
  cases this
 |x :: r,[],_,_,h=>by
  have:=(h x).1 zv
  cases this
 |x :: r,y :: s,ha,hb,h=>by
  rw[Pc] at ha hb
  have hxy:x=y:=by
   rcases OB.1 ((h x).1 zv) with e|e
   ·exact e
   ·rcases OB.1 ((h y).2 zv) with e2|e2
    ·exact e2.symm
    ·have d:=hb.1 x e
     have f:=ha.1 y e2
     omega
  subst hxy
  rw[J5 r s ha.2 hb.2 fun q=>?_]
  constructor
  ·intro c
   rcases OB.1 ((h q).1 (OP _ c)) with e|e
   ·have:=ha.1 q c
    rw[e] at this
    omega
   ·exact e
  ·intro c
   rcases OB.1 ((h q).2 (OP _ c)) with e|e
   ·have:=hb.1 q c
    rw[e] at this
    omega
   ·exact e
def yE (ms:Ob (Int×Int))(l:Ob Int):Ob Int:=l.filter fun b=>decide (yY ms b=0)
def ZX (ms:Ob (Int×Int))(l:Ob Int):Ob Int:=(ms.map (·.1)).filter fun b=>!decide (b∈l)
def bM (ms:Ob (Int×Int))(bs:Ob xA)(b:Int):Int×Int:=(b,if yY ms b=0 then yb bs b else yY ms b)
theorem VK (ms:Ob (Int×Int))(l:Ob Int)(k:Nat)(hk:k < l.length):yE ms (l.take (k+1))=if yY ms l[k]=0 then yE ms (l.take k)++[l[k]] else yE ms (l.take k):=by
 unfold yE
 rw[Oh hk,List.filter_append]
 by_cases h:yY ms l[k]=0
 ·simp[h]
 ·simp[h]
theorem cH (ms:Ob (Int×Int))(l:Ob Int)(k:Nat):(yE ms (l.take k)).length≤k:=by
 unfold yE
 refine Ol (List.length_filter_le _ _) ?_
 rw[OU]
 omega
theorem s9 (ms:Ob (Int×Int))(l:Ob Int)(k:Nat)(hk:k < (ms.map (·.1)).length):((ms.map (·.1)).take (k+1)).filter (fun b=>!decide (b∈l))=if (ms.map (·.1))[k]∈l then ((ms.map (·.1)).take k).filter (fun b=>!decide (b∈l)) else ((ms.map (·.1)).take k).filter (fun b=>!decide (b∈l))++[(ms.map (·.1))[k]]:=by
 rw[Oh hk,List.filter_append]
 by_cases h:(ms.map (·.1))[k]∈l
 ·rw[OG h,List.filter_cons_of_neg (by simp only[h,decide_true,Bool.not_true];exact Bool.false_ne_true),RL,Pr]
 ·rw[Om h,PM (by simp only[h,decide_false,Bool.not_false]),RL]
theorem Jl {bs:Ob xA}{ms:Ob (Int×Int)}(hm:Qr bs ms)(b:Int):yY ms b=0↔b∉ms.map (·.1):=by
 unfold yY
 cases a:ms.find? (fun p=>decide (p.1=b)) with
 |none=>
  simp only[true_iff]
  intro f
  obtain⟨p,g,e⟩:=OL.1 f
  have:=List.find?_eq_none.1 a p g
  simp[e] at this
 |some p=>
  have c:=O2 a
  have d:p.1=b:=by simpa using List.find?_some a
  have i:=(hm.each p c).2.1
  simp only
  constructor
  ·intro e
   omega
  ·intro h
   exact absurd (OL.2 ⟨p,c,d⟩) h
theorem lN {bs:Ob xA}{ms:Ob (Int×Int)}(hm:Qr bs ms){p:Int×Int}(hp:p∈ms):yY ms p.1=p.2:=by
 unfold yY
 cases d:ms.find? (fun y=>decide (y.1=p.1)) with
 |none=>
  have:=List.find?_eq_none.1 d p hp
  simp at this
 |some y=>
  have g:=O2 d
  have k:y.1=p.1:=by simpa using List.find?_some d
  have c:ms.Pairwise (fun a b=>a.1 < b.1):=by
   have:=hm.rising
   rwa [P0] at this
  have:y=p:=by
   obtain⟨i,e,rfl⟩:=Pg g
   obtain⟨j,f,rfl⟩:=Pg hp
   rcases Nat.lt_trichotomy i j with h|h|h
   ·have:=PF.1 c i j e f h
    omega
   ·subst h
    rfl
   ·have:=PF.1 c j i f e h
    omega
  rw[this]
theorem KM {bs:Ob xA}{ms:Ob (Int×Int)}(hm:Qr bs ms)(l:Ob Int):l.filter (fun b=>!decide (b∈ms.map (·.1)))=yE ms l:=by
 unfold yE
 congr 1
 funext b
 have h:=Jl hm b
 by_cases a:b∈ms.map (·.1)
 ·have c:¬yY ms b=0:=fun e=>(h.1 e) a
  rw[OS a,OD c]
  rfl
 ·have c:yY ms b=0:=h.2 a
  rw[OD a,OS c]
  rfl
theorem C4 (a b:Ob Int):rise (a++b)=rise (b++a):=by
 refine Zs (vY _) (vY _) fun i=>?_
 rw[uU,uU,OO,OO]
 exact Or.comm
theorem bP {bs:Ob xA}(hn:(ids bs).Nodup){l:Ob Int}{i:Int}(hl:(l++[i]).Nodup):yb (zM l bs).1 i=yb bs i:=by
 have b:=ZO l i bs
 rw[vT (l++[i]) bs hn hl] at b
 have a:=congrArg Prod.snd b
 simp only at a
 rw[OQ,vT l bs hn (hl.sublist (Ru _ _))] at a
 have c:=List.append_cancel_left a
 simp only[OY,List.map_nil,List.cons.injEq,Rt,true_and,and_true] at c
 rw[vT l bs hn (hl.sublist (Ru _ _))]
 exact c.symm
theorem tH {bs:Ob xA}(hn:(ids bs).Nodup){ms:Ob (Int×Int)}(hm:Qr bs ms){l:Ob Int}(hl:l.Pairwise (· < ·)) :
  Z9 ((ms.filter fun p=>!decide (p.1∈ZX ms l))++(zM (yE ms l) bs).2)=l.map (bM ms bs):=by
 have c:(yE ms l).Nodup:=(vS hl).sublist PA
 have k:(ms.map (·.1)).Nodup:=vS hm.rising
 rw[vT _ bs hn c]
 have m:(((ms.filter fun p=>!decide (p.1∈ZX ms l))++(yE ms l).map (fun id=>(id,yb bs id))).map (·.1)).Nodup:=by
  rw[OQ,P6]
  refine⟨k.sublist (PA.map _),?_,?_⟩
  ·rw[PS]
   have:((fun x:Int×Int=>x.1) ∘fun id=>(id,yb bs id))=id:=rfl
   rw[this,List.map_id]
   exact c
  ·intro a o b g e
   subst e
   obtain⟨p,i,rfl⟩:=OL.1 o
   obtain⟨y,r,e⟩:=OL.1 g
   obtain⟨z,s,rfl⟩:=OL.1 r
   simp only at e
   have h1:=(OZ.1 s).2
   have h2:=(Jl hm z).1 xv
   exact h2 (by rw[e];exact OV (OZ.1 i).1)
 have d:=UH m
 refine J5 _ _ d.1 ?_ fun p=>?_
 ·rw[P0]
  exact hl.imp fun h=>h
 ·rw[d.2,OO,OZ,OL,OL]
  constructor
  ·rintro(⟨h1,h2⟩|⟨b,h1,rfl⟩)
   ·have f:p.1∈l:=by
     have j:p.1∉ZX ms l:=V7
     unfold ZX at j
     rw[OZ] at j
     by_cases n:p.1∈l
     ·exact n
     ·exact absurd ⟨OV h1,by simpa using n⟩ j
    refine⟨p.1,f,?_⟩
    unfold bM
    have q:=lN hm h1
    rw[q,Om (by have:=(hm.each p h1).2.1;omega)]
   ·have f:=OZ.1 h1
    refine⟨b,f.1,?_⟩
    unfold bM
    rw[OG (by simpa using f.2)]
  ·rintro⟨b,g,rfl⟩
   unfold bM
   by_cases h0:yY ms b=0
   ·refine .inr ⟨b,OZ.2 ⟨g,Xq⟩,?_⟩
    rw[OG h0]
   ·refine .inl ⟨?_,?_⟩
    ·rw[Om h0]
     have h1:b∈ms.map (·.1):=by
      by_cases h2:b∈ms.map (·.1)
      ·exact h2
      ·exact absurd ((Jl hm b).2 h2) h0
     obtain⟨p,i,rfl⟩:=OL.1 h1
     rw[lN hm i]
     exact i
    ·simp only[Bool.not_eq_true',decide_eq_false_iff_not]
     unfold ZX
     rw[OZ]
     rintro⟨_,h2⟩
     simp[g] at h2
theorem tM {x:Acc}(hf:Fit x)(id:Int)(zg:Ob Int){m:zR}(hfi:x.zC.find? (fun m=>decide (m.id=id))=some m)(hne:zg≠[])(hwa:(rise zg).any (fun id=>!zZ x.zg id)=false) :
  xn x id zg=if rise (yE m.zr (rise zg)++ZX m.zr (rise zg))=[] then (x,0)
   else if x.ends||(yE m.zr (rise zg)).any x.spent then (x,11)
   else ({x with zA:=x.zA+1,zg:=zI (x.zA+1) (rise (yE m.zr (rise zg)++ZX m.zr (rise zg))) (zM (yE m.zr (rise zg)) x.zg).1,zC:=xz id (fun y=>{y with zr:=(rise zg).map (bM m.zr x.zg),mod:=x.zA+1}) x.zC,log:=x.log.add (zX (x.zA+1) (rise (yE m.zr (rise zg)++ZX m.zr (rise zg)))++[⟨x.zA+1,2,id,2⟩])},0):=by
 have j:=O2 hfi
 have a:=(hf.mail m j).mem
 have c:xz id (fun y=>{y with zr:=Z9 ((y.zr.filter fun p=>!decide (p.1∈ZX m.zr (rise zg)))++(zM (yE m.zr (rise zg)) x.zg).2),mod:=x.zA+1}) x.zC=xz id (fun y=>{y with zr:=(rise zg).map (bM m.zr x.zg),mod:=x.zA+1}) x.zC:=by
  have n:∀l:Ob zR,l.find? (fun m=>decide (m.id=id))=some m→xz id (fun y=>{y with zr:=Z9 ((y.zr.filter fun p=>!decide (p.1∈ZX m.zr (rise zg)))++(zM (yE m.zr (rise zg)) x.zg).2),mod:=x.zA+1}) l=xz id (fun y=>{y with zr:=(rise zg).map (bM m.zr x.zg),mod:=x.zA+1}) l:=by
   intro l
   induction l with
   |nil=>intro h;cases h
   |cons y r ih=>
    intro h
    unfold xz
    by_cases hy:y.id=id
    ·rw[PN aU] at h
     injection h with h
     subst h
     rw[OG hy,OG hy,tH hf.idsB a (vY zg)]
    ·rw[Pb aU] at h
     rw[Om hy,Om hy,ih h]
  exact n _ hfi
 have g:=KM a (rise zg)
 unfold xn
 rw[hfi]
 simp only[g]
 rw[Om hne,Om Yr]
 have i:((m.zr.map (·.1)).filter fun b=>!decide (b∈rise zg))=ZX m.zr (rise zg):=rfl
 rw[i]
 have k:((yE m.zr (rise zg)).length+(ZX m.zr (rise zg)).length=0)↔rise (yE m.zr (rise zg)++ZX m.zr (rise zg))=[]:=by
  constructor
  ·intro h
   have f:yE m.zr (rise zg)=[]:=Oi O
   have e:ZX m.zr (rise zg)=[]:=Oi O
   rw[f,e]
   rfl
  ·intro h
   have f:yE m.zr (rise zg)++ZX m.zr (rise zg)=[]:=by
    by_cases e:yE m.zr (rise zg)++ZX m.zr (rise zg)=[]
    ·exact e
    ·exact absurd h (eW e)
   rw[←Oo,f]
   rfl
 rw[C4 (ZX m.zr (rise zg)) (yE m.zr (rise zg))]
 by_cases d:rise (yE m.zr (rise zg)++ZX m.zr (rise zg))=[]
 ·rw[OG (k.2 d),OG d]
 ·rw[Om (fun h=>d (k.1 h)),Om d,c]
end
section
open Go.Shelf Go.RowKit
attribute [local go_sem ↓] Go.wp_at_zero Go.wp_at_succ
structure NK (w1 wr:Oc)(l:Ob Int)(v:Oe)(h:OC Nat):Prop where
 sl:Sl wr 3 1 v h l.length (l.map yJ)
 own:∀b,h=some b→w1.heap.size≤b
 below:Od w1 w1 wr
 nil:l=[]→v=RO none 0 0
theorem NK.start (w:Oc):NK w w [] (RO none 0 0) none:=⟨Sl.nil _ _ _,(fun b hb=>by cases hb),Ok _ _,fun _=>rfl⟩
theorem NK.later {w1 wr w2:Oc}{l:Ob Int}{v:Oe}{h:OC Nat}(H:NK w1 wr l v h)(hb:Od wr wr w2):NK w1 w2 l v h:=
 ⟨H.sl.keep (fun b hb2=>hb.block b (H.sl.lt b hb2)),H.own,H.below.trans (hb.mono H.below.size),H.nil⟩
theorem NK.push {w1 wr w7:Oc}{l:Ob Int}{v v2:Oe}{h h2:OC Nat}(H:NK w1 wr l v h)(x:Int)(hs7:Sl w7 3 1 v2 h2 (l.length+1) (l.map yJ++[yJ x]))(hc7:NH h.toList wr w7)(ho7:h2=h∨∃k,h2=some k∧wr.heap.size≤k):NK w1 w7 (l++[x]) v2 h2:=by
 refine⟨?_,?_,H.below.trans (hc7.below H.below.size fun b hb=>H.own b xQ),fun e=>by simp at e⟩
 ·rw[Oo,OQ]
  exact hs7
 ·intro b a
  rcases ho7 with e|⟨k,e,hk⟩
  ·exact H.own b (by rw[←e];exact a)
  ·rw[e] at a
   injection a with a
   have:=H.below.size
   omega
theorem NK.keepChg {w1 wr w2:Oc}{l:Ob Int}{v:Oe}{h:OC Nat}{S:Ob Nat}(H:NK w1 wr l v h)(hc:NH S wr w2)(hS:∀b,h=some b→b∉S)(hS2:∀k∈S,w1.heap.size≤k):NK w1 w2 l v h:=
 ⟨H.sl.N4 hc hS,H.own,H.below.trans (hc.below H.below.size hS2),H.nil⟩
theorem eZ {P:Pv}(w:Oc){t ty e:Pa}{i:TypeInfo}(ht:P.underlying t=some (.slice e))(hi:P.info? e=some i) :
  (Builtin.append_ #[t,t] ty #[RO none 0 0,RO none 0 0]).run P w=.ok (RO none 0 0) w:=by
 simp[Builtin.append_,run_underlying ht,sizeOf,typeInfo,hi,Builtin.lenOf,run_firstCells_none]
theorem Vp {P:Pv}{w:Oc}{ops:Array Oper}{rest:Ob Oper}{o:Oper}{a:Act}{Q:Exit→Act→Oc→Prop}(hgd:o.guard=none)(s x:Operand)(t:Pa)(ho:o.op=.call {callee:=.builtin .append,args:=#[s,x],argTypes:=#[t,t]}){e:Pa}{i:TypeInfo}{z:Oe}{size bytes:Nat}(ht:P.underlying t=some (.slice e))(hi:P.info? e=some i)(hz:i.zero=some z)(hsize:i.size=size)(hby:i.bytes=bytes)(hzs:z.cells.size=size)(hsz:0 < size)(hs:a.eval s=RO none 0 0){v2:Oe}{m:Nat}{news:Ob Oe}(hr:NN w [] size v2 m news)(hnil:m=0→v2=RO none 0 0)(hx:a.eval x=v2)(h1:∀u∈news,u.oneCell'=true)(h63:m≤maxLen)(hbytes:m * bytes≤140737488355328)(hk:∀v' h' w',Sl w' e size v' h' m news→NH [] w w'→(h'=none∨∃g,h'=some g∧w.heap.size≤g)→(m=0→v'=RO none 0 0)→wpList P ops Q rest (a.put o.dst v') w') :
  wpList P ops Q (o :: rest) a w:=by
 refine wpList_plain hgd fun K hK'=>?_
 by_cases k:m=0
 ·have l:=hnil k
  subst k
  have v:news=[]:=Oi (by simpa using hr.1)
  subst v
  subst l
  have c:=eZ (P:=P) w (t:=t) (ty:=o.type) ht hi
  unfold Oper.wp execOp
  simp only[ho,resolve,invoke,builtin,Sem.run_bind,Sem.run_pure,Result.andThen_ok,List.map_toArray,OY,List.map_nil,hs,hx,c]
  exact hK' _ _ (hk _ none w (Sl.nil _ _ _) (NH.refl _ _) (.inl rfl) (fun _=>rfl))
 ·obtain⟨b,n,d,l,r,_,q,_,f⟩:=hr.at_ O
  subst l
  obtain⟨v',h',w',c,p,y,A⟩:=uJ (P:=P) w (ty:=o.type) ht hi hz hsize hby hzs hsz (Sl.nil w e size) (Y b n) m d news hr.1 (fun j u hj=>by
   have h:j < m * size:=by
    rw[←hr.1]
    exact(OX.1 hj).1
   rw[←hj,Addr.add_lit]
   exact f j h) h1 O (by simpa using hbytes)
  unfold Oper.wp execOp
  simp only[ho,resolve,invoke,builtin,Sem.run_bind,Sem.run_pure,Result.andThen_ok,List.map_toArray,OY,List.map_nil,hs,hx,c]
  rw[Nat.zero_add,PE] at p
  exact hK' _ _ (hk v' h' w' p y A (fun e=>absurd e k))
structure uH (w:Oc)(g:Nat)(q:zW)(x:Acc)(is:Ob Int)(vb:Oe)(Sb:Ob Nat):Prop where
 at_:zJ w g q x
 fit:Fit x
 zg:NN w Sb 1 vb is.length (is.map yJ)
 nb:is.length≤4294967296
section
variable {w:Oc} {g:Nat} {q:zW} {x:Acc} {is:Ob Int} {vb:Oe} {Sb:Ob Nat}
theorem uH.Kk (h:uH w g q x is vb Sb):x.zg.length≤1099511627776:=by
 exact pp
theorem uH.Lf (h:uH w g q x is vb Sb):x.zC.length≤4294967296:=by
 have a:=h.fit.nm
 have b:=h.fit.zA
 have c:=h.fit.N3.mod
 omega
theorem uH.oc (h:uH w g q x is vb Sb)(W:Oc)(hb:Od w w W):C 127 #[vb] W fun e w'=>∃A cap hh,e=RR (RO A (rise is).length cap)∧Sl w' 3 1 (RO A (rise is).length cap) hh (rise is).length ((rise is).map yJ)∧Od W W w'∧∀b,hh=some b→W.heap.size≤b:=
 Q2 W vb Sb is (h.zg.below hb) (Ol h.nb zD)
theorem uH.bc (h:uH w g q x is vb Sb){b:Bool}(hb2:(rise is).any (fun id=>!zZ x.zg id)=b)(W:Oc)(hb:Od w w W)(v:Oe)(hr:NN W [] 1 v (rise is).length ((rise is).map yJ)):C 128 #[Y g 0,v] W fun e w'=>e=RR (.bool (!b))∧Od W W w':=by
 exact FY
end
theorem oa (w:Oc)(g:Nat)(q:zW)(x:Acc)(id:Int)(is:Ob Int)(vb:Oe)(Sb:Ob Nat)(h:uH w g q x is vb Sb)(hmem:id∉Zb x.zC) :
  C 64 #[Y g 0,I id,vb] w (Zw w g q (xn x id is)):=by
 have i:=h.Lf
 have tu:=Xk w g q x id h.at_ O
 have d:Z4 id x.zC= -1:=Vg x.zC (fun t ht=>by
  simp only[decide_eq_false_iff_not]
  exact fun e=>hmem pT)
 have c:x.zC.find? (fun m=>decide (m.id=id))=none:=List.find?_eq_none.2 (fun m hm hd=>hmem (by
  have:m.id=id:=V6
  rw[←this]
  exact OV hm))
 have a:xn x id is=(x,6):=by
  unfold xn
  rw[c]
 rw[a]
 rw[d] at tu
 have H:=V h
 have b:=h.oc
 obtain⟨A,j,f,_,_⟩:=h.zg.form
 rw[f] at b ⊢
 have Gr:=V b
 clear a d hmem h i c b f
 exact Mj
theorem kU (w:Oc)(g:Nat)(q:zW)(x:Acc)(id:Int)(is:Ob Int)(vb:Oe)(Sb:Ob Nat)(h:uH w g q x is vb Sb)(hmem:id∈Zb x.zC)(hbad:is=[]) :
  C 64 #[Y g 0,I id,vb] w (Zw w g q (xn x id is)):=by
 have m:=h.Lf
 have tu:=Xk w g q x id h.at_ O
 have a:=hmem
 rw[←h.at_.same] at a
 obtain⟨i,n,p,c,s,r,k⟩:=YI a
 rw[h.at_.same] at c k
 rw[c] at tu
 have o:¬(i:Int) < 0:=O
 have j:xn x id is=(x,1):=by
  unfold xn
  rw[k,hbad]
  rfl
 rw[j]
 have H:=V h
 have d:=h.oc
 obtain⟨A,f,l,_,_⟩:=h.zg.form
 rw[l] at d ⊢
 subst hbad
 have d:∀W,Od w w W→C 127 #[RO A 0 f] W fun e w'=>∃A f hh,e=RR (RO A 0 f)∧Sl w' 3 1 (RO A 0 f) hh 0 []∧Od W W w'∧∀b,hh=some b→W.heap.size≤b:=d
 have Gr:=V d
 clear j hmem a h m d l p r s c k
 exact Mj
theorem nZ (w:Oc)(g:Nat)(q:zW)(x:Acc)(id:Int)(is:Ob Int)(vb:Oe)(Sb:Ob Nat)(h:uH w g q x is vb Sb)(hmem:id∈Zb x.zC)(hne:is≠[])(hwa:(rise is).any (fun id=>!zZ x.zg id)=true) :
  C 64 #[Y g 0,I id,vb] w (Zw w g q (xn x id is)):=by
 have D:=h.Lf
 have c:=Xk w g q x id h.at_ O
 have a:=hmem
 rw[←h.at_.same] at a
 obtain⟨i,L,P,d,R,Q,n⟩:=YI a
 rw[h.at_.same] at d n
 rw[d] at c
 have M:¬(i:Int) < 0:=O
 have j:xn x id is=(x,6):=by
  unfold xn
  rw[n]
  simp only
  rw[Om hne,OG hwa]
 rw[j]
 have H:=V h
 have f:=h.oc
 have m:=h.bc hwa
 have hlen:((rise is).length:Int)≠0:=by
  have:=eW hne
  have T:(rise is).length≠0:=fun e=>this (Oi e)
  omega
 obtain⟨A,J,v,_,_⟩:=h.zg.form
 rw[v] at f ⊢
 obtain⟨E,p⟩:∃E,(rise is).length=E:=⟨_,rfl⟩
 rw[p] at m hlen
 simp only[p] at f
 have N:((E:Int)==0)=false:=aQ
 have B:=V f
 have z:=V m
 clear j hmem a h D f m v P Q R d n hlen p hwa hne
 go_enter func64,ntmps64
 go_wp2_with (first
  |(go_at_call 134;refine c.mono ?_;rintro e W ⟨rfl,rfl⟩;clear c)
  |(go_at_call 127;refine(B.o w (Ok _ _)).mono ?_;rintro e X ⟨S,U,K,rfl,u,s,t⟩;have r:=V s;have k:=V u;have G:Z (∀b,K=some b→w.heap.size≤b):=V t;clear u s t)
  |(go_at_call 128;refine(z.o _ r.o _ (k.o.reads [] zv)).mono ?_;rintro e w3 ⟨rfl,l⟩;have y:=V (zj r.o l);have F:=V (k.o.keep (fun b hb=>l.block b (k.o.lt b hb)));clear l)
  |fail)
 go_ret
 exact⟨rfl,q,zK.of_below H.o.at_ y.o⟩
structure PmR (w w10 wr:Oc)(g:Nat)(q:zW)(x1:Acc)(l:Ob Int)(ms:Ob (Int×Int))(bs:Ob xA)(k:Nat)(mv:Oe):Prop where
 st:zK w wr g q {x1 with zg:=(zM (yE ms (l.take k)) bs).1} q
 ch:NH (q.own g) w10 wr
 mem:∃h,Sl wr 153 2 mv h k (zU yC ((l.take k).map (bM ms bs)))∧∀b,h=some b→w10.heap.size≤b
theorem PmR.next {w w10 wr W W2:Oc}{g:Nat}{q:zW}{x x1:Acc}{l:Ob Int}{ms:Ob (Int×Int)}{bs:Ob xA}{k:Nat}{mv mv':Oe}(h:PmR w w10 wr g q x1 l ms bs k mv)(hw:zJ w g q x)(h10:w.heap.size≤w10.heap.size)(hk:k < l.length)(ht:zK wr W g q {x1 with zg:=(zM (yE ms (l.take (k+1))) bs).1} q){hh h':OC Nat}(_:Sl W 153 2 mv hh k (zU yC ((l.take k).map (bM ms bs))))(hf:∀b,hh=some b→w10.heap.size≤b)(hs2:Sl W2 153 2 mv' h' (k+1) (zU yC ((l.take k).map (bM ms bs))++yC (bM ms bs l[k])))(hc:NH hh.toList W W2)(ho:h'=hh∨∃g,h'=some g∧W.heap.size≤g) :
  PmR w w10 W2 g q x1 l ms bs (k+1) mv':=by
 have c:=ht.N4.size
 have d:=h.ch.size
 have a:∀j∈hh.toList,w10.heap.size≤j:=fun j hj=>hf j vL
 refine⟨(h.st.trans ht).newer hw hc fun j hj=>Ol h10 (a j hj),(h.ch.trans ht.N4 (fun i hi=>.inl hi)).trans hc fun i hi=>.inr (a i hi),⟨h',?_,?_⟩⟩
 ·rw[Oh hk,OQ,ZL]
  exact hs2
 ·intro b hb
  rcases ho with h1|⟨g2,h1,h2⟩
  ·exact hf b X8
  ·rw[h1] at hb
   injection hb with hb
   omega
theorem Ds (w:Oc)(g:Nat)(q:zW)(x:Acc)(id:Int)(is:Ob Int)(vb:Oe)(Sb:Ob Nat)(h:uH w g q x is vb Sb)(hmem:id∈Zb x.zC)(hne:is≠[])(hwa:(rise is).any (fun id=>!zZ x.zg id)=false) :
  C 64 #[Y g 0,I id,vb] w (Zw w g q (xn x id is)):=by
 have la:=h.Lf
 have bx:=Xk w g q x id h.at_ O
 have ao:=hmem
 rw[←h.at_.same] at ao
 obtain⟨i,zw,n1,cc,n3,n2,de⟩:=YI ao
 rw[h.at_.same] at cc de
 rw[cc] at bx
 have mb:¬(i:Int) < 0:=O
 have hf:=h.fit
 have j9:=h.at_.XC
 obtain⟨m,hm⟩:∃m,q.ms[i]=m:=⟨_,rfl⟩
 have Eo:m∈q.ms:=gN
 have dq:m.p∈x.zC:=pU
 have jv:=(hf.mail _ dq).mem
 have e':∀f,xz id f x.zC=x.zC.set i (f m.p):=fun f=>by
  have F:=n2 f
  rw[h.at_.same,hm] at F
  exact F
 rw[hm] at de
 have aa:=tM hf id is de hne hwa
 simp only[e'] at aa
 obtain⟨rr,k6⟩:∃rr,xn x id is=rr:=⟨_,rfl⟩
 rw[k6] at aa ⊢
 have bw:=JP hwa
 have g0:=vY is
 have j8:(rise is).length≤4294967296:=by
  have:=xG is
  have:=h.nb
  omega
 have dk:(rise is).length≠0:=fun e=>eW hne (Oi e)
 have js:m.p.zr.length≤4294967296:=by
  have h1:=hf.lW dq
  have F:=hf.nb
  have h3:=hf.zA
  have h4:=hf.N3.mod
  omega
 have ci:=h.oc
 have db:=h.bc hwa
 obtain⟨A,m5,ke,_,_⟩:=h.zg.form
 rw[ke] at ci ⊢
 have dc:∀W,Od w w W→zJ W g q x:=fun W hb=>h.at_.later hb
 have HW:=V h
 have HF:=V hf
 generalize rise is=l at aa bw g0 j8 dk ci db
 obtain⟨n,dr⟩:∃n,l.length=n:=⟨_,rfl⟩
 rw[dr] at db j8 dk
 simp only[dr] at ci
 have lo:((n:Int)==0)=false:=by simpa using dk
 have mi:0 < n:=O
 obtain⟨nm,ey⟩:∃nm,x.zC.length=nm:=⟨_,rfl⟩
 have El:i < nm:=O
 have me:(i:Int) < (nm:Int):=O
 have ln:(0:Int)≤(i:Int):=O
 have h':=V ci
 have go:=V db
 have HR:=V aa
 have au:=V bw
 have hr:=V g0
 have qp:=V dr
 have Em:=V ey
 have HM:=V hm
 have fa:=V Eo
 have l':=V dq
 have ks:=V jv
 have bi:=V js
 have HI0:=V zw
 have cr:=V dc
 clear aa k6 hmem ao h hf la ci db ke n1 n2 n3 cc de e' hwa hne bw g0 dr ey hm Eo dq jv js j9 dc dk
 go_enter func64,ntmps64
 go_upto_region 9 with(first
  |(go_at_call 134;refine bx.mono ?_;rintro e w1 ⟨rfl,rfl⟩;clear bx)
  |(go_at_call 127;refine(h'.o w (Ok _ _)).mono ?_;rintro e w2 ⟨A3,p3,h3,rfl,k7,U,j'⟩;have f1:=V U;have cy:=V k7;have h0:Z (∀b,h3=some b→w.heap.size≤b):=V j';clear k7 U j')
  |(go_at_call 128;refine(go.o _ f1.o _ (cy.o.reads [] zv)).mono ?_;rintro e w3 ⟨rfl,fs⟩;have f2:=V (zj f1.o fs);have bm:=V (cy.o.keep (fun b hb=>fs.block b (cy.o.lt b hb)));clear fs)
  |fail)
 have b4:=cr.o w3 f2.o
 obtain⟨b1,o1,c1,kc,dg,l7,dc,l0,s⟩:=b4.ud i JF HI0.o
 have li:w3.cell? (Y g 11)=some (RO (some (Y b1 o1)) nm c1):=by
  have:=b4.xj
  rw[kc] at this
  rw[←Em.o]
  exact this
 have a9:q.ms[i]'HI0.o=m:=HM.o
 rw[a9] at s
 have d0:w3.cell? (Y b1 (o1+i * 8))=some (I m.p.id):=(s 0 O).1
 have d1:w3.cell? (Y b1 (o1+i * 8+1))=some (I m.p.thread):=(s 1 O).1
 have d2:w3.cell? (Y b1 (o1+i * 8+2))=some (RP ⟨m.p.text.toArray⟩):=(s 2 O).1
 have d3:w3.cell? (Y b1 (o1+i * 8+3))=some (I m.p.at_):=(s 3 O).1
 have d4:w3.cell? (Y b1 (o1+i * 8+4))=some m.kv:=(s 4 O).1
 have d5:w3.cell? (Y b1 (o1+i * 8+5))=some m.mv:=(s 5 O).1
 have d6:w3.cell? (Y b1 (o1+i * 8+6))=some (I m.p.mod):=(s 6 O).1
 have d7:w3.cell? (Y b1 (o1+i * 8+7))=some (I m.p.born):=(s 7 O).1
 have a0:=b4.parts m fa.o
 obtain⟨Ak,ck,dj,_,_⟩:=a0.keys.form
 obtain⟨Am,cm,dp,_,_⟩:=a0.mem.form
 rw[dj] at d4
 rw[dp] at d5
 obtain⟨lk,jj⟩:∃lk,m.p.keys.length=lk:=⟨_,rfl⟩
 obtain⟨lm,dl⟩:∃lm,m.p.zr.length=lm:=⟨_,rfl⟩
 rw[jj] at d4 dj
 rw[dl] at d5 dp
 have HP:=V a0
 have ly:=V dj
 have fb:=V dp
 have f9:=V dl
 have lp:lm≤4294967296:=by rw[←dl];exact bi.o
 clear a0 kc dj dp dl jj s dg a9 b4 l7 dc
 generalize m.p.id=m0 at d0
 generalize m.p.thread=m1 at d1
 generalize m.p.text=m2 at d2
 generalize m.p.at_=m3 at d3
 generalize m.p.mod=m6 at d6
 generalize m.p.born=m7 at d7
 go_upto_region 10 with(fail)
 obtain⟨r,hwa⟩:∃r:Oc,r=w3.alloc (.cells #[I m0,I m1,Oa m2,I m3,RO Ak lk ck,RO Am lm cm,I m6,I m7] 83):=⟨_,rfl⟩
 rw[←hwa]
 have bt:NG r w3.heap.size 83 #[I m0,I m1,Oa m2,I m3,RO Ak lk ck,RO Am lm cm,I m6,I m7]:=by rw[hwa];exact NG.new _ _ _
 have b':Od w3 w3 r:=by rw[hwa];exact zt _ _
 obtain⟨B,fl⟩:∃B,B=w3.heap.size:=⟨_,rfl⟩
 rw[←fl] at bt ⊢
 have ip:∀W,Od r r W→W.cell? (Y B 0)=some (I m0)∧W.cell? (Y B 1)=some (I m1)∧W.cell? (Y B 2)=some (RP ⟨m2.toArray⟩)∧W.cell? (Y B 3)=some (I m3)∧W.cell? (Y B 4)=some (RO Ak lk ck)∧W.cell? (Y B 5)=some (RO Am lm cm)∧W.cell? (Y B 6)=some (I m6)∧W.cell? (Y B 7)=some (I m7):=fun W hb=>by
  have h1:NG W B 83 #[I m0,I m1,Oa m2,I m3,RO Ak lk ck,RO Am lm cm,I m6,I m7]:=bt.below hb bt.lt
  exact⟨h1.cell 0,h1.cell 1,h1.cell 2,h1.cell 3,h1.cell 4,h1.cell 5,h1.cell 6,h1.cell 7⟩
 have g2:∀W,Od r r W→NN W [] 2 (RO Am lm cm) m.p.zr.length (zU yC m.p.zr):=fun W hb=>by
  rw[←fb.o]
  exact(HP.o.mem.below (b'.trans (hb.mono b'.size))).sub (fun _ _ _ hm=>by cases hm)
 have hU:∀b u,yY m.p.zr b=u→∀W,Od r r W→C 54 #[.agg #[I m0,I m1,Oa m2,I m3,RO Ak lk ck,RO Am lm cm,I m6,I m7],I b] W fun e w'=>e=RR (I u)∧Od W W w':=fun b u hu W hb=>by
  rw[←hu]
  exact Vh W m0 m1 m3 m6 m7 ⟨m2.toArray⟩ (RO Ak lk ck) (RO Am lm cm) m.p.zr b (g2 W hb) (Ol bi.o zD)
 have j5:∀W,Od r r W→C 137 #[.agg #[I m0,I m1,Oa m2,I m3,RO Ak lk ck,RO Am lm cm,I m6,I m7]] W fun e w'=>∃A8 c8 hh,e=RR (RO A8 lm c8)∧Sl w' 3 1 (RO A8 lm c8) hh lm ((x9 m.p.zr).map yJ)∧(∀b,hh=some b→W.heap.size≤b)∧Od W W w':=fun W hb=>by
  refine(nX W m0 m1 m3 m6 m7 ⟨m2.toArray⟩ (RO Ak lk ck) (RO Am lm cm) m.p.zr (g2 W hb) (Ol bi.o zD)).mono ?_
  rintro e w' ⟨v,hh,rfl,hs,ho,fp⟩
  rw[f9.o] at hs
  obtain⟨A8,c8,rfl,_,_⟩:=hs.form
  exact⟨A8,c8,hh,rfl,hs,ho,fp⟩
 have io:w.heap.size≤B:=by rw[fl];exact f2.o.size
 have ej:=bt
 have b6:Z (Od w w r):=V (zj f2.o b')
 have cw:=V (bm.o.keep (fun b hb=>b'.block b (bm.o.lt b hb)))
 have f5:=V ip
 have ie:=V hU
 have hl:=V j5
 have kl:=V io
 have ec:=V ej
 clear d0 d1 d2 d3 d4 d5 d6 d7 li hwa bt b' fl ip g2 hU j5 io ej l0 cy bm h' go f1
 obtain⟨i0,hi,ga,gb,gc⟩:=info_parts Try.infoIntO
 have bk:∀W,Od r r W→NN W [] 1 (RO A3 n p3) n (l.map yJ):=fun W hb=>(cw.o.keep (fun b fp=>hb.block b (cw.o.lt b fp))).reads [] zv
 have bk:=V bk
 have f6:Z (NK r r [] (RO none 0 0) none):=V (NK.start r)
 go_upto_block 1 with(fail)
 go_cut [10] (fun v L=>∃(A:OC Addr) (c:Nat) (h:OC Nat),v=RO A (yE m.p.zr l).length c∧Z (NK r L (yE m.p.zr l) (RO A (yE m.p.zr l).length c) h))
 case first=>
  go_wp2_with fail
  go_loopw [10,12] (fun v iv wr=>∃(k:Nat) (h:OC Nat),k≤n∧iv=I (k:Nat)∧Z (NK r wr (yE m.p.zr (l.take k)) v h)) (fun _ iv _=>n - (intOf iv).toNat)
  case atStart=>exact⟨0,none,OE _,rfl,f6⟩
  case round=>
   clear f6
   obtain⟨k,h,hk,rfl,D⟩:=hrel
   obtain⟨A0,a6,rfl,_,_⟩:=D.o.sl.form
   obtain⟨mf,H⟩:∃mf,(yE m.p.zr (l.take k)).length=mf:=⟨_,rfl⟩
   have lr:mf≤k:=by rw[←H];exact cH _ _ _
   have N:=V H
   rw[H]
   clear H
   by_cases af:k < n
   ·have G:k < l.length:=JB
    have cb:(k:Int) < (n:Int):=O
    have j6:(0:Int)≤(k:Int):=O
    have j7:Ov.wrap ((k:Int)+1)=(k:Int)+1:=Og _ O
    obtain⟨b3,uw,ei,ad,_,_,U,_,a⟩:=(bk.o r (Ok _ _)).at_ O
    injection ad with hva1 hvx hva3
    subst hva1 hva3
    clear hvx
    obtain⟨Cy,j⟩:∃Cy,l[k]=Cy:=⟨_,rfl⟩
    have ba:r.cell? (Y b3 (uw+k))=some (I Cy):=(a k O).trans (by simp[G,j,yJ])
    have hK:∀W,Od wr wr W→(W.cell? (Y B 0)=some (I m0)∧W.cell? (Y B 1)=some (I m1)∧W.cell? (Y B 2)=some (RP ⟨m2.toArray⟩)∧W.cell? (Y B 3)=some (I m3)∧W.cell? (Y B 4)=some (RO Ak lk ck)∧W.cell? (Y B 5)=some (RO Am lm cm)∧W.cell? (Y B 6)=some (I m6)∧W.cell? (Y B 7)=some (I m7))∧W.cell? (Y b3 (uw+k))=some (I Cy):=fun W hb=>by
     have h1:=D.o.below.trans (hb.mono D.o.below.size)
     exact⟨f5.o W h1,(h1.cell (p:=⟨b3,uw+k,none⟩) U).trans ba⟩
    obtain⟨u,hu⟩:∃u,yY m.p.zr Cy=u:=⟨_,rfl⟩
    have E:=VK m.p.zr l k G
    rw[j,hu] at E
    have bv:=fun W (hb:Od wr wr W)=>ie.o Cy u hu W (D.o.below.trans (hb.mono D.o.below.size))
    have Ip:=V bv
    have HK:=V hK
    have P:=V E
    have lz:Z (b3 < r.heap.size):=V U
    have lx:=V ba
    obtain⟨⟨e0,e1,e2,e3,e4,e5,e6,e7⟩,cs⟩:=hK wr (Ok _ _)
    clear a ba hK bv E j hu
    go_upto_region 14 with(fail)
    go_cut [55] (fun v L=>v=.bool (u==0)∧Z (Od wr wr L))
    case first=>
     exact Mb
    case rest=>
     obtain⟨rfl,Er⟩:=hcut
     obtain⟨w8,rfl⟩:∃w8:Oc,w8=wc:=⟨_,rfl⟩
     have f8:=V (D.o.later Er.o)
     clear e0 e1 e2 e3 e4 e5 e6 e7 cs
     by_cases Ep:u=0
     ·have hq:(u==0)=true:=JI
      rw[hq]
      rw[OG Ep] at P
      have ar:=f8.o.sl
      rw[N.o] at ar
      have fg:=V ar
      have ik:w8.cell? (Y b3 (uw+k))=some (I Cy):=(HK.o _ Er.o).2
      clear hq Ep ar
      go_wp2_with (first
       |(at_builtin;refine yc rfl _ _ 35 rfl underlying35 hi ga gb gc rfl zD fg.o rfl 1 1 rfl rfl ?_ ?_ ?_ ?_)
       |fail)
      any_goals (first|(simp[Value.oneCell'];done)|(unfold maxLen;omega)|omega|rfl)
      ·intro v2 F w9 Q al X
       have HN:Z (NK r w9 (yE m.p.zr (l.take (k+1))) v2 F):=V (by
        rw[P.o]
        exact f8.o.push Cy (by rw[N.o];exact Q) al X)
       obtain⟨A9,ij,rfl,_,_⟩:=Q.form
       clear Q al X
       go_wp2_with fail
       refine⟨?_,zV⟩
       first|exact⟨k+1,F,O,zE,HN⟩|((repeat apply OA);exact⟨⟨k+1,F,O,zE,HN⟩,rfl⟩)
     ·have hq:(u==0)=false:=JI
      rw[hq]
      rw[Om Ep] at P
      have HN:Z (NK r w8 (yE m.p.zr (l.take (k+1))) (RO A0 mf a6) h):=V (by
       rw[P.o,←N.o]
       exact f8.o)
      clear hq Ep
      go_wp2_with fail
      refine⟨?_,zV⟩
      first|exact⟨k+1,h,O,zE,HN⟩|((repeat apply OA);exact⟨⟨k+1,h,O,zE,HN⟩,rfl⟩)
   ·have ca:k=n:=O
    subst ca
    have cb:¬(k:Int) < (k:Int):=O
    have ac:l.take k=l:=Ou bC
    rw[ac] at D N
    go_wp2_with fail
    go_meet
    exact⟨A0,a6,h,by rw[N.o],D⟩
 case rest=>
  clear f6
  obtain⟨Af,cf,an,rfl,R⟩:=hcut
  obtain⟨wf,rfl⟩:∃wf:Oc,wf=wc:=⟨_,rfl⟩
  obtain⟨z,am⟩:∃z,yE m.p.zr l=z:=⟨_,rfl⟩
  rw[am] at R HR ⊢
  have a5:=V am
  obtain⟨nf,bd⟩:∃nf,z.length=nf:=⟨_,rfl⟩
  have ls:nf≤n:=by
   rw[←bd,←am]
   have:=cH m.p.zr l n
   rw[Ou bC] at this
   exact this
  rw[bd] at R
  have fy:=R.o.sl
  have j4:=R.o.nil
  rw[bd] at fy ⊢
  have es:nf=0→Value.slice Af nf cf=RO none 0 0:=fun e=>by
   exact j4 (Oi (by rw[bd];exact e))
  have ae:=V bd
  have ha:=V fy
  have g':=V es
  have cj:∀u∈z.map yJ,u.oneCell'=true:=fun u hu=>by
   obtain⟨y,_,rfl⟩:=OL.1 hu
   rfl
  have ee:=V cj
  clear am bd fy j4 es cj
  go_wp2_with (first
   |(at_builtin;refine Vp rfl _ _ 35 rfl underlying35 hi ga gb gc rfl zD rfl (ha.o.reads [] zv) g'.o rfl ee.o yV O ?_)
   |fail)
  intro v2 F w7 g5 j2 g3 jx
  have da:Od wf wf w7:=j2.below (Oq _) zv
  have kk:=V da
  have br:Z (NK r w7 z v2 F):=V ⟨by rw[ae.o];exact g5,fun b hb=>by
   rcases g3 with e|⟨k,e,hk⟩
   ·rw[e] at hb
    cases hb
   ·rw[e] at hb
    injection hb with hb
    have:=R.o.below.size
    omega,R.o.below.trans (da.mono R.o.below.size),fun e=>jx (by rw[←ae.o,e];rfl)⟩
  have gx:=V (R.o.later da)
  have kn:Z (∀b,F=some b→an≠some b):=V (fun b hb e=>by
   have h1:=R.o.sl.lt b e
   rcases g3 with e2|⟨k,e2,hk⟩
   ·rw[e2] at hb
    cases hb
   ·rw[e2] at hb
    injection hb with hb
    omega)
  obtain⟨A7,c7,rfl,_,_⟩:=g5.form
  obtain⟨e0,e1,e2,e3,e4,e5,e6,e7⟩:=f5.o w7 br.o.below
  clear g5 j2 g3 jx da kk
  go_upto_block 3 with(first
   |(go_at_call 137;refine(hl.o _ br.o.below).mono ?_;rintro e w8 ⟨A8,c8,h8,rfl,k8,k1,Bh⟩;have i5:=V k8;have ia:=V (br.o.later Bh);have gz:=V (gx.o.later Bh);have gv:Z (∀b,F=some b→h8≠some b∧an≠some b):=V (fun b hb=>⟨fun e=>(by have h1:=k1 b e;have h3:=br.o.sl.lt b hb;omega),kn.o b hb⟩);clear k8 k1 Bh)
   |fail)
  clear e0 e1 e2 e3 e4 e5 e6 e7 br gx
  have f7:Z (NK r w8 (z++((m.p.zr.map (·.1)).take 0).filter (fun b=>!decide (b∈l))) (RO A7 nf c7) F):=V (by
   rw[List.take_zero,RL,Pr]
   exact ia.o)
  have gs:Z (∀b,F=some b→h8≠some b∧an≠some b):=gv
  go_cut [11] (fun v L=>∃(A:OC Addr) (c:Nat) (h:OC Nat),v=RO A (z++ZX m.p.zr l).length c∧Z (NK r L (z++ZX m.p.zr l) (RO A (z++ZX m.p.zr l).length c) h)∧Z (NK r L z (RO Af nf cf) an))
  case first=>
   go_wp2_with fail
   go_loopw [11,14] (fun v iv wr=>∃(k:Nat) (h:OC Nat),k≤lm∧iv=I (k:Nat)∧Z (NK r wr (z++((m.p.zr.map (·.1)).take k).filter (fun b=>!decide (b∈l))) v h)∧Z (Sl wr 3 1 (RO A8 lm c8) h8 lm ((x9 m.p.zr).map yJ))∧Z (NK r wr z (RO Af nf cf) an)∧Z (∀b,h=some b→h8≠some b∧an≠some b)) (fun _ iv _=>lm - (intOf iv).toNat)
   case atStart=>exact⟨0,F,OE _,rfl,f7,i5,gz,gs⟩
   case round=>
    clear f7
    obtain⟨k,h,hk,rfl,D,H8,a4,HD⟩:=hrel
    obtain⟨A0,a6,rfl,_,_⟩:=D.o.sl.form
    obtain⟨b8,a7⟩:∃b8,z++((m.p.zr.map (·.1)).take k).filter (fun b=>!decide (b∈l))=b8:=⟨_,rfl⟩
    rw[a7] at D
    have l1:b8.length≤nf+k:=by
     rw[←a7,Oo,ae.o]
     have h1:=List.length_filter_le (fun b=>!decide (b∈l)) ((m.p.zr.map (·.1)).take k)
     rw[OU] at h1
     omega
    have bh:=V a7
    rw[a7]
    obtain⟨mc,g1⟩:∃mc,b8.length=mc:=⟨_,rfl⟩
    rw[g1] at l1 ⊢
    have cu:=V g1
    clear a7 g1
    by_cases af:k < lm
    ·have G:k < (m.p.zr.map (·.1)).length:=by rw[Ow,f9.o];exact af
     have cb:(k:Int) < (lm:Int):=O
     have j6:(0:Int)≤(k:Int):=O
     have j7:Ov.wrap ((k:Int)+1)=(k:Int)+1:=Og _ O
     obtain⟨b3,uw,ei,df,ad,_,_,U,a⟩:=H8.o.at_ O
     injection ad with hva1 hvx hva3
     subst hva1 hva3
     clear hvx
     obtain⟨Cy,j⟩:∃Cy,(m.p.zr.map (·.1))[k]=Cy:=⟨_,rfl⟩
     have cs:wr.cell? (Y b3 (uw+k))=some (I Cy):=(a k O).1.trans (by
      show ((m.p.zr.map (·.1)).map yJ)[k]?=_
      rw[O5,Ot G,j]
      rfl)
     have E:=s9 m.p.zr l k G
     rw[j] at E
     have cp:=oy (RO A3 n p3) [] l Cy wr (by
      rw[qp.o]
      exact bk.o wr D.o.below) (by rw[qp.o];omega)
     obtain⟨dd,fv⟩:∃dd,decide (Cy∈l)=dd:=⟨_,rfl⟩
     rw[fv] at cp
     have P:=V E
     have gw:=V fv
     have ar:=D.o.sl
     rw[cu.o] at ar
     have fg:=V ar
     clear a E j fv ar df
     cases dd with
     |true=>
      have a8:Cy∈l:=of_decide_eq_true gw.o
      have HN:Z (NK r wr (z++((m.p.zr.map (·.1)).take (k+1)).filter (fun b=>!decide (b∈l))) (RO A0 mc a6) h):=V (by
       rw[P.o,OG a8,bh.o,←cu.o]
       exact D.o)
      clear a8
      go_wp2_with (first
       |(go_at_call 138;refine cp.mono ?_;rintro e w5 ⟨rfl,rfl⟩;clear cp)
       |fail)
      refine⟨?_,zV⟩
      first|exact⟨k+1,h,O,zE,HN,H8,a4,HD⟩|((repeat apply OA);exact⟨⟨k+1,h,O,zE,HN,H8,a4,HD⟩,rfl⟩)
     |false=>
      have a8:¬Cy∈l:=of_decide_eq_false gw.o
      have ex:z++((m.p.zr.map (·.1)).take (k+1)).filter (fun b=>!decide (b∈l))=b8++[Cy]:=by
       rw[P.o,Om a8,←O4,bh.o]
      have hw:=V ex
      clear a8 ex
      go_wp2_with (first
       |(go_at_call 138;refine cp.mono ?_;rintro e w5 ⟨rfl,rfl⟩;clear cp)
       |(at_builtin;refine yc rfl _ _ 35 rfl underlying35 hi ga gb gc rfl zD fg.o rfl 1 1 rfl rfl ?_ ?_ ?_ ?_)
       |fail)
      any_goals (first|(simp[Value.oneCell'];done)|(unfold maxLen;omega)|omega|rfl)
      ·intro v3 d9 w9 Q al X
       have HN:Z (NK r w9 (z++((m.p.zr.map (·.1)).take (k+1)).filter (fun b=>!decide (b∈l))) v3 d9):=V (by
        rw[hw.o]
        exact D.o.push Cy (by rw[cu.o];exact Q) al X)
       have gh:=V (H8.o.N4 al (fun b hb hm=>(HD.o b yT).1 hb))
       have ed:=V (a4.o.keepChg al (fun b hb hm=>(HD.o b yT).2 hb) (fun b hb=>D.o.own b xQ))
       have gr:Z (∀b,d9=some b→h8≠some b∧an≠some b):=V (fun b hb=>by
        rcases X with e|⟨k2,e,hk2⟩
        ·exact HD.o b (by rw[←e];exact hb)
        ·rw[e] at hb
         injection hb with hb
         refine⟨fun e8=>?_,fun e8=>?_⟩
         ·have:=H8.o.lt b e8
          omega
         ·have:=a4.o.sl.lt b e8
          omega)
       obtain⟨A9,ij,rfl,_,_⟩:=Q.form
       clear Q al X
       go_wp2_with fail
       refine⟨?_,zV⟩
       first|exact⟨k+1,d9,O,zE,HN,gh,ed,gr⟩|((repeat apply OA);exact⟨⟨k+1,d9,O,zE,HN,gh,ed,gr⟩,rfl⟩)
    ·have ca:k=lm:=O
     subst ca
     have cb:¬(k:Int) < (k:Int):=O
     have ac:(m.p.zr.map (·.1)).take k=m.p.zr.map (·.1):=Ou (by rw[Ow,f9.o];exact Oq _)
     have j3:b8=z++ZX m.p.zr l:=by
      rw[←bh.o,ac]
      rfl
     have gp:=V j3
     clear ac j3
     go_wp2_with fail
     go_meet
     exact⟨A0,a6,h,by rw[←gp.o,cu.o],by rw[←gp.o];exact D,a4⟩
  case rest=>
   clear f7 i5 ia gz gs gv
   obtain⟨At,ct,ma,rfl,c',a4⟩:=hcut
   obtain⟨wt,rfl⟩:∃wt:Oc,wt=wc:=⟨_,rfl⟩
   obtain⟨tl,dx⟩:∃tl,z++ZX m.p.zr l=tl:=⟨_,rfl⟩
   rw[dx] at c' HR ⊢
   obtain⟨e9,J⟩:∃e9,tl.length=e9:=⟨_,rfl⟩
   have mj:e9≤8589934592:=by
    rw[←J,←dx,Oo,ae.o]
    have h1:(ZX m.p.zr l).length≤m.p.zr.length:=by
     unfold ZX
     refine Ol (List.length_filter_le _ _) ?_
     rw[Ow]
     exact Oq _
    have F:=bi.o
    omega
   have g8:∀i∈rise tl,i∈ids x.zg:=fun i hi=>by
    rw[uU,←dx,OO] at hi
    rcases hi with h1|h1
    ·exact au.o i (by rw[←a5.o] at h1;exact(OZ.1 h1).1)
    ·obtain⟨p,hp,rfl⟩:=OL.1 (OZ.1 h1).1
     exact(ks.o.each p hp).1
   have am:∀i∈z,i∈ids x.zg:=fun i hi=>au.o i (by rw[←a5.o] at hi;exact(OZ.1 hi).1)
   have et:z.Nodup:=by
    rw[←a5.o]
    exact(vS hr.o).sublist PA
   have dt:=Q2 wt (RO At e9 ct) [] tl (by rw[J];have h1:=c'.o.sl;rw[J] at h1;exact h1.reads [] zv) (by rw[J];omega)
   have k5:=xG tl
   obtain⟨T,hT⟩:∃T,rise tl=T:=⟨_,rfl⟩
   rw[hT] at HR g8 k5
   simp only[hT] at dt
   obtain⟨nt,ds⟩:∃nt,T.length=nt:=⟨_,rfl⟩
   simp only[ds] at dt
   rw[ds,J] at k5
   have b7:=V ds
   have i2:=V dt
   have kw:=V g8
   have kp:=V am
   have ll:=V et
   have cq:=V c'.o.below
   rw[J]
   clear dt g8 am et hT ds dx J c'
   go_upto_region 24 with(first
    |(go_at_call 127;refine i2.o.mono ?_;rintro e w9 ⟨A9,c9,h9,rfl,Q,i',X⟩;have ff:=V Q;have f3:=V i';have hz:=V X;clear Q i' X)
    |fail)
   have a3:Z (Od w w w9):=V (zj (b6.o.trans (cq.o.mono b6.o.size)) f3.o)
   have gn:Z (Od r r w9):=V (zj cq.o f3.o)
   by_cases a':nt=0
   ·subst a'
    have ix:T=[]:=Oi b7.o
    have bl:Z (rr=(x,0)):=V (by rw[HR.o,OG ix])
    clear ix
    go_wp2_with fail
    go_ret
    rw[bl.o]
    exact⟨rfl,q,zK.of_below HW.o.at_ a3.o⟩
   have lb:((nt:Int)==0)=false:=by simpa using a'
   have el:¬T=[]:=fun e=>a' (by rw[←b7.o,e];rfl)
   have bu:=HR.o
   rw[Om el] at bu
   have aq:=kV w9 g q x (RO Af nf cf) [] z (cr.o w9 a3.o) HW.o.Kk (by
    rw[ae.o]
    have h1:=(a4.o.later f3.o).sl
    rw[ae.o] at h1
    exact h1.reads [] zv) (by rw[ae.o];omega) kp.o
   have g7:=fun W (hb:Od w w W)=>ZQ W g q x (cr.o W hb) HF.o
   obtain⟨sp,g6⟩:∃sp,z.any x.spent=sp:=⟨_,rfl⟩
   obtain⟨en,fx⟩:∃en,x.ends=en:=⟨_,rfl⟩
   rw[g6] at aq bu
   rw[fx] at bu
   simp only[fx] at g7
   have i7:=V g6
   have S:=V aq
   have fh:=V g7
   have cv:=V bu
   clear g6 fx aq g7 bu el HR a'
   cases sp with
   |true=>
    have bl:Z (rr=(x,11)):=V (by rw[cv.o];simp)
    go_wp2_with (first
     |(go_at_call 130;refine S.o.mono ?_;rintro e a2 ⟨rfl,t⟩;have d:=V (zj a3.o t);clear t)
     |fail)
    go_ret
    rw[bl.o]
    exact⟨rfl,q,zK.of_below HW.o.at_ d.o⟩
   |false=>
   cases en with
   |true=>
    have bl:Z (rr=(x,11)):=V (by rw[cv.o];simp)
    go_wp2_with (first
     |(go_at_call 130;refine S.o.mono ?_;rintro e a2 ⟨rfl,t⟩;have d:=V (zj a3.o t);clear t)
     |(go_at_call 116;refine(fh.o _ d.o).mono ?_;rintro e gg ⟨rfl,K⟩;have av:=V K;clear K)
     |fail)
    go_ret
    rw[bl.o]
    exact⟨rfl,q,(zK.of_below HW.o.at_ d.o).trans av.o⟩
   |false=>
   go_upto_block 5 with(first
    |(go_at_call 130;refine S.o.mono ?_;rintro e a2 ⟨rfl,t⟩;have d:=V (zj a3.o t);have be:=V (zj gn.o t);have i3:=V (ff.o.keep (fun b hb=>t.block b (ff.o.lt b hb)));clear t)
    |(go_at_call 116;refine(fh.o _ d.o).mono ?_;rintro e gg ⟨rfl,K⟩;have K:zK a2 gg g q {x with zA:=x.zA+1} q:=K;have av:=V K;clear K)
    |fail)
   have hn:=V (cw.o.keep (fun b hb=>be.o.block b (cw.o.lt b hb)))
   have f4:Z (NG a2 B 83 #[I m0,I m1,Oa m2,I m3,RO Ak lk ck,RO Am lm cm,I m6,I m7]):=V (ec.o.below be.o ec.o.lt)
   have ef:Z (rr=({{x with zA:=x.zA+1} with zg:=zI (x.zA+1) T (zM z x.zg).1,zC:=x.zC.set i {m.p with zr:=l.map (bM m.p.zr x.zg),mod:=x.zA+1},log:=x.log.add (zX (x.zA+1) T++[⟨x.zA+1,2,id,2⟩])},0)):=V (by rw[cv.o];rfl)
   have ep:=HW.o.Kk
   have jz:∀k (hk:k < l.length),yY m.p.zr l[k]=0→yb (zM (yE m.p.zr (l.take k)) x.zg).1 l[k]=yb x.zg l[k]∧0≤yb (zM (yE m.p.zr (l.take k)) x.zg).1 l[k]∧yb (zM (yE m.p.zr (l.take k)) x.zg).1 l[k]≤4294967296:=fun k hk hu=>by
    have h1:=VK m.p.zr l k hk
    rw[OG hu] at h1
    have F:(yE m.p.zr (l.take (k+1))).Nodup:=((vS hr.o).sublist (List.take_sublist _ _)).sublist PA
    rw[h1] at F
    have h3:∀i∈yE m.p.zr (l.take k),yb x.zg i≤x.N3.vC:=fun i hi=>by
     have h4:i∈z:=by
      rw[←a5.o]
      have h5:=OZ.1 hi
      exact OZ.2 ⟨List.mem_of_mem_take h5.1,h5.2⟩
     have h6:=(List.any_eq_false.1 i7.o) i h4
     have h7:¬x.N3.vC < yb x.zg i:=by simpa[Acc.spent] using h6
     omega
    exact⟨bP HF.o.idsB F,Yx HF.o.N3 HF.o.idsB HF.o.box _ (F.sublist (Ru _ _)) h3 _ (au.o _ (Oj hk))⟩
   have kt:=V jz
   have lw:=V (cr.o a2 d.o)
   have fd:Z (PmR w a2 gg g q {x with zA:=x.zA+1} l m.p.zr x.zg 0 (RO none 0 0)):=V ⟨(zK.of_below HW.o.at_ d.o).trans av.o,av.o.N4,⟨none,Sl.nil _ _ _,fun b hb=>by cases hb⟩⟩
   clear jz f5 ie hl ff a4 S fh cv i2 bk ha g' ee
   obtain⟨n0,l6,l3,l4,l5⟩:=info_parts Try.infoMember2
   go_cut [15] (fun v L=>∃A c,v=RO A n c∧Z (PmR w a2 L g q {x with zA:=x.zA+1} l m.p.zr x.zg n (RO A n c)))
   case first=>
    go_wp2_with fail
    go_loopw [15,16] (fun mv iv wr=>∃(k:Nat) (A:OC Addr) (c:Nat),k≤n∧mv=RO A k c∧iv=I (k:Nat)∧Z (PmR w a2 wr g q {x with zA:=x.zA+1} l m.p.zr x.zg k (RO A k c))) (fun _ iv _=>n - (intOf iv).toNat)
    case atStart=>exact⟨0,none,0,OE _,rfl,rfl,fd⟩
    case round=>
     clear fd
     obtain⟨k,Ax,cx,hk,rfl,rfl,D⟩:=hrel
     by_cases af:k < n
     ·have G:k < l.length:=JB
      have cb:(k:Int) < (n:Int):=O
      have j6:(0:Int)≤(k:Int):=O
      have j7:Ov.wrap ((k:Int)+1)=(k:Int)+1:=Og _ O
      have ir:=hn.o.yE h0.o HW.o.at_ D.o.ch
      obtain⟨b3,uw,ei,df,ad,_,_,U,a⟩:=ir.at_ O
      injection ad with hva1 hvx hva3
      subst hva1 hva3
      clear hvx
      obtain⟨Cy,j⟩:∃Cy,l[k]=Cy:=⟨_,rfl⟩
      have ba:wr.cell? (Y b3 (uw+k))=some (I Cy):=(a k O).1.trans (by simp[G,j,yJ])
      have fm:NG wr B 83 #[I m0,I m1,Oa m2,I m3,RO Ak lk ck,RO Am lm cm,I m6,I m7]:=f4.o.yE kl.o HW.o.at_ D.o.ch
      have hK:∀W,Od wr wr W→(W.cell? (Y B 0)=some (I m0)∧W.cell? (Y B 1)=some (I m1)∧W.cell? (Y B 2)=some (RP ⟨m2.toArray⟩)∧W.cell? (Y B 3)=some (I m3)∧W.cell? (Y B 4)=some (RO Ak lk ck)∧W.cell? (Y B 5)=some (RO Am lm cm)∧W.cell? (Y B 6)=some (I m6)∧W.cell? (Y B 7)=some (I m7))∧W.cell? (Y b3 (uw+k))=some (I Cy):=fun W hb=>by
       have h1:NG W B 83 #[I m0,I m1,Oa m2,I m3,RO Ak lk ck,RO Am lm cm,I m6,I m7]:=fm.below hb fm.lt
       exact⟨⟨h1.cell 0,h1.cell 1,h1.cell 2,h1.cell 3,h1.cell 4,h1.cell 5,h1.cell 6,h1.cell 7⟩,(hb.cell (p:=⟨b3,uw+k,none⟩) U).trans ba⟩
      obtain⟨u,hu⟩:∃u,yY m.p.zr Cy=u:=⟨_,rfl⟩
      have E:=VK m.p.zr l k G
      have b0:=kt.o k G
      have c4:=au.o _ (Oj G)
      rw[j] at E b0 c4
      rw[hu] at E b0
      have bv:∀W,Od wr wr W→C 54 #[.agg #[I m0,I m1,Oa m2,I m3,RO Ak lk ck,RO Am lm cm,I m6,I m7],I Cy] W fun e w'=>e=RR (I u)∧Od W W w':=fun W hb=>by
       rw[←hu]
       have h1:=(D.o.st.at_.parts m fa.o).mem
       rw[fb.o] at h1
       exact Vh W m0 m1 m3 m6 m7 ⟨m2.toArray⟩ (RO Ak lk ck) (RO Am lm cm) m.p.zr Cy ((h1.below hb).sub (fun _ _ _ hm=>by cases hm)) (Ol bi.o zD)
      have Ip:=V bv
      have HK:=V hK
      have P:=V E
      have hy:=V b0
      have hg:=V c4
      have hd:=V j
      have ih:=V hu
      have eo:b3∉q.own g:=fun hm=>by
       have h1:=HW.o.at_.lt b3 hm
       have F:=h0.o b3 df
       omega
      have gk:=V eo
      have gj:=V U
      obtain⟨⟨e0,e1,e2,e3,e4,e5,e6,e7⟩,cs⟩:=hK wr (Ok _ _)
      clear a ba hK bv E j hu b0 c4 ir fm eo df
      go_upto_region 32 with(fail)
      go_cut [17] (fun v L=>v=I u∧Z (Od wr wr L))
      case first=>
       exact Mb
      case rest=>
       obtain⟨rfl,Er⟩:=hcut
       obtain⟨w8,rfl⟩:∃w8:Oc,w8=wc:=⟨_,rfl⟩
       have ik:=(HK.o _ Er.o).2
       have bo:Z (zK wr w8 g q {{x with zA:=x.zA+1} with zg:=(zM (yE m.p.zr (l.take k)) x.zg).1} q):=V (zK.of_below D.o.st.at_ Er.o)
       clear e0 e1 e2 e3 e4 e5 e6 e7 cs
       go_upto_if 115 with(fail)
       go_cut [17] (fun v L=>v=I (bM m.p.zr x.zg Cy).2∧Z (zK wr L g q {{x with zA:=x.zA+1} with zg:=(zM (yE m.p.zr (l.take (k+1))) x.zg).1} q))
       case first=>
        by_cases Ep:u=0
        ·have hq:(u==0)=true:=JI
         have hx:=hy.o Ep
         have a9:(bM m.p.zr x.zg Cy).2=yb x.zg Cy:=by
          unfold bM
          rw[ih.o,OG Ep]
         have cg:=kS w8 g q {{x with zA:=x.zA+1} with zg:=(zM (yE m.p.zr (l.take k)) x.zg).1} bo.o.at_ (by
          show (zM (yE m.p.zr (l.take k)) x.zg).1.length≤_
          rw[vh]
          exact ep) Cy (by
          show Cy∈ids (zM (yE m.p.zr (l.take k)) x.zg).1
          rw[vX]
          exact hg.o) hx.2
         have ew:(zM (yE m.p.zr (l.take (k+1))) x.zg).1=JR Cy (zM (yE m.p.zr (l.take k)) x.zg).1:=by
          rw[P.o,OG Ep,ZO]
         have az:C 132 #[Y g 0,I Cy] w8 fun e w'=>e=RR (I (bM m.p.zr x.zg Cy).2)∧zK w8 w' g q {{x with zA:=x.zA+1} with zg:=(zM (yE m.p.zr (l.take (k+1))) x.zg).1} q:=by
          rw[ew,a9,←hx.1]
          exact cg
         have bj:=V az
         obtain⟨nv,ap⟩:∃nv,(bM m.p.zr x.zg Cy).2=nv:=⟨_,rfl⟩
         rw[ap] at bj
         have fc:=V ap
         clear hx a9 cg ew az Ep ap
         go_wp2_with (first
          |(go_at_call 132;refine bj.o.mono ?_;rintro e w5 ⟨rfl,ka⟩;have ag:=V ka;clear ka)
          |fail)
         go_meet
         exact⟨by rw[fc.o],V (bo.o.trans ag.o)⟩
        ·have hq:(u==0)=false:=JI
         have a9:(bM m.p.zr x.zg Cy).2=u:=by
          unfold bM
          rw[ih.o,Om Ep]
         have kq:=V a9
         have ag:Z (zK wr w8 g q {{x with zA:=x.zA+1} with zg:=(zM (yE m.p.zr (l.take (k+1))) x.zg).1} q):=V (by
          rw[P.o,Om Ep]
          exact bo.o)
         clear a9 Ep
         go_wp2_with fail
         go_meet
         exact⟨by rw[kq.o],ag⟩
       case rest=>
        obtain⟨rfl,ag⟩:=hcut
        obtain⟨w5,rfl⟩:∃w5:Oc,w5=wc:=⟨_,rfl⟩
        have m8:w5.cell? (Y b3 (uw+k))=some (I Cy):=(ag.o.N4.cell (p:=⟨b3,uw+k,none⟩) gj.o gk.o).trans (HK.o wr (Ok _ _)).2
        obtain⟨hh,bb,H⟩:=D.o.mem
        have jn:=bb.yE (fun b hb=>Ol d.o.size (H b hb)) HW.o.at_ ag.o.N4
        have ht:=V jn
        have N:=V H
        obtain⟨nv,ap⟩:∃nv,(bM m.p.zr x.zg Cy).2=nv:=⟨_,rfl⟩
        rw[ap]
        have fc:=V ap
        clear bb H jn ik ap
        go_wp2_with (first
         |(at_builtin;refine yc rfl _ _ 81 rfl underlying81 l6 l3 l4 l5 rfl zD ht.o rfl 1 1 rfl rfl ?_ ?_ ?_ ?_)
         |fail)
        any_goals (first|(simp[Value.oneCell'];done)|(unfold maxLen;omega)|omega|rfl)
        ·intro v2 k' w6 du j1 k0
         obtain⟨A6,c6,rfl,_,_⟩:=du.form
         have HN:Z (PmR w a2 w6 g q {x with zA:=x.zA+1} l m.p.zr x.zg (k+1) (RO A6 (k+1) c6)):=V (D.o.next HW.o.at_ d.o.size G ag.o ht.o N.o (by
          rw[hd.o]
          have h1:yC (bM m.p.zr x.zg Cy)=[I Cy,I nv]:=by
           rw[←fc.o]
           rfl
          rw[h1]
          first|exact du|(rw[List.map_take];exact du)) j1 k0)
         clear du j1 k0
         go_wp2_with fail
         refine⟨?_,zV⟩
         first|exact⟨k+1,A6,c6,O,rfl,zE,HN⟩|((repeat apply OA);exact⟨⟨k+1,A6,c6,O,rfl,zE,HN⟩,rfl⟩)
     ·have ca:k=n:=O
      subst ca
      have cb:¬(k:Int) < (k:Int):=O
      go_wp2_with fail
      go_meet
      exact⟨Ax,cx,rfl,D⟩
   case rest=>
    clear fd lb
    obtain⟨Ax,cx,rfl,D⟩:=hcut
    obtain⟨we,rfl⟩:∃we:Oc,we=wc:=⟨_,rfl⟩
    have ac:l.take n=l:=Ou bC
    have b5:=D.o.st
    rw[ac,a5.o] at b5
    obtain⟨dg,bb,H⟩:=D.o.mem
    rw[ac] at bb
    have iz:=i3.o.yE (fun b hb=>Ol (b6.o.trans (cq.o.mono b6.o.size)).size (hz.o b hb)) HW.o.at_ D.o.ch
    have co:C 133 #[Y g 0,RO A9 nt c9] we fun e w'=>∃Ae ce he,e=RR (RO Ae nt ce)∧Sl w' 159 4 (RO Ae nt ce) he nt (yR (zX (x.zA+1) T))∧(∀b,he=some b→we.heap.size≤b)∧zK we w' g q {{x with zA:=x.zA+1} with zg:=zI (x.zA+1) T (zM z x.zg).1} q:=by
     have h1:=UF we g q {{x with zA:=x.zA+1} with zg:=(zM z x.zg).1} b5.at_ (by
      show (zM z x.zg).1.length≤_
      rw[vh]
      exact ep) T (RO A9 nt c9) (by
      rw[b7.o]
      exact iz.reads (q.own g) (fun b hb hm=>by
       have h1:=HW.o.at_.lt b hm
       have F:=hz.o b hb
       have h3:=(b6.o.trans (cq.o.mono b6.o.size)).size
       omega)) (by rw[b7.o];omega) (fun i hi=>by
      show i∈ids (zM z x.zg).1
      rw[vX]
      exact kw.o i hi)
     refine h1.mono ?_
     rintro e w' ⟨v',Cw,rfl,sw,Cv,Cu⟩
     rw[b7.o] at sw
     exact fQ
    have fi:=V co
    have bp:=V b5
    have hv:=V bb
    have N:=V H
    clear co b5 bb H iz ac
    go_upto_region 37 with(first
     |(go_at_call 133;refine fi.o.mono ?_;rintro e wv ⟨Ae,ce,he,rfl,k9,k3,kb⟩;have i6:=V k9;have i1:=V k3;have ib:=V kb;clear k9 k3 kb)
     |fail)
    obtain⟨M,fn⟩:∃M,l.map (bM m.p.zr x.zg)=M:=⟨_,rfl⟩
    have it:M.length=n:=by rw[←fn,Ow,qp.o]
    rw[fn] at hv ef
    have b9:zK w wv g q {{x with zA:=x.zA+1} with zg:=zI (x.zA+1) T (zM z x.zg).1} q:=bp.o.trans ib.o
    have cd:Sl wv 153 2 (RO Ax n cx) dg n (zU yC M):=hv.o.yE (fun b hb=>Ol d.o.size (N.o b hb)) HW.o.at_ ib.o.N4
    have ju:∀b,dg=some b→b∉q.own g:=fun b hb hm=>by
     have h1:=HW.o.at_.lt b hm
     have F:=N.o b hb
     have h3:=d.o.size
     omega
    have zw:=HI0.o
    have f':i < x.zC.length:=JF
    have hm:q.ms[i]=m:=HM.o
    have g4:=b9.at_.parts m fa.o
    have k4:xB wv (q.own g) ⟨{m.p with zr:=M},m.kv,RO Ax n cx⟩:=by
     refine⟨g4.keys,?_,g4.tk,cd.ty⟩
     show NN wv (q.own g) 2 (RO Ax n cx) M.length (zU yC M)
     rw[it]
     exact cd.reads _ ju
    obtain⟨b2,o2,c2,dy,_,_,_,_,aw⟩:=b9.at_.ud i f' zw
    have kh:=b9.at_.Ze dy i f' zw 5 O (RO Ax n cx) ⟨{m.p with zr:=M},m.kv,RO Ax n cx⟩ (by rw[hm];rfl) k4
    have gd:wv.cell? (Y g 11)=some (RO (some (Y b2 o2)) nm c2):=by
     have h1:=b9.at_.xj
     rw[dy] at h1
     rw[←Em.o]
     exact h1
    rw[hm] at aw
    have d5:wv.cell? (Y b2 (o2+i * 8+5))=some (RO Am lm cm):=by
     rw[←fb.o]
     exact(aw 5 O).1
    have kx:=(aw 5 O).2
    have ku:=V b9
    have bs:=V kh
    have fj:=V dy
    clear aw k4 g4 kh b9 cd ju dy fn it
    go_upto_region 38 with(fail)
    obtain⟨L,kf⟩:∃L:Oc,L=wv.setCell (Y b2 (o2+i * 8+5)) (RO Ax n cx):=⟨_,rfl⟩
    rw[←kf] at bs ⊢
    clear kf d5 kx gd
    have ab:=bs.o.at_
    have fz:i < (q.ms.set i ⟨{m.p with zr:=M},m.kv,RO Ax n cx⟩).length:=by rw[Pd];exact zw
    have c5:i < (x.zC.set i {m.p with zr:=M}).length:=by rw[Pd];exact f'
    obtain⟨b3,o3,c3,kd,ev,_,_,_,a⟩:=ab.ud i c5 fz
    obtain⟨ad,_,_⟩:=OM (fj.o.symm.trans kd)
    simp only[Pk,Addr.mk.injEq,and_true] at ad
    obtain⟨rfl,rfl⟩:=ad
    simp only[Ph] at a
    have d6:L.cell? (Y b2 (o2+i * 8+6))=some (I m.p.mod):=(a 6 O).1
    have ky:=(a 6 O).2
    have gd:L.cell? (Y g 11)=some (RO (some (Y b2 o2)) nm c2):=by
     have h1:=ab.xj
     rw[show ({q with ms:=q.ms.set i ⟨{m.p with zr:=M},m.kv,RO Ax n cx⟩}:zW).vm=q.vm from rfl,fj.o] at h1
     rw[←Em.o]
     exact h1
    have l9:L.cell? (Y g 9)=some (I (x.zA+1)):=ab.vF
    have jt:(⟨{m.p with zr:=M},m.kv,RO Ax n cx⟩:xd)∈q.ms.set i ⟨{m.p with zr:=M},m.kv,RO Ax n cx⟩:=List.mem_set zw _
    have cl:=(ab.later (zG L)).parts _ jt
    have ki:=(ab.later (zG L)).Ze fj.o i c5 fz 6 O (I (x.zA+1)) ⟨{m.p with zr:=M,mod:=x.zA+1},m.kv,RO Ax n cx⟩ gM ⟨cl.keys,cl.mem,cl.tk,cl.tm⟩
    have gf:=(bs.o.trans (zK.of_below ab (zG L))).trans ki
    simp only[List.set_set] at gf
    have eh:=V gf
    obtain⟨d8,ft⟩:∃d8,x.zA+1=d8:=⟨_,rfl⟩
    have km:=V ft
    rw[ft] at l9
    have m9:b2≠g:=fun e=>ab.apart.hm (by rw[ev,e])
    obtain⟨md,jp⟩:∃md,m.p.mod=md:=⟨_,rfl⟩
    rw[jp] at d6
    clear ab a kd jt cl ki gf ft fz c5 ev jp
    go_cut [] (fun wz=>Z (wz=L.drew.setCell (Y b2 (o2+i * 8+6)) (I d8)))
    case first=>
     go_region_held3 (fun W=>W.cell? (Y g 11)=some (RO (some (Y b2 o2)) nm c2)∧W.cell? (Y g 9)=some (I d8)) (go_keep) (fail)
     all_goals
      go_wp2_with fail
      go_meet
      exact V rfl
    case rest=>
     obtain⟨wb,rfl⟩:∃wb:Oc,wb=wc:=⟨_,rfl⟩
     have g9:=hcut.o
     rw[←km.o] at g9
     rw[←g9] at eh
     clear g9 hcut l9 gd d6 ky
     obtain⟨j0,hj,ld,lf,lh⟩:=info_parts Try.infoEntry
     have fk:∀b,he=some b→b∉q.own g:=fun b hb hm=>by
      have h1:=i1.o b hb
      have F:=bp.o.at_.lt b hm
      omega
     have im:∀b,he=some b→w.heap.size≤b:=fun b hb=>Ol bp.o.N4.size (i1.o b hb)
     obtain⟨x3,d'⟩:∃x3:Acc,x3={{x with zA:=x.zA+1} with zg:=zI (x.zA+1) T (zM z x.zg).1,zC:=x.zC.set i {m.p with zr:=M,mod:=x.zA+1}}:=⟨_,rfl⟩
     have lc:∃q3,zK wv wb g q x3 q3:=⟨_,by rw[d'];exact eh.o⟩
     obtain⟨q3,dv⟩:=lc
     have iu:Sl wb 159 4 (RO Ae nt ce) he nt (yR (zX (x.zA+1) T)):=i6.o.N4 dv.N4 fk
     have il:∀b,he=some b→b∉q3.own g:=fun b hb hm=>by
      rcases dv.own b hm with h1|h1
      ·exact fk b hb h1
      ·have:=i6.o.lt b hb
       omega
     have fo:zK w wb g q x3 q3:=ku.o.trans dv
     have c0:=Zm wb g q3 x3 2 id 2 fo.at_
     rw[show x3.zA=x.zA+1 by rw[d']] at c0
     have eg:=V iu
     have gi:=V il
     have kj:=V im
     have cz:=V fo
     have ii:=V d'
     clear iu il im fo d' fk dv hm
     go_wp2_with (first
      |(go_at_call 118;refine c0.mono ?_;rintro e mm ⟨rfl,bz⟩;have i4:=V (eg.o.N4 (NH.of_below bz []) zv);have eb:=V bz;clear c0 bz)
      |(at_builtin;refine yc rfl _ _ 156 rfl underlying156 hj ld lf lh rfl zD i4.o rfl 1 1 rfl rfl ?_ ?_ ?_ ?_)
      |fail)
     any_goals (first|(simp[Value.oneCell'];done)|(unfold maxLen;omega)|omega|rfl)
     ·intro v2 k' ea cn er ez
      obtain⟨lv,m4,rfl,_,_⟩:=cn.form
      have hc:NH he.toList wb ea:=(NH.of_below eb.o _).trans er (fun i hi=>.inl hi)
      have a1:zJ ea g q3 x3:=zJ.chgE cz.o.at_ eg.o gi.o hc
      have ek:zK w ea g q x3 q3:=⟨a1,cz.o.N4.trans hc (fun k hk=>.inr (kj.o k yi)),cz.o.own⟩
      have En:x3.log=x.log:=by rw[ii.o]
      have bq:=HF.o.log
      have l2:=HF.o.N3.log
      have em:=XZ (e:=zX (x.zA+1) T++[⟨x.zA+1,2,id,2⟩]) a1 JH JH (by rw[En];omega) (by rw[vB];exact cn) (by
       rw[Oo,xP,b7.o]
       rfl) O (fun b hb hm=>by
       rcases ez with h1|⟨b2,h1,F⟩
       ·exact gi.o b X8 hm
       ·rw[h1] at hb
        injection hb with hb
        have h3:=cz.o.at_.lt b hm
        have h4:=eb.o.size
        omega)
      have ml:ea.cell? (Y g 12)=some (RQ (some (Y q3.gl 0))):=a1.xp
      have i8:=V ek
      clear a1 ek En bq l2 hc cn er ez
      go_wp2_with (first
       |(go_at_call 117;refine em.mono ?_;rintro e mn ⟨rfl,lj,_,f0⟩;have i9:=V f0;clear f0 em)
       |fail)
      go_ret
      rw[ef.o]
      have h1:=i8.o.trans i9.o
      rw[ii.o] at h1
      exact⟨rfl,lj,h1⟩
theorem dI (w:Oc)(g:Nat)(q:zW)(x:Acc)(id:Int)(is:Ob Int)(vb:Oe)(Sb:Ob Nat)(h:uH w g q x is vb Sb) :
  C 64 #[Y g 0,I id,vb] w (Zw w g q (xn x id is)):=by
 by_cases c:id∈Zb x.zC
 case neg=>exact oa w g q x id is vb Sb h c
 by_cases a:is=[]
 ·exact kU w g q x id is vb Sb h c a
 cases b:(rise is).any (fun id=>!zZ x.zg id) with
 |true=>exact nZ w g q x id is vb Sb h c a b
 |false=>exact Ds w g q x id is vb Sb h c a b
end
end Go.Proofs.YtnofkliaofgiaaaGreatDoor
