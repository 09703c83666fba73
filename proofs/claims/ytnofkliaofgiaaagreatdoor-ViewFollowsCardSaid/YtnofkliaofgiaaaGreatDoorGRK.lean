/-
  The walk of the reference's RightKey. Keywords in plain words: what a sort made compact is. Keywords put in one by one: what a sort made compact is, once more. The walk of the reference's Keys: texts put in one by one. The walk of the reference's Keys: the ways that change nothing. The walk of the reference's Keys: the way that changes an email. The reference's Keys, whole.
-/
import Derived.Test.YtnofkliaofgiaaaGreatDoorGZ
import Derived.Test.YtnofkliaofgiaaaGreatDoorGB
import Derived.Test.YtnofkliaofgiaaaGreatDoorGD
import Derived.Test.YtnofkliaofgiaaaGreatDoorGRQ
import Derived.Test.YtnofkliaofgiaaaGreatDoorGRD
set_option maxRecDepth 100000
set_option maxHeartbeats 8000000
open Go.Proofs.Tryz
open Bool renaming false_eq_true→Px
open Exists renaming intro→OA
open Go renaming Value→Oe,World→Oc
open Go.Ending renaming returned→RR
open Go.Lib renaming compact→Po,compactUpTo→Rc
open Go.RowKit renaming Below→Od
open Go.RowKit.Below renaming refl→Ok
open Go.Value renaming pointer→RQ,slice→RO,string→RP
open Go.Value.slice renaming inj→OM
open List renaming any_eq_true→Ps,append_assoc→O4,append_nil→Pr,drop_eq_getElem_cons→O7,foldl_cons→Pm,getElem?_eq_getElem→Ot,getElem?_map→O5,getElem_cons_zero→Rm,getElem_mem→Oj,getElem_of_mem→Pg,getElem_set_self→Ph,length_append→Oo,length_map→Ow,length_set→Pd,length_take→OU,map_append→OQ,mem_append→OO,mem_cons→OB,mem_cons_of_mem→OP,mem_map→OL,mem_map_of_mem→OV,mem_of_find?_eq_some→O2,mem_singleton→OI,pairwise_cons→Pc,pairwise_iff_getElem→PF,take_of_length_le→Ou,take_succ_eq_append_getElem→Oh
open Nat renaming le_refl→Oq,le_trans→Ol,lt_of_lt_of_le→OJ,zero_le→OE
open Option.some renaming injEq→Pk
open Std renaming lt_of_le_of_ne→RI
open _root_ renaming ByteArray→Oy,List→Ob,Option→OC,UInt8→Oz,decide_eq_false→OD,decide_eq_true→OS,getElem!_pos→PD,if_neg→Om,if_pos→OG
namespace Go.Proofs.YtnofkliaofgiaaaGreatDoor
section
open Go.RowKit Go.Sort
attribute [local go_sem ↓] Go.wp_at_zero Go.wp_at_succ
theorem kP (s:Oy)(w:Oc)(hs:s.size≤140737488351232) :
  C 177 #[.string s] w fun e w'=>e=RR (.bool (xD s.data.toList))∧Od w w w':=by
 obtain⟨b,hb⟩:∃b,xD s.data.toList=b:=⟨_,rfl⟩
 rw[hb]
 have dz:=V hb
 clear hb
 obtain⟨a,d⟩:∃a,Y8 s.data.toList=a:=⟨_,rfl⟩
 have c:=QX s
 rw[d] at c
 have HA:=V d
 clear d
 go_enter func177,ntmps177
 cases a
 ·go_wp2_with (first|(go_at_call 81;refine(c _ hs).mono ?_;rintro e w' ⟨rfl,rfl⟩)|(go_at_call 172;refine(Uo _ _ hs).mono ?_;rintro e w' ⟨rfl,hb⟩))
  go_ret
  exact⟨xy (by rw[←dz.o,xD,HA.o];rfl),Ok _ _⟩
 ·go_wp2_with (first|(go_at_call 81;refine(c _ hs).mono ?_;rintro e w' ⟨rfl,rfl⟩)|(go_at_call 172;refine(Uo _ _ hs).mono ?_;rintro e w' ⟨rfl,hb⟩))
  ·exact GH
  ·exact GL
end
section
open Go.RowKit Go.Sort
theorem kY (l:yF):(YJ l).Pairwise (·≤·):=by
 have:=List.pairwise_mergeSort (le:=fun x y:Ob Oz=>decide (x≤y)) (by intro a b c;simp;exact List.le_trans) (by intro a b;simp;exact List.le_total a b) l
 unfold YJ
 simpa using this
theorem CK (l:yF)(x:Ob Oz):x∈YJ l↔x∈l:=by simp[YJ]
theorem lC {d:yF}(h:d.Pairwise (·≤·))(i j:Nat)(hij:i≤j)(hj:j < d.length):d.toArray[i]!≤d.toArray[j]!:=by
 rw[PD _ i zT,PD _ j vL]
 simp only[List.getElem_toArray]
 rcases Nat.lt_or_ge i j with h1|h1
 ·exact PF.1 h i j O hj h1
 ·obtain rfl:i=j:=O
  exact List.le_refl _
theorem Vu {d:yF}(h:d.Pairwise (·≤·)):∀m,m≤d.length→(Rc d.toArray m).Pairwise (· < ·)∧∀x,x∈Rc d.toArray m↔∃j,j < m∧d.toArray[j]! =x
 |0,_=>by simp[Rc]
 |m+1,hm=>by
  obtain⟨h1,h2⟩:=Vu h m O
  rw[Lib.compactUpTo_succ]
  by_cases hk:Lib.keeps d.toArray m=true
  ·rw[OG hk]
   refine⟨?_,fun x=>?_⟩
   ·rw[List.pairwise_append]
    refine⟨h1,zv,fun a ha b hb=>?_⟩
    simp only[OI] at hb
    subst hb
    obtain⟨j,hj,rfl⟩:=(h2 a).1 ha
    have hne:d.toArray[m]!≠d.toArray[m - 1]!:=by
     exact Iy
    exact Std.lt_of_le_of_lt (lC h j (m - 1) O O) (RI (lC h (m - 1) m O O) (fun e=>hne e.symm))
   ·exact MV
  ·exact Mn
theorem qU (l:yF):(Po (YJ l)).Pairwise (· < ·)∧∀x,x∈Po (YJ l)↔x∈l:=by
 obtain⟨a,b⟩:=Vu (kY l) (YJ l).length (Oq _)
 refine⟨a,fun x=>?_⟩
 unfold Po
 rw[b,←CK l x]
 constructor
 ·rintro⟨j,hj,rfl⟩
  rw[PD _ j vL]
  simp
 ·intro d
  obtain⟨j,hj,c⟩:=Pg d
  exact⟨j,hj,by rw[PD _ j vL];simpa using c⟩
theorem Q1:∀(a b:yF),a.Pairwise (· < ·)→b.Pairwise (· < ·)→(∀x,x∈a↔x∈b)→a=b
 |[],[],_,_,_=>rfl
 |[],y :: b,_,_,h=>pD
 |x :: a,[],_,_,h=>pE
 |x :: a,y :: b,ha,hb,h=>by
  rw[Pc] at ha hb
  have hxy:x=y:=by
   rcases OB.1 ((h x).1 zv) with e|e
   ·exact e
   ·rcases OB.1 ((h y).2 zv) with e2|e2
    ·exact e2.symm
    ·exact absurd (Std.lt_trans (ha.1 y e2) (hb.1 x e)) (Std.lt_irrefl)
  subst hxy
  rw[Q1 a b ha.2 hb.2 fun z=>?_]
  constructor
  ·intro c
   rcases OB.1 ((h z).1 (OP _ c)) with e|e
   ·subst e
    exact absurd (ha.1 z c) Std.lt_irrefl
   ·exact e
  ·intro c
   rcases OB.1 ((h z).2 (OP _ c)) with e|e
   ·subst e
    exact absurd (hb.1 z c) Std.lt_irrefl
   ·exact e
def lV (x:Ob Oz):yF→yF
 |[]=>[x]
 |y :: r=>if y < x then y :: lV x r else if y=x then y :: r else x :: y :: r
def YU (l:yF):yF:=l.foldl (fun acc x=>lV x acc) []
theorem eI (x:Ob Oz):∀(l:yF) (z:Ob Oz),z∈lV x l↔z=x∨z∈l
 |[],z=>by simp[lV]
 |y :: r,z=>by
  rw[lV]
  split
  ·rw[OB,eI x r z,OB]
   exact Kg
  ·split
   ·rename_i h
    subst h
    simp
   ·simp
theorem C0 (x:Ob Oz):∀(l:yF),l.Pairwise (· < ·)→(lV x l).Pairwise (· < ·)
 |[],_=>by simp[lV]
 |y :: r,h=>by
  rw[Pc] at h
  rw[lV]
  split
  ·rename_i hy
   rw[Pc]
   refine⟨fun z hz=>?_,C0 x r h.2⟩
   rcases(eI x r z).1 hz with e|e
   ·subst e
    exact hy
   ·exact h.1 z e
  ·rename_i hy
   split
   ·rw[Pc]
    exact h
   ·rename_i hne
    have hxy:x < y:=by
     rcases List.le_total x y with h1|h1
     ·exact RI h1 (fun e=>hne e.symm)
     ·exact absurd (RI h1 hne) hy
    rw[Pc]
    refine⟨fun z hz=>?_,by rw[Pc];exact h⟩
    rcases OB.1 hz with e|e
    ·subst e
     exact hxy
    ·exact Std.lt_trans hxy (h.1 z e)
theorem cK:∀(l acc:yF),acc.Pairwise (· < ·)→(l.foldl (fun acc x=>lV x acc) acc).Pairwise (· < ·)∧∀z,z∈l.foldl (fun acc x=>lV x acc) acc↔z∈l∨z∈acc
 |[],acc,h=>ZE
 |x :: l,acc,h=>by
  obtain⟨h1,h2⟩:=cK l (lV x acc) (C0 x acc h)
  refine⟨h1,fun z=>?_⟩
  rw[Pm,h2,eI,OB]
  constructor
  ·rintro(h|h|h)
   ·exact .inl (.inr h)
   ·exact .inl (.inl h)
   ·exact .inr h
  ·rintro((h|h)|h)
   ·exact .inr (.inl h)
   ·exact .inl h
   ·exact .inr (.inr h)
theorem jH (l:yF):Po (YJ l)=YU l:=by
 obtain⟨a,b⟩:=cK l [] zv
 obtain⟨c,d⟩:=qU l
 refine Q1 _ _ c a fun x=>?_
 rw[d]
 exact((b x).trans zv).symm
theorem jF (l:yF):yz l=if l.any (fun s=>!xD s)=true then ([],1) else if 16 < (YU l).length then ([],13) else (YU l,0):=by
 unfold yz
 rw[jH]
end
section
open Go.RowKit Go.Sort
attribute [local go_sem ↓] Go.wp_at_zero Go.wp_at_succ
section
variable {α:Type}
theorem Q6 (acc:Ob α)(k:Nat)(hk:0 < k)(hkl:k≤acc.length)(z:α):(acc.take k++z :: acc.drop k)[k - 1]?=some (acc[k - 1]' O):=by
 exact FH
theorem Jf (acc:Ob α)(k:Nat)(hk:0 < k)(hkl:k≤acc.length)(z:α) :
  (acc.take k++z :: acc.drop k).set k (acc[k - 1]' O)=acc.take (k - 1)++(acc[k - 1]' O) :: acc.drop (k - 1):=by
 exact Mt
theorem Je (acc:Ob α)(k:Nat)(hkl:k≤acc.length)(z x:α):(acc.take k++z :: acc.drop k).set k x=acc.take k++x :: acc.drop k:=by
 exact FB
end
theorem BQ (x:Ob Oz):∀(acc:yF) (p:Nat),p≤acc.length→(∀j (hj:j < acc.length),j < p→acc[j] < x)→(∀hp:p < acc.length,¬acc[p] < x)→
  lV x acc=if acc[p]?=some x then acc else acc.take p++x :: acc.drop p
 |[],p,h,_,_=>by
  have:p=0:=vZ
  subst this
  simp[lV]
 |y :: r,0,_,_,h=>by
  have h0:=h zv
  simp only[Rm] at h0
  rw[lV,Om h0]
  by_cases he:y=x
  ·rw[OG he]
   simp[he]
  ·rw[Om he]
   simp[he]
 |y :: r,p+1,hp,hlt,h=>by
  have hy:=hlt 0 zv O
  simp only[Rm] at hy
  rw[lV,OG hy,BQ x r p YN (fun j hj hjp=>by have:=hlt (j+1) zT O;simpa using this) (fun hpl=>by have:=h zT;simpa using this)]
  simp only[List.getElem?_cons_succ]
  split
  ·rfl
  ·simp
structure Ug (w wr:Oc)(v:Oe)(h:OC Nat)(acc:yF):Prop where
 sl:Sl wr 9 1 v h acc.length (acc.map encStr)
 own:∀b,h=some b→w.heap.size≤b
 below:Od w w wr
theorem Ug.later {w wr w':Oc}{v:Oe}{h:OC Nat}{acc:yF}(q:Ug w wr v h acc)(hb:Od wr wr w'):Ug w w' v h acc:=
 ⟨q.sl.N4 (NH.of_below hb []) zv,q.own,Uj q.below hb⟩
theorem mV (l:yF)(k:Nat)(hk:k < l.length):YU (l.take (k+1))=lV l[k] (YU (l.take k)):=by
 unfold YU
 rw[Oh hk,List.foldl_append]
 rfl
theorem VR (w:Oc)(v:Oe)(n:Nat)(l:yF)(hn:l.length=n)(hnb:n≤1099511627776)(hr:NN w [] 1 v n (l.map encStr))(hs:dX l) :
  C 126 #[v] w fun e w'=>∃A cap hh,e=RR (.tuple #[RO A (yz l).1.length cap,I (yz l).2])∧Sl w' 9 1 (RO A (yz l).1.length cap) hh (yz l).1.length ((yz l).1.map encStr)∧Od w w w'∧∀b,hh=some b→w.heap.size≤b:=by
 obtain⟨i0,hi,b4,b5,b6⟩:=info_parts Try.infoString
 obtain⟨A,cap,rfl,_,_⟩:=hr.form
 obtain⟨ks,er,Q⟩:∃ks er,yz l=(ks,er):=⟨_,_,rfl⟩
 rw[Q]
 have HQ:=V Q
 have HR:=V hr
 have HN:=V hn
 have HS:=V hs
 clear Q hr hn hs
 go_enter func126,ntmps126
 go_upto_block 0 with(fail)
 go_cut [4] (fun o wx=>∃h,Z (l.all (fun s=>xD s)=true∧Ug w wx o h (YU l)))
 case first=>
  go_wp2_with fail
  go_loopw [4,5] (fun o i wr=>∃(k:Nat) (h:OC Nat),k≤n∧i=I k∧Z ((l.take k).all (fun s=>xD s)=true∧Ug w wr o h (YU (l.take k)))) (fun _ i _=>n - (intOf i).toNat)
  case atStart=>exact⟨0,none,OE _,rfl,V ⟨zv,Sl.nil _ _ _,(fun b hb=>by cases hb),Ok _ _⟩⟩
  case round=>
   obtain⟨k,h,hk,rfl,U⟩:=hrel
   by_cases af:k < n
   ·have P:k < l.length:=Zg
    have X:=U.o.1
    have a1:=mV l k P
    have W:(YU (l.take k)).length≤1099511627776:=by
     rw[←jH]
     have:=Lib.compact_length_le (YJ (l.take k))
     rw[X3,OU] at this
     omega
    have a0:xD l[k]=false→([],1)=(ks,er):=fun h=>by
     rw[←HQ.o]
     unfold yz
     rw[OG (Ps.2 ⟨l[k],Oj P,ZE⟩)]
    have N:xD l[k]=true→(l.take (k+1)).all (fun s=>xD s)=true:=fun h=>by
     rw[Oh P,List.all_append,X]
     simp[h]
    obtain⟨b,f,b7,B,M,_,a5⟩:=HR.o.str k P
    injection B with hva1 _ hva3
    subst hva1
    subst hva3
    have R:=HS.o l[k] (Oj P)
    have L:=V U.o.2
    have d0:wr.cell? (Y b (f+k))=some (encStr l[k]):=(L.o.below.cell (p:=⟨b,f+k,none⟩) M).trans a5
    have S:=V a5
    have d:=V a1
    have D:=V a0
    have g:=V N
    clear X a1 a0 N a5 U
    generalize l[k]=x at d0 S d D g R
    generalize YU (l.take k)=acc at L d W
    have hR:=kP ⟨x.toArray⟩ wr (by show x.toArray.size≤_;simpa using R)
    simp only at hR
    obtain⟨m,H⟩:∃m,acc.length=m:=⟨_,rfl⟩
    have HM:=V H
    rw[H] at W
    obtain⟨A1,E,rfl,_,_⟩:=L.o.sl.form
    rw[H]
    clear H R
    cases J:xD x
    ·rw[J] at hR
     have az:=D.o J
     injection az with hp1 hp2
     subst hp1
     subst hp2
     clear J D g HQ
     have ap:=V L.o.below
     go_wp2_with (first
      |(go_at_call 177;refine hR.mono ?_;rintro e w2 ⟨rfl,u⟩;have aq:=V (Uj ap.o u);clear u hR)
      |fail)
     go_ret2
     exact⟨none,0,none,rfl,Sl.nil _ _ _,aq.o,fun b hb=>by cases hb⟩
    ·rw[J] at hR
     have HG:=V (g.o J)
     clear J D g
     go_upto_block 2 with(first
      |(go_at_call 177;refine hR.mono ?_;rintro e w2 ⟨rfl,u⟩;have fu:=V (L.o.later u);clear u hR L)
      |fail)
     have d2:w2.cell? (Y b (f+k))=some (encStr x):=(fu.o.below.cell (p:=⟨b,f+k,none⟩) M).trans S.o
     clear d0
     go_cut [6] (fun a wx=>∃p q:Nat,p≤m∧a=I p∧Z (∀j (hj:j < acc.length),j < p→acc[j] < x)∧Z (∀hp:p < acc.length,¬acc[p] < x)∧Z (wx=w2.drewN q))
     case first=>
      go_wp2_with fail
      go_loopw [6] (fun a wr=>∃p q:Nat,p≤m∧a=I p∧Z (∀j (hj:j < acc.length),j < p→acc[j] < x)∧Z (wr=w2.drewN q)) (fun a _=>m - (intOf a).toNat)
      case atStart=>exact⟨0,0,OE _,rfl,V (fun j hj h=>by omega),V rfl⟩
      case round=>
       obtain⟨p,q,hp,rfl,HP,HW⟩:=hrel
       have dx:wr.cell? (Y b (f+k))=some (encStr x):=by rw[HW.o];exact d2
       by_cases yw:p < m
       ·have Cj:p < acc.length:=bE
        obtain⟨b1,a2,aa,B,ad,_,G⟩:=(fu.o.sl.reads [] zv).str p Cj
        injection B with hva1 hvx hvy
        subst hva1
        clear hvx hvy
        have e1:wr.cell? (Y b1 (a2+p))=some (encStr acc[p]):=by rw[HW.o];exact G
        have g1:decide (p < m)=true:=OS yw
        clear G
        by_cases hc:acc[p] < x
        ·have f1:Op.bytesLess acc[p] x=true:=by rw[bytesLess_eq];exact OS hc
         exact Me
        ·have f1:Op.bytesLess acc[p] x=false:=by rw[bytesLess_eq];exact OD hc
         exact MI
       ·exact Mz
     case rest=>
      obtain⟨p,q,hp,rfl,HP,qy,HW⟩:=hcut
      obtain⟨wd,rfl⟩:∃wd:Oc,wd=wc:=⟨_,rfl⟩
      have G7:Z (Ug w wd (RO A1 acc.length E) h acc):=V I2
      have am:=BQ x acc p JE HP.o qy.o
      rw[am] at d
      clear am HP qy fu d2 HW
      have dx:wd.cell? (Y b (f+k))=some (encStr x):=(G7.o.below.cell (p:=⟨b,f+k,none⟩) M).trans S.o
      go_upto_region 10 with(fail)
      go_cut [51] (fun t wx=>∃q:Nat,t=.bool (decide (acc[p]?=some x))∧Z (wx=wd.drewN q))
      case first=>
       by_cases yw:p < m
       ·have Cj:p < acc.length:=bE
        obtain⟨b1,a2,aa,B,ad,_,G⟩:=(G7.o.sl.reads [] zv).str p Cj
        injection B with hva1 hvx hvy
        subst hva1
        clear hvx hvy
        have g1:decide (p < m)=true:=OS yw
        have hd:decide (acc[p]?=some x)=(acc[p]==x):=by
         rw[Ot Cj]
         by_cases he:acc[p]=x
         ·simp[he]
         ·simp[he]
        have HD:=V hd
        clear hd
        generalize acc[p]=y at G HD
        go_quiet (fail)
        go_wp2_with fail
        go_meet
        exact⟨_,by rw[HD.o],V rfl⟩
       ·exact MP
      case rest=>
       obtain⟨q2,rfl,HW⟩:=hcut
       obtain⟨we,rfl⟩:∃we:Oc,we=wc:=⟨_,rfl⟩
       have G9:Z (Ug w we (RO A1 acc.length E) h acc):=V I3
       clear G7 dx HW
       by_cases he:acc[p]?=some x
       ·rw[OS he]
        rw[OG he] at d
        have HZ:Z ((l.take (k+1)).all (fun s=>xD s)=true∧Ug w we (RO A1 m E) h (YU (l.take (k+1)))):=V ⟨HG.o,by rw[d.o,←HM.o];exact G9.o⟩
        exact EU
       ·rw[OD he]
        rw[Om he] at d
        clear he
        have K:=G9.o.sl
        rw[HM.o] at K
        have a8:=V K
        clear K
        go_wp2_with (at_builtin;refine yc rfl _ _ 38 rfl underlying38 hi b4 b5 b6 rfl zD a8.o rfl 1 1 rfl rfl ?_ ?_ ?_ ?_)
        ·rfl
        ·unfold maxLen
         omega
        ·omega
        ·intro v2 h2 w3 a6 ag qb
         obtain⟨b2,c,F,av,rfl,_,_,b9,_⟩:=a6.at_ O
         subst av
         have R:=G9.o.below.size
         have u:w.heap.size≤b2:=by
          exact Hk
         have T:Z (Od w w w3):=V (G9.o.below.trans (ag.below R fun k hk=>G9.o.own k yi))
         have ar:Z (∃z,Sl w3 9 1 (RO (some (Y b2 c)) (m+1) F) (some b2) (m+1) ((acc.take m++z :: acc.drop m).map encStr)∧NH [b2] w3 w3):=V ⟨[],by
          rw[Ou YP,List.drop_of_length_le YP,OQ]
          exact a6,NH.refl _ _⟩
         have ae:b≠b2:=O
         clear a6 ag qb a8
         go_wp2_with fail
         go_loopw [7] (fun a wr=>∃r:Nat,p≤r∧r≤m∧a=I r∧Z (∃z,Sl wr 9 1 (RO (some (Y b2 c)) (m+1) F) (some b2) (m+1) ((acc.take r++z :: acc.drop r).map encStr)∧NH [b2] w3 wr)) (fun a _=>(intOf a).toNat)
         case atStart=>exact⟨m,hp,Oq _,zE,ar⟩
         case round=>
          obtain⟨r,bd,a',rfl,HT⟩:=hrel
          obtain⟨z,a7,al⟩:=HT.o
          have Ga:r≤acc.length:=by rw[HM.o];exact a'
          obtain⟨b3,bc,b8,_,B,_,_,ba,hcell⟩:=a7.at_ O
          injection B with hva1 hvx hvy
          injection hva1 with hva1
          injection hva1 with hv1 hv2 _
          subst hv1
          subst hv2
          clear hvx hvy
          have a9:=V a7
          have a3:=V al
          clear a7 al
          by_cases bb:p < r
          ·have ao:0 < r:=O
           have q1:=hcell (r - 1) O
           have q2:=hcell r O
           have e1:wr.cell? (Y b2 (c+(r - 1)))=some (encStr (acc[r - 1]' O)):=by
            rw[q1.1,O5,Q6 acc r ao Ga z]
            rfl
           have e2:wr.cell? (Y b2 (c+r))=some (encStr z):=by
            exact fO
           have e3:=q2.2
           have G8:=Jf acc r ao Ga z
           have HZ:Z (∃z',Sl (wr.setCell (Y b2 (c+r)) (encStr (acc[r - 1]' O))) 9 1 (RO (some (Y b2 c)) (m+1) F) (some b2) (m+1) ((acc.take (r - 1)++z' :: acc.drop (r - 1)).map encStr)∧NH [b2] w3 (wr.setCell (Y b2 (c+r)) (encStr (acc[r - 1]' O)))):=V ⟨acc[r - 1]' O,by
            have h9:=a9.o.store r (encStr (acc[r - 1]' O))
            rw[←List.map_set,G8] at h9
            exact h9,a3.o.set (.inl zv) _⟩
           exact Ml
          ·obtain rfl:p=r:=O
           have q2:=hcell p O
           have e2:wr.cell? (Y b2 (c+p))=some (encStr z):=by
            exact fO
           have e3:=q2.2
           have dx:wr.cell? (Y b (f+k))=some (encStr x):=(a3.o.cell (p:=⟨b,f+k,none⟩) (OJ M T.o.size) (by simpa using ae)).trans ((T.o.cell (p:=⟨b,f+k,none⟩) M).trans S.o)
           have HZ:Z ((l.take (k+1)).all (fun s=>xD s)=true∧Ug w (wr.setCell (Y b2 (c+p)) (encStr x)) (RO (some (Y b2 c)) (m+1) F) (some b2) (YU (l.take (k+1)))):=V ⟨HG.o,by
            rw[d.o]
            have h9:=a9.o.store p (encStr x)
            rw[←List.map_set,Je acc p Ga z x] at h9
            have an:(acc.take p++x :: acc.drop p).length=m+1:=by
             have:=h9.1
             simpa using this
            refine⟨by rw[an];exact h9,fun b hb=>?_,(T.o.trans (a3.o.below T.o.size (by simpa using u))).setCell u _⟩
            injection hb with hb
            omega⟩
           exact EN
   ·have aw:k=n:=O
    subst aw
    have a4:=U.o
    rw[Ou V0] at a4
    have au:=V a4
    clear a4
    go_wp2_with fail
    go_meet
    exact⟨_,au⟩
 case rest=>
  obtain⟨h,U⟩:=hcut
  obtain⟨A1,E,rfl,_,_⟩:=U.o.2.sl.form
  have Q:=HQ.o
  rw[jF,Om (by
   intro ac
   obtain⟨s,hs,b0⟩:=Ps.1 ac
   have:=List.all_eq_true.1 U.o.1 s hs
   simp[this] at b0)] at Q
  have L:=V U.o.2
  clear U HQ
  generalize YU l=acc at L Q
  obtain⟨m,H⟩:∃m,acc.length=m:=⟨_,rfl⟩
  rw[H] at Q
  have HM:=V H
  by_cases ab:16 < m
  ·rw[OG ab] at Q
   injection Q with hq1 hq2
   subst hq1
   subst hq2
   rw[H]
   clear H
   go_wp2_with fail
   go_ret2
   exact⟨none,0,none,rfl,Sl.nil _ _ _,L.o.below,fun b hb=>by cases hb⟩
  ·rw[Om ab] at Q
   injection Q with hq1 hq2
   subst hq1
   subst hq2
   rw[H]
   clear H
   go_wp2_with fail
   go_ret2
   have H:=HM.o
   simp only[H]
   have K:=L.o.sl
   rw[H] at K
   exact⟨_,_,_,rfl,K,L.o.below,L.o.own⟩
end
section
open Go.Shelf Go.RowKit
attribute [local go_sem ↓] Go.wp_at_zero Go.wp_at_succ
structure wV (w:Oc)(g:Nat)(q:zW)(x:Acc)(ks:yF)(vk:Oe)(Sk:Ob Nat):Prop where
 at_:zJ w g q x
 fit:Fit x
 keys:NN w Sk 1 vk ks.length (ks.map encStr)
 nk:ks.length≤1099511627776
 short:dX ks
theorem jG (l:yF):(yz l).1.length≤16:=by
 rw[jF]
 split
 ·simp
 ·split
  ·simp
  ·simp only
   omega
theorem nY (w:Oc)(g:Nat)(q:zW)(x:Acc)(id:Int)(ks:yF)(vk:Oe)(Sk:Ob Nat)(h:wV w g q x ks vk Sk)(hno:∀m,x.zC.find? (fun m=>decide (m.id=id))=some m→(yz ks).2=0→(yz ks).1=m.keys∨x.ends=true) :
  C 63 #[Y g 0,I id,vk] w (Zw w g q (vx x id ks)):=by
 have Q:=h.fit
 have a2:=Q.zA
 have a5:=Q.N3.mod
 have N:=Q.nm
 have tu:=Xk w g q x id h.at_ O
 have HS:=V h.at_
 obtain⟨Ak,ck,ag,_,_⟩:=h.keys.form
 subst ag
 by_cases Gn:id∈Zb x.zC
 case neg=>
  have a7:Z4 id x.zC= -1:=Vg x.zC (fun t ht=>by
   simp only[decide_eq_false_iff_not]
   exact fun e=>Gn pT)
  have b:vx x id ks=(x,6):=by
   unfold vx VN
   exact EH
  rw[b]
  rw[a7] at tu
  obtain⟨lk,E⟩:∃lk,ks.length=lk:=⟨_,rfl⟩
  rw[E]
  clear b a7 Gn h Q a2 a5 N hno E
  go_enter func63,ntmps63
  exact Fm
 rw[←h.at_.same] at Gn
 obtain⟨i,zw,n1,G,n2,n3,K⟩:=YI Gn
 clear n1 n2 n3
 rw[h.at_.same] at G K
 rw[G] at tu
 have ao:¬(i:Int) < 0:=O
 have M:=h.at_.XC
 obtain⟨m,hm⟩:∃m,q.ms[i]=m:=⟨_,rfl⟩
 have Eo:m∈q.ms:=gN
 have a6:m.p∈x.zC:=pU
 have ae:=(Q.mail _ a6).keys
 have a:=VR w (RO Ak ks.length ck) ks.length ks rfl h.nk (h.keys.sub (fun _ _ _ hm=>by cases hm)) h.short
 have k:=hno m.p (by rw[K,hm])
 have b:vx x id ks=(if (yz ks).2≠0 then (x,(yz ks).2) else if (yz ks).1=m.p.keys then (x,0) else (x,11)):=by
  unfold vx VN
  simp only[K,hm]
  by_cases h1:(yz ks).2=0
  ·by_cases h2:(yz ks).1=m.p.keys
   ·simp[h1,h2]
   ·have h3:x.ends=true:=by
     rcases k h1 with h4|h4
     ·exact absurd h4 h2
     ·exact h4
    simp[h1,h2,h3]
  ·simp[h1]
 have S:=jG ks
 have H:=fun W (hb:Od w w W) v hh (L:Sl W 9 1 v hh (yz ks).1.length ((yz ks).1.map encStr))=>dK v m.kv [] [] (yz ks).1 m.p.keys W (L.reads [] zv) ((((h.at_.later hb).parts m Eo).keys).sub (fun _ _ _ hm=>by cases hm)) O O
 have aa:=fun W (hb:Od w w W)=>ZQ W g q x (h.at_.later hb) Q
 have f:∀W,Od w w W→∃b1 o1 c1,W.cell? (Y g 11)=some (RO (some (Y b1 o1)) x.zC.length c1)∧W.cell? (Y b1 (o1+i * 8+4))=some m.kv:=fun W hb=>by
  exact Nt
 obtain⟨kk,ke,R⟩:∃kk ke,yz ks=(kk,ke):=⟨_,_,rfl⟩
 rw[R] at b a k S
 simp only[R] at H
 simp only at b a k S H
 obtain⟨rr,a8⟩:∃rr,vx x id ks=rr:=⟨_,rfl⟩
 rw[a8] at b ⊢
 obtain⟨nm,U⟩:∃nm,x.zC.length=nm:=⟨_,rfl⟩
 rw[U] at M
 simp only[U] at f
 have an:i < nm:=O
 have ap:(i:Int) < (nm:Int):=O
 have am:(0:Int)≤(i:Int):=O
 obtain⟨lk,E⟩:∃lk,ks.length=lk:=⟨_,rfl⟩
 rw[E] at a ⊢
 obtain⟨Am,cm,T,_,_⟩:=((h.at_.parts m Eo).keys).form
 obtain⟨lm,a4⟩:∃lm,m.p.keys.length=lm:=⟨_,rfl⟩
 rw[a4] at T
 simp only[T] at H f
 have HR:=V b
 have z:=V H
 have P:=V aa
 have u:=V f
 have a0:=V k
 obtain⟨ac,F⟩:∃ac,kk.length=ac:=⟨_,rfl⟩
 rw[F] at a
 have n:=V F
 clear a8 b H aa f hno k M U E a4 T R K G Gn h Q a2 a5 N ae S a6 hm Eo F zw
 by_cases he:ke=0
 ·subst he
  have B:=HR.o
  rw[Om zv] at B
  have X:=a0.o rfl
  by_cases L:kk=m.p.keys
  ·rw[OG L] at B
   have y:=V B
   have d:=z.o
   simp only[OS L] at d
   have A:=V d
   clear B HR X d z L
   go_enter func63,ntmps63
   go_wp2_with (first
    |(go_at_call 134;refine tu.mono ?_;rintro e w3 ⟨rfl,rfl⟩;clear tu)
    |(go_at_call 126;refine a.mono ?_;rintro e w4 ⟨A4,c4,h4,rfl,j,c,_⟩;rw[←n.o] at j;have l:=A.o w4 c _ _ j;rw[n.o] at l;obtain⟨b1,o1,c1,al,k4⟩:=u.o w4 c;have s:=V c;clear a j c)
    |(go_at_call 135;refine l.mono ?_;rintro e w5 ⟨rfl,D⟩;have J:=V (zj s.o D);clear D l)
    |fail)
   go_ret
   rw[y.o]
   exact⟨rfl,q,zK.of_below HS.o J.o⟩
  ·rw[Om L] at B
   have a3:x.ends=true:=by
    rcases X with h1|h1
    ·exact absurd h1 L
    ·exact h1
   have r:=P.o
   rw[a3] at r
   simp only[if_true,Bool.not_true] at r
   have a1:=V r
   have y:=V B
   have d:=z.o
   simp only[OD L] at d
   have A:=V d
   clear B HR X d z L r P a3
   go_enter func63,ntmps63
   go_wp2_with (first
    |(go_at_call 134;refine tu.mono ?_;rintro e w3 ⟨rfl,rfl⟩;clear tu)
    |(go_at_call 126;refine a.mono ?_;rintro e w4 ⟨A4,c4,h4,rfl,j,c,_⟩;rw[←n.o] at j;have l:=A.o w4 c _ _ j;rw[n.o] at l;obtain⟨b1,o1,c1,al,k4⟩:=u.o w4 c;have s:=V c;clear a j c)
    |(go_at_call 135;refine l.mono ?_;rintro e w5 ⟨rfl,D⟩;have J:=V (zj s.o D);have a9:=a1.o _ J.o;clear D l)
    |(go_at_call 116;refine a9.mono ?_;rintro e w6 ⟨rfl,ab⟩;have ad:=V ab;clear a9 ab)
    |fail)
   go_ret
   rw[y.o]
   exact⟨rfl,q,(zK.of_below HS.o J.o).trans ad.o⟩
 ·have B:=HR.o
  rw[OG he] at B
  have y:=V B
  have hq:(ke !=0)=true:=Ju
  clear B HR a0 z P he
  go_enter func63,ntmps63
  go_wp2_with (first
   |(go_at_call 134;refine tu.mono ?_;rintro e w3 ⟨rfl,rfl⟩;clear tu)
   |(go_at_call 126;refine a.mono ?_;rintro e w4 ⟨A4,c4,h4,rfl,j,c,_⟩;have s:=V c;clear a j c)
   |fail)
  go_ret
  rw[y.o]
  exact⟨rfl,q,zK.of_below HS.o s.o⟩
theorem Lq (w:Oc)(g:Nat)(q:zW)(x:Acc)(id:Int)(ks:yF)(vk:Oe)(Sk:Ob Nat)(h:wV w g q x ks vk Sk)(hmem:id∈Zb x.zC)(hke:(yz ks).2=0)(hnok:∀m,x.zC.find? (fun m=>decide (m.id=id))=some m→¬(yz ks).1=m.keys)(hen:x.ends=false) :
  C 63 #[Y g 0,I id,vk] w (Zw w g q (vx x id ks)):=by
 have hf:=h.fit
 have e7:=hf.zA
 have ao:=hf.N3.mod
 have d7:=hf.nm
 have X:=Xk w g q x id h.at_ O
 have HS:=V h.at_
 obtain⟨Ak,ck,eb,_,_⟩:=h.keys.form
 subst eb
 rw[←h.at_.same] at hmem
 obtain⟨i,zw,n1,a5,n3,n2,ag⟩:=YI hmem
 clear n1 n3
 rw[h.at_.same] at a5 ag
 rw[a5] at X
 have eo:¬(i:Int) < 0:=O
 have b8:=h.at_.XC
 obtain⟨m,hm⟩:∃m,q.ms[i]=m:=⟨_,rfl⟩
 have Eo:m∈q.ms:=gN
 have Ej:m.p∈x.zC:=pU
 have e9:=(hf.mail _ Ej).keys
 have n:=VR w (RO Ak ks.length ck) ks.length ks rfl h.nk (h.keys.sub (fun _ _ _ hm=>by cases hm)) h.short
 have B:=hnok m.p (by rw[ag,hm])
 obtain⟨l,H⟩:∃l,(if decide (YY∈(yz ks).1)≠decide (YY∈m.p.keys) then m.p.zr.map (·.1) else [])=l:=⟨_,rfl⟩
 have bc:∀f,xz id f x.zC=x.zC.set i (f m.p):=fun f=>by
  have h2:=n2 f
  rw[h.at_.same,hm] at h2
  exact h2
 have E:vx x id ks=({x with zA:=x.zA+1,zg:=zI (x.zA+1) l x.zg,zC:=x.zC.set i {m.p with keys:=(yz ks).1,mod:=x.zA+1},log:=x.log.add (zX (x.zA+1) l++[⟨x.zA+1,2,id,2⟩])},0):=by
  unfold vx VN
  simp only[ag,hm,hke,B,hen,bc,←H,Q0 (hf.mail _ Ej).mem.rising]
  rfl
 have am:=jG ks
 have aa:=fun W (hb:Od w w W) v hh (hs:Sl W 9 1 v hh (yz ks).1.length ((yz ks).1.map encStr))=>dK v m.kv [] [] (yz ks).1 m.p.keys W (hs.reads [] zv) ((((h.at_.later hb).parts m Eo).keys).sub (fun _ _ _ hm=>by cases hm)) O O
 have de:=fun W (hb:Od w w W)=>ZQ W g q x (h.at_.later hb) hf
 have u:∀W,Od w w W→∃b1 o1 c1,W.cell? (Y g 11)=some (RO (some (Y b1 o1)) x.zC.length c1)∧W.cell? (Y b1 (o1+i * 8+4))=some m.kv:=fun W hb=>by
  exact Nt
 obtain⟨z,ke,bz⟩:∃z ke,yz ks=(z,ke):=⟨_,_,rfl⟩
 rw[bz] at E n hke B am H
 simp only[bz] at aa
 simp only at E n hke B am aa H
 obtain⟨rr,db⟩:∃rr,vx x id ks=rr:=⟨_,rfl⟩
 rw[db] at E ⊢
 obtain⟨nm,aq⟩:∃nm,x.zC.length=nm:=⟨_,rfl⟩
 rw[aq] at b8
 simp only[aq] at u
 have El:i < nm:=O
 have ep:(i:Int) < (nm:Int):=O
 have ei:(0:Int)≤(i:Int):=O
 obtain⟨lk,d2⟩:∃lk,ks.length=lk:=⟨_,rfl⟩
 rw[d2] at n ⊢
 obtain⟨Am,cm,an,_,_⟩:=((h.at_.parts m Eo).keys).form
 obtain⟨lm,b'⟩:∃lm,m.p.keys.length=lm:=⟨_,rfl⟩
 rw[b'] at an
 simp only[an] at aa u
 have HR:=V E
 have cw:=V aa
 have co:=V de
 have be:=V u
 have e5:=V H
 have HM:=V hm
 have Gp:=V Eo
 have bi:=V an
 have bh:=V zw
 have HF:=V hf
 have Em:=V aq
 have ek:=V b'
 have dt:=V am
 obtain⟨c,a4⟩:∃c,z.length=c:=⟨_,rfl⟩
 rw[a4] at n
 have A:=V a4
 have ab:=cw.o
 simp only[OD B] at ab
 have cx:=V ab
 have P:=co.o
 rw[hen] at P
 simp only[Px,if_false,Bool.not_false] at P
 have cp:=V P
 subst hke
 clear db E aa de u hnok b8 aq d2 b' an bz ag a5 hmem h hf e7 ao d7 e9 am Ej a4 ab cw P co hen B H bc n2
 go_enter func63,ntmps63
 go_upto_region 12 with(first
  |(go_at_call 134;refine X.mono ?_;rintro e w3 ⟨rfl,rfl⟩;clear X)
  |(go_at_call 126;refine n.mono ?_;rintro e w4 ⟨M,N,h4,rfl,a8,ae,d8⟩;rw[←A.o] at a8;have cb:=cx.o w4 ae _ _ a8;rw[A.o] at cb a8;obtain⟨b1,o1,c1,av,k4⟩:=be.o w4 ae;have ci:=V ae;have dy:=V a8;have dv:=V d8;clear n a8 ae d8)
  |(go_at_call 135;refine cb.mono ?_;rintro e w5 ⟨rfl,br⟩;have cj:=V br;have dc:=cp.o _ (zj ci.o br);clear br cb av k4)
  |(go_at_call 116;refine dc.mono ?_;rintro e w6 ⟨rfl,df⟩;have ct:=V df;clear dc df)
  |fail)
 have U:zK w w6 g q {x with zA:=x.zA+1} q:=(zK.of_below HS.o (zj ci.o cj.o)).trans ct.o
 have bk:∀b,h4=some b→b∉q.own g:=fun b hb hm=>by
  have h1:=dv.o b hb
  have h2:=HS.o.lt b hm
  omega
 have bm:Sl w6 9 1 (RO M c N) h4 c (z.map encStr):=(dy.o.N4 (NH.of_below cj.o []) zv).N4 ct.o.N4 bk
 have zw:=bh.o
 obtain⟨d,r,c2,j,_,_,_,_,a0⟩:=U.at_.ud i JF zw
 have av:w6.cell? (Y g 11)=some (RO (some (Y d r)) nm c2):=by
  have:=U.at_.xj
  rw[j] at this
  rw[←Em.o]
  exact this
 have hm:q.ms[i]=m:=HM.o
 rw[hm] at a0
 have d4:w6.cell? (Y d (r+i * 8+4))=some (RO Am lm cm):=by
  rw[←bi.o]
  exact(a0 4 O).1
 have bu:∀W,W.heap=w6.heap→C 136 #[RO M c N,RP ⟨#[36,115,101,101,110]⟩] W fun e w'=>e=RR (.bool (decide (YY∈z)))∧W=w':=fun W hh=>by
  have h1:=rx (RO M c N) [] z YY W (by
   rw[A.o]
   exact(bm.heap hh).reads [] zv) (by have:=A.o;have:=dt.o;omega)
  exact h1
 have bv:∀W,Od w6 w6 W→C 136 #[RO Am lm cm,RP ⟨#[36,115,101,101,110]⟩] W fun e w'=>e=RR (.bool (decide (YY∈m.p.keys)))∧W=w':=fun W hh=>by
  have hp:=(U.at_.parts m Gp.o).keys
  rw[bi.o] at hp
  have h1:=rx (RO Am lm cm) [] m.p.keys YY W ((hp.sub (fun _ _ _ hm=>by cases hm)).below hh) (by have:=(HF.o.mail m.p bF).keys;omega)
  exact h1
 obtain⟨sa,c7⟩:∃sa,decide (YY∈z)=sa:=⟨_,rfl⟩
 obtain⟨sb,c8⟩:∃sb,decide (YY∈m.p.keys)=sb:=⟨_,rfl⟩
 simp only[c7] at bu
 simp only[c8] at bv
 have dr:=V bu
 have ds:=V bv
 have e1:=V c7
 have e2:=V c8
 have cy:=V j
 have H6:=V U
 have d':=V bm
 have cg:=V bk
 clear bu bv c7 c8 j U bm bk a0 hm
 go_cut [48] (fun v wx=>v=.bool (sa !=sb)∧Z (wx=w6.drew))
 case first=>
  go_region_held3 (fun W=>W.cell? (Y g 11)=some (RO (some (Y d r)) nm c2)∧W.cell? (Y d (r+i * 8+4))=some (RO Am lm cm)) (go_keep) (first
   |(go_at_call 136;(with_reducible refine(dr.o _ ?_).mono ?_);exact rfl;rintro e s ⟨rfl,rfl⟩)
   |(go_at_call 136;(with_reducible refine(ds.o _ ?_).mono ?_);exact zG _;rintro e s ⟨rfl,rfl⟩)
   |fail)
  all_goals
   go_wp2_with fail
   go_meet
   exact⟨rfl,V rfl⟩
 case rest=>
  obtain⟨rfl,HW⟩:=hcut
  obtain⟨s,rfl⟩:∃s:Oc,s=wc:=⟨_,rfl⟩
  have ad:zK w s g q {x with zA:=x.zA+1} q:=by
   rw[HW.o]
   exact H6.o.trans (zK.of_below H6.o.at_ (zG w6))
  have H7:=V ad
  have b9:x.zg.length≤1099511627776:=by
   have h2:=HF.o.nb
   have h3:=HF.o.zA
   have h4:=HF.o.N3.mod
   omega
  have Ej:m.p∈x.zC:=bF
  have ao:=HF.o.mail _ Ej
  have c5:m.p.zr.length≤1099511627776:=by
   exact fP
  have L:=ad.at_.parts m Gp.o
  have a9:∀W v hh,Od s s W→Sl W 3 1 v hh m.p.zr.length ((x9 m.p.zr).map yJ)→(∀b,hh=some b→s.heap.size≤b)→C 133 #[Y g 0,v] W fun e w'=>∃A9 c9 hh,e=RR (RO A9 m.p.zr.length c9)∧Sl w' 159 4 (RO A9 m.p.zr.length c9) hh m.p.zr.length (yR (zX (x.zA+1) (m.p.zr.map (·.1))))∧(∀b,hh=some b→W.heap.size≤b)∧zK W w' g q {x with zA:=x.zA+1,zg:=zI (x.zA+1) (m.p.zr.map (·.1)) x.zg} q:=fun W v hh hb hs ho=>by
   have h1:=UF W g q {x with zA:=x.zA+1} (H7.o.at_.later hb) b9 (m.p.zr.map (·.1)) v (by
    rw[Ow]
    exact hs.reads (q.own g) (fun b hb2 hm=>by
     have h2:=ho b hb2
     have h3:=H7.o.at_.lt b hm
     omega)) (by rw[Ow];exact c5) (fun i hi=>by
    obtain⟨p,hp,rfl⟩:=OL.1 hi
    exact(ao.mem.each p hp).1)
   refine h1.mono ?_
   rintro e w' ⟨v',Cw,rfl,sw,Cv,Cu⟩
   rw[Ow] at sw
   exact fQ
  obtain⟨Av,cv,ap,_,_⟩:=L.mem.form
  have al:=fun m0 th m3 m6 m7 s2 vk=>nX s m0 th m3 m6 m7 s2 vk (RO Av m.p.zr.length cv) m.p.zr (by rw[←ap];exact L.mem.sub (fun _ _ _ hm=>by cases hm)) c5
  have zw:=bh.o
  obtain⟨b3,o3,c3,J,_,_,_,_,a⟩:=ad.at_.ud i JF zw
  have ec:=OM (cy.o.symm.trans J)
  obtain⟨K,_,_⟩:=ec
  simp only[Pk,Addr.mk.injEq,and_true] at K
  obtain⟨rfl,rfl⟩:=K
  have hm:q.ms[i]=m:=HM.o
  rw[hm] at a
  have eg:s.cell? (Y g 11)=some (RO (some (Y d r)) nm c2):=by rw[HW.o];exact av
  have f0:s.cell? (Y d (r+i * 8))=some (I m.p.id):=(a 0 O).1
  have f1:s.cell? (Y d (r+i * 8+1))=some (I m.p.thread):=(a 1 O).1
  have f2:s.cell? (Y d (r+i * 8+2))=some (RP ⟨m.p.text.toArray⟩):=(a 2 O).1
  have f3:s.cell? (Y d (r+i * 8+3))=some (I m.p.at_):=(a 3 O).1
  have f4:s.cell? (Y d (r+i * 8+4))=some (RO Am lm cm):=by rw[HW.o];exact d4
  have f5:s.cell? (Y d (r+i * 8+5))=some (RO Av m.p.zr.length cv):=by rw[←ap];exact(a 5 O).1
  have f6:s.cell? (Y d (r+i * 8+6))=some (I m.p.mod):=(a 6 O).1
  have f7:s.cell? (Y d (r+i * 8+7))=some (I m.p.born):=(a 7 O).1
  have H:l=if sa≠sb then m.p.zr.map (·.1) else []:=by rw[←e5.o,e1.o,e2.o]
  have S:=V H
  have cu:=V a9
  have el:=V ap
  generalize m.p.id=m0 at f0
  generalize m.p.thread=m1 at f1
  generalize m.p.text=m2 at f2
  generalize m.p.at_=m3 at f3
  generalize m.p.mod=m6 at f6
  generalize m.p.born=m7 at f7
  obtain⟨ln,c0⟩:∃ln,m.p.zr.length=ln:=⟨_,rfl⟩
  rw[c0] at f5 al cu
  have du:=V c0
  clear ad b9 Ej ao c5 L a9 ap J a hm H av d4 c0 zw
  obtain⟨sx,ca⟩:∃sx,(sa !=sb)=sx:=⟨_,rfl⟩
  rw[ca]
  have cq:=V ca
  clear ca
  go_upto_if 48 with(fail)
  go_cut [10] (fun v wx=>∃A9 c9 h9,v=RO A9 l.length c9∧Z (Sl wx 159 4 (RO A9 l.length c9) h9 l.length (yR (zX (x.zA+1) l))∧(∀b,h9=some b→s.heap.size≤b)∧zK s wx g q {x with zA:=x.zA+1,zg:=zI (x.zA+1) l x.zg} q))
  case first=>
   cases sx
   ·have hs:sa=sb:=by simpa using cq.o
    have ba:l=[]:=by rw[S.o];simp[hs]
    have HN:=V ba
    clear hs ba
    go_wp2_with fail
    go_meet
    refine⟨none,0,none,by rw[HN.o];rfl,V ⟨?_,(fun b hb=>by cases hb),?_⟩⟩
    ·rw[HN.o]
     exact Sl.nil _ _ _
    ·rw[HN.o]
     exact zK.refl H7.o.at_
   ·have hs:¬sa=sb:=by simpa using cq.o
    have d1:l=m.p.zr.map (·.1):=by rw[S.o,OG hs]
    have HN:=V d1
    clear hs d1
    go_wp2_with (first
     |(go_at_call 137;refine(al _ _ _ _ _ _ _).mono ?_;rintro e w8 ⟨v8,h8,rfl,dd,d9,bs⟩;have Q:=cu.o w8 v8 h8 bs dd d9;have cl:=V bs;clear dd d9 bs al)
     |(go_at_call 133;refine Q.mono ?_;rintro e w9 ⟨A9,c9,h9,rfl,F,D,t⟩;have e0:=V F;have dx:=V D;have bj:=V t;clear F D t Q)
     |fail)
    go_meet
    have d3:l.length=ln:=by rw[HN.o,Ow];exact du.o
    refine⟨A9,c9,h9,by rw[d3],V ⟨?_,fun b hb=>?_,?_⟩⟩
    ·rw[d3,HN.o]
     exact e0.o
    ·have h1:=dx.o b hb
     have h2:=cl.o.size
     omega
    ·rw[HN.o]
     exact(zK.of_below H7.o.at_ cl.o).trans bj.o
  case rest=>
   obtain⟨A9,c9,h9,rfl,H9⟩:=hcut
   obtain⟨w9,rfl⟩:∃w9:Oc,w9=wc:=⟨_,rfl⟩
   obtain⟨F,D,Q⟩:=H9.o
   have t:zK w w9 g q {x with zA:=x.zA+1,zg:=zI (x.zA+1) l x.zg} q:=H7.o.trans Q
   have T:Sl w9 9 1 (RO M c N) h4 c (z.map encStr):=(d'.o.N4 (NH.of_below (by rw[HW.o];exact zG w6) []) zv).N4 Q.N4 cg.o
   have zw:=bh.o
   have bx:i < x.zC.length:=JF
   have hm:q.ms[i]=m:=HM.o
   have c6:=t.at_.parts m Gp.o
   have da:xB w9 (q.own g) ⟨{m.p with keys:=z},RO M c N,m.mv⟩:=by
    refine⟨?_,c6.mem,T.ty,c6.tm⟩
    show NN w9 (q.own g) 1 (RO M c N) z.length (z.map encStr)
    rw[A.o]
    exact T.reads _ cg.o
   have j:=cy.o
   have dk:=t.at_.Ze j i bx zw 4 O (RO M c N) ⟨{m.p with keys:=z},RO M c N,m.mv⟩ (by rw[hm];rfl) da
   have ce:w9.cell? (Y g 11)=some (RO (some (Y d r)) nm c2):=by
    have h1:=t.at_.xj
    rw[j,Em.o] at h1
    exact h1
   obtain⟨b3,o3,c3,J,_,_,_,_,a⟩:=t.at_.ud i bx zw
   obtain⟨K,_,_⟩:=OM (j.symm.trans J)
   simp only[Pk,Addr.mk.injEq,and_true] at K
   obtain⟨rfl,rfl⟩:=K
   rw[hm] at a
   have d4:w9.cell? (Y d (r+i * 8+4))=some (RO Am lm cm):=by
    rw[←bi.o]
    exact(a 4 O).1
   have e4:=(a 4 O).2
   have bj:=V t
   have R:=V dk
   clear a J da c6 T F D Q eg f0 f1 f2 f3 f4 f5 f6 f7 al dk t
   go_upto_region 15 with(fail)
   obtain⟨wa,dj⟩:∃wa:Oc,wa=w9.setCell (Y d (r+i * 8+4)) (RO M c N):=⟨_,rfl⟩
   rw[←dj] at R ⊢
   clear dj d4 e4 ce
   have G:=R.o.at_
   have bw:i < (q.ms.set i ⟨{m.p with keys:=z},RO M c N,m.mv⟩).length:=by rw[Pd];exact zw
   have a3:i < (x.zC.set i {m.p with keys:=z}).length:=by rw[Pd];exact bx
   obtain⟨b3,o3,c3,J,b7,_,_,_,a⟩:=G.ud i a3 bw
   obtain⟨K,_,_⟩:=OM (j.symm.trans J)
   simp only[Pk,Addr.mk.injEq,and_true] at K
   obtain⟨rfl,rfl⟩:=K
   simp only[Ph] at a
   have d6:wa.cell? (Y d (r+i * 8+6))=some (I m.p.mod):=(a 6 O).1
   have e6:=(a 6 O).2
   have ce:wa.cell? (Y g 11)=some (RO (some (Y d r)) nm c2):=by
    have h1:=G.xj
    rw[show ({q with ms:=q.ms.set i ⟨{m.p with keys:=z},RO M c N,m.mv⟩}:zW).vm=q.vm from rfl,j,Em.o] at h1
    exact h1
   have l9:wa.cell? (Y g 9)=some (I (x.zA+1)):=G.vF
   have d5:(⟨{m.p with keys:=z},RO M c N,m.mv⟩:xd)∈q.ms.set i ⟨{m.p with keys:=z},RO M c N,m.mv⟩:=List.mem_set zw _
   have a6:=(G.later (zG wa)).parts _ d5
   have dl:=(G.later (zG wa)).Ze j i a3 bw 6 O (I (x.zA+1)) ⟨{m.p with keys:=z,mod:=x.zA+1},RO M c N,m.mv⟩ gM ⟨a6.keys,a6.mem,a6.tk,a6.tm⟩
   have cf:=(R.o.trans (zK.of_below G (zG wa))).trans dl
   simp only[List.set_set] at cf
   have b0:=V cf
   obtain⟨ck,bt⟩:∃ck,x.zA+1=ck:=⟨_,rfl⟩
   have dq:=V bt
   rw[bt] at l9
   have en:d≠g:=fun e=>G.apart.hm (by rw[b7,e])
   clear G a J d5 a6 dl cf bt bw a3 b7
   go_cut [] (fun wx=>Z (wx=wa.drew.setCell (Y d (r+i * 8+6)) (I ck)))
   case first=>
    go_region_held3 (fun W=>W.cell? (Y g 11)=some (RO (some (Y d r)) nm c2)∧W.cell? (Y g 9)=some (I ck)) (go_keep) (fail)
    all_goals
     go_wp2_with fail
     go_meet
     exact V rfl
   case rest=>
    obtain⟨wb,rfl⟩:∃wb:Oc,wb=wc:=⟨_,rfl⟩
    have cd:=hcut.o
    rw[←dq.o] at cd
    rw[←cd] at b0
    clear cd hcut l9 ce d6 e6
    obtain⟨j0,hj,ed,ee,ef⟩:=info_parts Try.infoEntry
    obtain⟨F,D,_⟩:=H9.o
    have bl:∀b,h9=some b→b∉q.own g:=fun b hb hm=>by
     have h1:=D b hb
     have h2:=H7.o.at_.lt b hm
     omega
    have d0:∀b,h9=some b→w.heap.size≤b:=fun b hb=>Ol H7.o.N4.size (D b hb)
    obtain⟨x3,au⟩:∃x3:Acc,x3={x with zA:=x.zA+1,zg:=zI (x.zA+1) l x.zg,zC:=x.zC.set i {m.p with keys:=z,mod:=x.zA+1}}:=⟨_,rfl⟩
    have ea:∃q3,zK w9 wb g q x3 q3:=⟨_,by rw[au];exact b0.o⟩
    obtain⟨q3,ar⟩:=ea
    have bo:Sl wb 159 4 (RO A9 l.length c9) h9 l.length (yR (zX (x.zA+1) l)):=F.N4 ar.N4 bl
    have c':∀b,h9=some b→b∉q3.own g:=fun b hb hm=>by
     rcases ar.own b hm with h1|h1
     ·exact bl b hb h1
     ·have:=F.lt b hb
      omega
    have bp:zK w wb g q x3 q3:=bj.o.trans ar
    have Ej:m.p∈x.zC:=bF
    have dg:l.length≤4294967296:=by
     rw[S.o]
     split
     ·rw[Ow]
      exact fP
     ·simp
    have a2:=Zm wb g q3 x3 2 id 2 bp.at_
    rw[show x3.zA=x.zA+1 by rw[au]] at a2
    obtain⟨tl,cc⟩:∃tl,l.length=tl:=⟨_,rfl⟩
    rw[cc] at bo dg ⊢
    have a':=V bo
    have ch:=V c'
    have dp:=V d0
    have ac:=V bp
    have cz:=V au
    have e3:=V cc
    clear bo c' d0 bp au cc bl F D ar Ej hm
    go_wp2_with (first
     |(go_at_call 118;refine a2.mono ?_;rintro e es ⟨rfl,a1⟩;have cn:=V (a'.o.N4 (NH.of_below a1 []) zv);have az:=V a1;clear a2 a1)
     |(at_builtin;refine yc rfl _ _ 156 rfl underlying156 hj ed ee ef rfl zD cn.o rfl 1 1 rfl rfl ?_ ?_ ?_ ?_)
     |fail)
    ·simp[Value.oneCell']
    ·unfold maxLen
     omega
    ·omega
    ·intro v2 h2 aw a7 b6 bb
     obtain⟨ej,em,rfl,_,_⟩:=a7.form
     have hc:NH h9.toList wb aw:=(NH.of_below az.o _).trans b6 (fun i hi=>.inl hi)
     have y:zJ aw g q3 x3:=zJ.chgE ac.o.at_ a'.o ch.o hc
     have b4:zK w aw g q x3 q3:=⟨y,ac.o.N4.trans hc (fun k hk=>.inr (dp.o k yi)),ac.o.own⟩
     have En:x3.log=x.log:=by rw[cz.o]
     have bq:=HF.o.log
     have e8:=HF.o.N3.log
     have b5:=XZ (e:=zX (x.zA+1) l++[⟨x.zA+1,2,id,2⟩]) y JH JH (by rw[En];omega) (by rw[vB];exact a7) (by
      rw[Oo,xP,e3.o]
      rfl) O (fun b hb hm=>by
      rcases bb with h1|⟨d,h1,h2⟩
      ·exact ch.o b X8 hm
      ·rw[h1] at hb
       injection hb with hb
       have h3:=ac.o.at_.lt b hm
       have h4:=az.o.size
       omega)
     have er:aw.cell? (Y g 12)=some (RQ (some (Y q3.gl 0))):=y.xp
     have cr:=V b4
     clear y b4 En bq e8 hc a7 b6 bb
     go_wp2_with (first
      |(go_at_call 117;refine b5.mono ?_;rintro e et ⟨rfl,eh,_,bd⟩;have cs:=V bd;clear bd b5)
      |fail)
     go_ret
     rw[HR.o]
     have h1:=cr.o.trans cs.o
     rw[cz.o] at h1
     exact⟨rfl,eh,h1⟩
end
section
open Go.Shelf Go.RowKit
theorem kR (w:Oc)(g:Nat)(q:zW)(x:Acc)(id:Int)(ks:yF)(vk:Oe)(Sk:Ob Nat)(h:wV w g q x ks vk Sk) :
  C 63 #[Y g 0,I id,vk] w (Zw w g q (vx x id ks)):=by
 by_cases a:∀m,x.zC.find? (fun m=>decide (m.id=id))=some m→(yz ks).2=0→(yz ks).1=m.keys∨x.ends=true
 ·exact nY w g q x id ks vk Sk h a
 ·simp only[Classical.not_forall] at a
  obtain⟨m,b,f,i⟩:=a
  obtain⟨c,d⟩:=not_or.1 i
  refine Lq w g q x id ks vk Sk h ?_ f (fun m' h'=>?_) (by simpa using d)
  ·have h1:=List.find?_some b
   have e:m.id=id:=xv
   rw[←e]
   exact OV (O2 b)
  ·rw[b] at h'
   injection h' with h'
   rw[←h']
   exact c
end
end Go.Proofs.YtnofkliaofgiaaaGreatDoor
