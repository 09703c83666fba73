/-
  The walk of the reference's RightKey. Keywords in plain words: what a sort made compact is. Keywords put in one by one: what a sort made compact is, once more. The walk of the reference's Keys: texts put in one by one. The walk of the reference's Keys: the ways that change nothing. The walk of the reference's Keys: the way that changes an email. The reference's Keys, whole.
-/
import Derived.Test.YtfhlhdmhgheonaaGreatDoorGZ
import Derived.Test.YtfhlhdmhgheonaaGreatDoorGB
import Derived.Test.YtfhlhdmhgheonaaGreatDoorGD
import Derived.Test.YtfhlhdmhgheonaaGreatDoorGRQ
import Derived.Test.YtfhlhdmhgheonaaGreatDoorGRD
set_option maxRecDepth 100000
set_option maxHeartbeats 8000000
namespace Go.Proofs.YtfhlhdmhgheonaaGreatDoor
open Go.RowKit Go.Sort
attribute [local go_sem ↓] Go.wp_at_zero Go.wp_at_succ
theorem JH (s:ByteArray)(w:World)(hs:s.size≤140737488351232) :
  Calls Tryz.prog 183 #[.string s] w fun e w'=>e=.returned (.bool (yM s.data.toList))∧Below w.heap.size w w':=by
 obtain⟨b,f⟩:∃b,yM s.data.toList=b:=⟨_,rfl⟩
 rw[f]
 have c:=zdG f
 clear f
 obtain⟨a,g⟩:∃a,Zn s.data.toList=a:=⟨_,rfl⟩
 have d:=VL s
 rw[g] at d
 have h:=zdG g
 clear g
 go_enter Tryz.func183,Tryz.ntmps183
 cases a
 ·go_wp2_with (first|(go_at_call 43;refine(d _ hs).mono ?_;rintro e w' ⟨rfl,rfl⟩)|(go_at_call 177;refine(Y2 _ _ hs).mono ?_;rintro e w' ⟨rfl,f⟩))
  go_ret
  exact⟨zH (by rw[←c.out,yM,h.out];rfl),Below.refl _ _⟩
 ·go_wp2_with (first|(go_at_call 43;refine(d _ hs).mono ?_;rintro e w' ⟨rfl,rfl⟩)|(go_at_call 177;refine(Y2 _ _ hs).mono ?_;rintro e w' ⟨rfl,f⟩))
  ·go_ret
   refine⟨zH ?_,f⟩
   rw[←c.out,yM,h.out,VJ,decide_eq_true (by rw[V4];omega)]
   rfl
  ·go_ret
   refine⟨zH ?_,Below.refl _ _⟩
   rw[←c.out,yM,decide_eq_false (by rw[V4];omega)]
   simp
end Go.Proofs.YtfhlhdmhgheonaaGreatDoor
namespace Go.Proofs.YtfhlhdmhgheonaaGreatDoor
open Go.RowKit Go.Sort
theorem QD (l:zN):(Zj l).Pairwise (·≤·):=by
 have:=List.pairwise_mergeSort (le:=fun x y:List UInt8=>decide (x≤y)) (by intro a b c;simp;exact List.le_trans) (by intro a b;simp;exact List.le_total a b) l
 unfold Zj
 simpa using this
theorem zcu (l:zN)(x:List UInt8):x∈Zj l↔x∈l:=by simp[Zj]
theorem sorted_at {d:zN}(h:d.Pairwise (·≤·))(i j:Nat)(hij:i≤j)(hj:j < d.length):d.toArray[i]!≤d.toArray[j]!:=by
 rw[getElem!_pos _ i (by simp;omega),getElem!_pos _ j (by simpa using hj)]
 simp only[List.getElem_toArray]
 rcases Nat.lt_or_ge i j with h1|h1
 ·exact List.pairwise_iff_getElem.1 h i j (by omega) hj h1
 ·obtain rfl:i=j:=by omega
  exact List.le_refl _
theorem YC {d:zN}(h:d.Pairwise (·≤·)):∀m,m≤d.length→(Lib.compactUpTo d.toArray m).Pairwise (· < ·)∧∀x,x∈Lib.compactUpTo d.toArray m↔∃j,j < m∧d.toArray[j]! =x
 |0,_=>by simp[Lib.compactUpTo]
 |m+1,hm=>by
  obtain⟨h1,h2⟩:=YC h m (by omega)
  rw[Lib.compactUpTo_succ]
  by_cases hk:Lib.keeps d.toArray m=true
  ·rw[if_pos hk]
   refine⟨?_,fun x=>?_⟩
   ·rw[List.pairwise_append]
    refine⟨h1,by simp,fun a ha b hb=>?_⟩
    simp only[List.mem_singleton] at hb
    subst hb
    obtain⟨j,hj,rfl⟩:=(h2 a).1 ha
    have hne:d.toArray[m]!≠d.toArray[m - 1]!:=by
     simp only[Lib.keeps,decide_eq_true_eq] at hk
     rcases hk with hk|hk
     ·omega
     ·exact hk
    exact Std.lt_of_le_of_lt (sorted_at h j (m - 1) (by omega) (by omega)) (Std.lt_of_le_of_ne (sorted_at h (m - 1) m (by omega) (by omega)) (fun e=>hne e.symm))
   ·rw[List.mem_append,h2,List.mem_singleton]
    constructor
    ·rintro(⟨j,hj,c⟩|c)
     ·exact⟨j,by omega,c⟩
     ·exact⟨m,by omega,c.symm⟩
    ·rintro⟨j,hj,c⟩
     by_cases f:j=m
     ·subst f
      exact .inr c.symm
     ·exact .inl ⟨j,by omega,c⟩
  ·rw[if_neg hk,List.append_nil]
   refine⟨h1,fun x=>?_⟩
   rw[h2]
   have g:¬(m=0∨d.toArray[m]!≠d.toArray[m - 1]!):=by simpa[Lib.keeps] using hk
   constructor
   ·rintro⟨j,hj,c⟩
    exact⟨j,by omega,c⟩
   ·rintro⟨j,hj,c⟩
    by_cases f:j=m
    ·subst f
     refine⟨j - 1,by omega,?_⟩
     rw[←c]
     refine Decidable.byContradiction fun hne=>g (.inr fun e=>hne e.symm)
    ·exact⟨j,by omega,c⟩
theorem keysL_ok (l:zN):(Lib.compact (Zj l)).Pairwise (· < ·)∧∀x,x∈Lib.compact (Zj l)↔x∈l:=by
 obtain⟨b,c⟩:=YC (QD l) (Zj l).length (Nat.le_refl _)
 refine⟨b,fun x=>?_⟩
 unfold Lib.compact
 rw[c,←zcu l x]
 constructor
 ·rintro⟨j,a,rfl⟩
  rw[getElem!_pos _ j (by simpa using a)]
  simp
 ·intro d
  obtain⟨j,a,e⟩:=List.getElem_of_mem d
  exact⟨j,a,by rw[getElem!_pos _ j (by simpa using a)];simpa using e⟩
theorem Vf:∀(a b:zN),a.Pairwise (· < ·)→b.Pairwise (· < ·)→(∀x,x∈a↔x∈b)→a=b
 |[],[],_,_,_=>rfl
 |[],y :: b,_,_,h=>by have:=(h y).2 (by simp);simp at this
 |x :: a,[],_,_,h=>by have:=(h x).1 (by simp);simp at this
 |x :: a,y :: b,ha,hb,h=>by
  rw[List.pairwise_cons] at ha hb
  have hxy:x=y:=by
   rcases List.mem_cons.1 ((h x).1 (by simp)) with e|e
   ·exact e
   ·rcases List.mem_cons.1 ((h y).2 (by simp)) with e2|e2
    ·exact e2.symm
    ·exact absurd (Std.lt_trans (ha.1 y e2) (hb.1 x e)) (Std.lt_irrefl)
  subst hxy
  rw[Vf a b ha.2 hb.2 fun z=>?_]
  constructor
  ·intro c
   rcases List.mem_cons.1 ((h z).1 (List.mem_cons_of_mem _ c)) with e|e
   ·subst e
    exact absurd (ha.1 z c) Std.lt_irrefl
   ·exact e
  ·intro c
   rcases List.mem_cons.1 ((h z).2 (List.mem_cons_of_mem _ c)) with e|e
   ·subst e
    exact absurd (hb.1 z c) Std.lt_irrefl
   ·exact e
def QG (x:List UInt8):zN→zN
 |[]=>[x]
 |y :: r=>if y < x then y :: QG x r else if y=x then y :: r else x :: y :: r
def Zz (l:zN):zN:=l.foldl (fun acc x=>QG x acc) []
theorem U4 (x:List UInt8):∀(l:zN) (z:List UInt8),z∈QG x l↔z=x∨z∈l
 |[],z=>by simp[QG]
 |y :: r,z=>by
  rw[QG]
  split
  ·rw[List.mem_cons,U4 x r z,List.mem_cons]
   constructor
   ·rintro(h|h|h)
    ·exact .inr (.inl h)
    ·exact .inl h
    ·exact .inr (.inr h)
   ·rintro(h|h|h)
    ·exact .inr (.inl h)
    ·exact .inl h
    ·exact .inr (.inr h)
  ·split
   ·rename_i h
    subst h
    simp
   ·simp
theorem zdd (x:List UInt8):∀(l:zN),l.Pairwise (· < ·)→(QG x l).Pairwise (· < ·)
 |[],_=>by simp[QG]
 |y :: r,h=>by
  rw[List.pairwise_cons] at h
  rw[QG]
  split
  ·rename_i hy
   rw[List.pairwise_cons]
   refine⟨fun z hz=>?_,zdd x r h.2⟩
   rcases(U4 x r z).1 hz with e|e
   ·subst e
    exact hy
   ·exact h.1 z e
  ·rename_i hy
   split
   ·rw[List.pairwise_cons]
    exact h
   ·rename_i hne
    have hxy:x < y:=by
     rcases List.le_total x y with h1|h1
     ·exact Std.lt_of_le_of_ne h1 (fun e=>hne e.symm)
     ·exact absurd (Std.lt_of_le_of_ne h1 hne) hy
    rw[List.pairwise_cons]
    refine⟨fun z hz=>?_,by rw[List.pairwise_cons];exact h⟩
    rcases List.mem_cons.1 hz with e|e
    ·subst e
     exact hxy
    ·exact Std.lt_trans hxy (h.1 z e)
theorem UG:∀(l acc:zN),acc.Pairwise (· < ·)→(l.foldl (fun acc x=>QG x acc) acc).Pairwise (· < ·)∧∀z,z∈l.foldl (fun acc x=>QG x acc) acc↔z∈l∨z∈acc
 |[],acc,h=>by simp[h]
 |x :: l,acc,h=>by
  obtain⟨h1,h2⟩:=UG l (QG x acc) (zdd x acc h)
  refine⟨h1,fun z=>?_⟩
  rw[List.foldl_cons,h2,U4,List.mem_cons]
  constructor
  ·rintro(h|h|h)
   ·exact .inl (.inr h)
   ·exact .inl (.inl h)
   ·exact .inr h
  ·rintro((h|h)|h)
   ·exact .inr (.inl h)
   ·exact .inl h
   ·exact .inr (.inr h)
theorem Jy (l:zN):Lib.compact (Zj l)=Zz l:=by
 obtain⟨a,b⟩:=UG l [] (by simp)
 obtain⟨c,d⟩:=keysL_ok l
 refine Vf _ _ c a fun x=>?_
 rw[d]
 exact((b x).trans (by simp)).symm
theorem Qm (l:zN):zG l=if l.any (fun s=>!yM s)=true then ([],1) else if 16 < (Zz l).length then ([],13) else (Zz l,0):=by
 unfold zG
 rw[Jy]
end Go.Proofs.YtfhlhdmhgheonaaGreatDoor
namespace Go.Proofs.YtfhlhdmhgheonaaGreatDoor
open Go.RowKit Go.Sort
attribute [local go_sem ↓] Go.wp_at_zero Go.wp_at_succ
section
variable {α:Type}
theorem zdo (acc:List α)(k:Nat)(hk:0 < k)(hkl:k≤acc.length)(z:α):(acc.take k++z :: acc.drop k)[k - 1]?=some (acc[k - 1]'(by omega)):=by
 rw[List.getElem?_append_left (by rw[List.length_take];omega),List.getElem?_take,if_pos (by omega),List.getElem?_eq_getElem (by omega)]
theorem zby (acc:List α)(k:Nat)(hk:0 < k)(hkl:k≤acc.length)(z:α) :
  (acc.take k++z :: acc.drop k).set k (acc[k - 1]'(by omega))=acc.take (k - 1)++(acc[k - 1]'(by omega)) :: acc.drop (k - 1):=by
 have a:(acc.take k).length=k:=by rw[List.length_take];omega
 rw[List.set_append_right _ _ (by omega),a,Nat.sub_self,List.set_cons_zero]
 obtain⟨j,rfl⟩:∃j,k=j+1:=⟨k - 1,by omega⟩
 simp only[Nat.add_sub_cancel]
 rw[List.take_succ_eq_append_getElem (by omega),List.append_assoc,List.drop_eq_getElem_cons (show j < acc.length by omega)]
 rfl
theorem zcd (acc:List α)(k:Nat)(hkl:k≤acc.length)(z x:α):(acc.take k++z :: acc.drop k).set k x=acc.take k++x :: acc.drop k:=by
 have a:(acc.take k).length=k:=by rw[List.length_take];omega
 rw[List.set_append_right _ _ (by omega),a,Nat.sub_self,List.set_cons_zero]
end
theorem zdz (x:List UInt8):∀(acc:zN) (p:Nat),p≤acc.length→(∀j (hj:j < acc.length),j < p→acc[j] < x)→(∀hp:p < acc.length,¬acc[p] < x)→
  QG x acc=if acc[p]?=some x then acc else acc.take p++x :: acc.drop p
 |[],p,h,_,_=>by
  have:p=0:=by simpa using h
  subst this
  simp[QG]
 |y :: r,0,_,_,h=>by
  have b:=h (by simp)
  simp only[List.getElem_cons_zero] at b
  rw[QG,if_neg b]
  by_cases a:y=x
  ·rw[if_pos a]
   simp[a]
  ·rw[if_neg a]
   simp[a]
 |y :: r,p+1,hp,hlt,h=>by
  have c:=hlt 0 (by simp) (by omega)
  simp only[List.getElem_cons_zero] at c
  rw[QG,if_pos c,zdz x r p (by simpa using hp) (fun j hj hjp=>by have:=hlt (j+1) (by simp;omega) (by omega);simpa using this) (fun hpl=>by have:=h (by simp;omega);simpa using this)]
  simp only[List.getElem?_cons_succ]
  split
  ·rfl
  ·simp
structure Y9 (w wr:World)(v:Value)(h:Option Nat)(acc:zN):Prop where
 sl:Sl wr 9 1 v h acc.length (acc.map encStr)
 own:∀b,h=some b→w.heap.size≤b
 below:Below w.heap.size w wr
theorem Y9.later {w wr w':World}{v:Value}{h:Option Nat}{acc:zN}(q:Y9 w wr v h acc)(hb:Below wr.heap.size wr w'):Y9 w w' v h acc:=
 ⟨q.sl.chg (Chg.of_below hb []) (by simp),q.own,V8 q.below hb⟩
theorem zaa (l:zN)(k:Nat)(hk:k < l.length):Zz (l.take (k+1))=QG l[k] (Zz (l.take k)):=by
 unfold Zz
 rw[List.take_succ_eq_append_getElem hk,List.foldl_append]
 rfl
theorem YM (w:World)(v:Value)(n:Nat)(l:zN)(hn:l.length=n)(hnb:n≤1099511627776)(hr:RdS w [] 1 v n (l.map encStr))(hs:Short l) :
  Calls Tryz.prog 118 #[v] w fun e w'=>∃A cap hh,e=.returned (.tuple #[.slice A (zG l).1.length cap,.int .i64 (zG l).2])∧Sl w' 9 1 (.slice A (zG l).1.length cap) hh (zG l).1.length ((zG l).1.map encStr)∧Below w.heap.size w w'∧∀b,hh=some b→w.heap.size≤b:=by
 obtain⟨i0,hi,b5,b6,b7⟩:=info_parts Try.infoString
 obtain⟨A,cap,rfl,_,_⟩:=hr.form
 obtain⟨ks,er,Y⟩:∃ks er,zG l=(ks,er):=⟨_,_,rfl⟩
 rw[Y]
 have HQ:=zdG Y
 have HR:=zdG hr
 have HN:=zdG hn
 have HS:=zdG hs
 clear Y hr hn hs
 go_enter Tryz.func118,Tryz.ntmps118
 go_upto_block 0 with(fail)
 go_cut [4] (fun o wx=>∃h,Hid (l.all (fun s=>yM s)=true∧Y9 w wx o h (Zz l)))
 case first=>
  go_wp2_with fail
  go_loopw [4,5] (fun o i wr=>∃(k:Nat) (h:Option Nat),k≤n∧i=.int .i64 k∧Hid ((l.take k).all (fun s=>yM s)=true∧Y9 w wr o h (Zz (l.take k)))) (fun _ i _=>n - (intOf i).toNat)
  case atStart=>exact⟨0,none,Nat.zero_le _,rfl,zdG ⟨by simp,Sl.nil _ _ _,(fun b hb=>by cases hb),Below.refl _ _⟩⟩
  case round=>
   obtain⟨k,h,hk,rfl,HU⟩:=hrel
   by_cases b0:k < n
   ·have T:k < l.length:=by rw[HN.out];exact b0
    have a4:=HU.out.1
    have a5:=zaa l k T
    have a6:(Zz (l.take k)).length≤1099511627776:=by
     rw[←Jy]
     have:=Lib.compact_length_le (Zj (l.take k))
     rw[Yk,List.length_take] at this
     omega
    have a7:yM l[k]=false→([],1)=(ks,er):=fun h=>by
     rw[←HQ.out]
     unfold zG
     rw[if_pos (List.any_eq_true.2 ⟨l[k],List.getElem_mem T,by simp[h]⟩)]
    have U:yM l[k]=true→(l.take (k+1)).all (fun s=>yM s)=true:=fun h=>by
     rw[List.take_succ_eq_append_getElem T,List.all_append,a4]
     simp[h]
    obtain⟨b,B,bc,F,Z,_,ab⟩:=HR.out.str k T
    injection F with hva1 _ hva3
    subst hva1
    subst hva3
    have V:=HS.out l[k] (List.getElem_mem T)
    have R:=zdG HU.out.2
    have d0:wr.cell? ⟨b,B+k,none⟩=some (encStr l[k]):=(R.out.below.cell (p:=⟨b,B+k,none⟩) Z).trans ab
    have a0:=zdG ab
    have f:=zdG a5
    have G:=zdG a7
    have D:=zdG U
    clear a4 a5 a7 U ab HU
    generalize l[k]=x at d0 a0 f G D V
    generalize Zz (l.take k)=acc at R f a6
    have hR:=JH ⟨x.toArray⟩ wr (by show x.toArray.size≤_;simpa using V)
    simp only at hR
    obtain⟨m,H⟩:∃m,acc.length=m:=⟨_,rfl⟩
    have S:=zdG H
    rw[H] at a6
    obtain⟨A1,I,rfl,_,_⟩:=R.out.sl.form
    rw[H]
    clear H V
    cases Q:yM x
    ·rw[Q] at hR
     have av:=G.out Q
     injection av with hp1 hp2
     subst hp1
     subst hp2
     clear Q G D HQ
     have aw:=zdG R.out.below
     go_wp2_with (first
      |(go_at_call 183;refine hR.mono ?_;rintro e w2 ⟨rfl,E⟩;have ax:=zdG (V8 aw.out E);clear E hR)
      |fail)
     go_ret2
     exact⟨none,0,none,rfl,Sl.nil _ _ _,ax.out,fun b hb=>by cases hb⟩
    ·rw[Q] at hR
     have HG:=zdG (D.out Q)
     clear Q G D
     go_upto_block 2 with(first
      |(go_at_call 183;refine hR.mono ?_;rintro e w2 ⟨rfl,E⟩;have a1:=zdG (R.out.later E);clear E hR R)
      |fail)
     have d2:w2.cell? ⟨b,B+k,none⟩=some (encStr x):=(a1.out.below.cell (p:=⟨b,B+k,none⟩) Z).trans a0.out
     clear d0
     go_cut [6] (fun a wx=>∃p q:Nat,p≤m∧a=.int .i64 p∧Hid (∀j (hj:j < acc.length),j < p→acc[j] < x)∧Hid (∀hp:p < acc.length,¬acc[p] < x)∧Hid (wx=w2.drewN q))
     case first=>
      go_wp2_with fail
      go_loopw [6] (fun a wr=>∃p q:Nat,p≤m∧a=.int .i64 p∧Hid (∀j (hj:j < acc.length),j < p→acc[j] < x)∧Hid (wr=w2.drewN q)) (fun a _=>m - (intOf a).toNat)
      case atStart=>exact⟨0,0,Nat.zero_le _,rfl,zdG (fun j hj h=>by omega),zdG rfl⟩
      case round=>
       obtain⟨p,q,hp,rfl,HP,HW⟩:=hrel
       have dx:wr.cell? ⟨b,B+k,none⟩=some (encStr x):=by rw[HW.out];exact d2
       by_cases d:p < m
       ·have L:p < acc.length:=by rw[S.out];exact d
        obtain⟨b1,a8,an,F,ao,_,J⟩:=(a1.out.sl.reads [] (by simp)).str p L
        injection F with hva1 hvx hvy
        subst hva1
        clear hvx hvy
        have e1:wr.cell? ⟨b1,a8+p,none⟩=some (encStr acc[p]):=by rw[HW.out];exact J
        have g1:decide (p < m)=true:=decide_eq_true d
        clear J
        by_cases hc:acc[p] < x
        ·have f1:Op.bytesLess acc[p] x=true:=by rw[bytesLess_eq];exact decide_eq_true hc
         have ae:Hid (∀j (hj:j < acc.length),j < p+1→acc[j] < x):=zdG fun j hj hj2=>by
          by_cases b4:j=p
          ·subst b4
           exact hc
          ·exact HP.out j hj (by omega)
         generalize acc[p]=y at e1 f1
         clear hc
         go_wp2_with fail
         go_quiet (fail)
         go_wp2_with fail
         have M:Hid (wr.drewN nq=w2.drewN (q+nq)):=zdG (by rw[HW.out,World.drewN_drewN])
         refine⟨?_,by simp[intOf];omega⟩
         first|exact⟨p+1,_,by omega,by go_num,ae,M⟩|((repeat apply Exists.intro);exact⟨⟨p+1,_,by omega,by go_num,ae,M⟩,rfl⟩)
        ·have f1:Op.bytesLess acc[p] x=false:=by rw[bytesLess_eq];exact decide_eq_false hc
         have N:Hid (∀hp:p < acc.length,¬acc[p] < x):=zdG fun _=>hc
         generalize acc[p]=y at e1 f1
         clear hc
         go_wp2_with fail
         go_quiet (fail)
         go_wp2_with fail
         have M:Hid (wr.drewN nq=w2.drewN (q+nq)):=zdG (by rw[HW.out,World.drewN_drewN])
         go_meet
         exact⟨p,_,hp,rfl,HP,N,M⟩
       ·have g1:decide (p < m)=false:=decide_eq_false d
        have N:Hid (∀hp:p < acc.length,¬acc[p] < x):=zdG fun L=>absurd L (by rw[S.out];exact d)
        go_wp2_with fail
        go_quiet (fail)
        go_wp2_with fail
        have M:Hid (wr.drewN nq=w2.drewN (q+nq)):=zdG (by rw[HW.out,World.drewN_drewN])
        go_meet
        exact⟨p,_,hp,rfl,HP,N,M⟩
     case rest=>
      obtain⟨p,q,hp,rfl,HP,N,HW⟩:=hcut
      obtain⟨wd,rfl⟩:∃wd:World,wd=wc:=⟨_,rfl⟩
      have a2:Hid (Y9 w wd (.slice A1 acc.length I) h acc):=zdG (by rw[HW.out];exact a1.out.later (below_drewN' (Below.refl _ _) q))
      have af:=zdz x acc p (by rw[S.out];exact hp) HP.out N.out
      rw[af] at f
      clear af HP N a1 d2 HW
      have dx:wd.cell? ⟨b,B+k,none⟩=some (encStr x):=(a2.out.below.cell (p:=⟨b,B+k,none⟩) Z).trans a0.out
      go_upto_region 10 with(fail)
      go_cut [51] (fun t wx=>∃q:Nat,t=.bool (decide (acc[p]?=some x))∧Hid (wx=wd.drewN q))
      case first=>
       by_cases d:p < m
       ·have L:p < acc.length:=by rw[S.out];exact d
        obtain⟨b1,a8,an,F,ao,_,J⟩:=(a2.out.sl.reads [] (by simp)).str p L
        injection F with hva1 hvx hvy
        subst hva1
        clear hvx hvy
        have g1:decide (p < m)=true:=decide_eq_true d
        have hd:decide (acc[p]?=some x)=(acc[p]==x):=by
         rw[List.getElem?_eq_getElem L]
         by_cases he:acc[p]=x
         ·simp[he]
         ·simp[he]
        have HD:=zdG hd
        clear hd
        generalize acc[p]=y at J HD
        go_quiet (fail)
        go_wp2_with fail
        go_meet
        exact⟨_,by rw[HD.out],zdG rfl⟩
       ·have g1:decide (p < m)=false:=decide_eq_false d
        have hd:decide (acc[p]?=some x)=false:=by
         rw[List.getElem?_eq_none (by rw[S.out];omega)]
         rfl
        have HD:=zdG hd
        clear hd
        go_quiet (fail)
        go_wp2_with fail
        go_meet
        exact⟨_,by rw[HD.out],zdG rfl⟩
      case rest=>
       obtain⟨q2,rfl,HW⟩:=hcut
       obtain⟨we,rfl⟩:∃we:World,we=wc:=⟨_,rfl⟩
       have O:Hid (Y9 w we (.slice A1 acc.length I) h acc):=zdG (by rw[HW.out];exact a2.out.later (below_drewN' (Below.refl _ _) q2))
       clear a2 dx HW
       by_cases he:acc[p]?=some x
       ·rw[decide_eq_true he]
        rw[if_pos he] at f
        have HZ:Hid ((l.take (k+1)).all (fun s=>yM s)=true∧Y9 w we (.slice A1 m I) h (Zz (l.take (k+1)))):=zdG ⟨HG.out,by rw[f.out,←S.out];exact O.out⟩
        clear he
        go_wp2_with fail
        refine⟨?_,by simp[intOf];omega⟩
        first|exact⟨k+1,_,by omega,by go_num,HZ⟩|((repeat apply Exists.intro);exact⟨⟨k+1,_,by omega,by go_num,HZ⟩,rfl⟩)
       ·rw[decide_eq_false he]
        rw[if_neg he] at f
        clear he
        have P:=O.out.sl
        rw[S.out] at P
        have ag:=zdG P
        clear P
        go_wp2_with (at_builtin;refine zC rfl _ _ 38 rfl Tryz.underlying38 hi b5 b6 b7 rfl (by decide) ag.out rfl 1 1 rfl rfl ?_ ?_ ?_ ?_)
        ·rfl
        ·unfold maxLen
         omega
        ·omega
        ·intro v2 h2 w3 ac ap aq
         obtain⟨C,c,K,b8,rfl,_,_,bd,_⟩:=ac.at_ (by omega)
         subst b8
         have V:=O.out.below.size
         have E:w.heap.size≤C:=by
          rcases aq with h3|⟨g,h3,h4⟩
          ·exact O.out.own C h3.symm
          ·injection h3 with h3
           omega
         have a3:Hid (Below w.heap.size w w3):=zdG (O.out.below.trans (ap.below V fun k hk=>O.out.own k (by simpa using hk)))
         have ay:Hid (∃z,Sl w3 9 1 (.slice (some ⟨C,c,none⟩) (m+1) K) (some C) (m+1) ((acc.take m++z :: acc.drop m).map encStr)∧Chg [C] w3 w3):=zdG ⟨[],by
          rw[List.take_of_length_le (by rw[S.out];exact Nat.le_refl _),List.drop_of_length_le (by rw[S.out];exact Nat.le_refl _),List.map_append]
          exact ac,Chg.refl _ _⟩
         have ah:b≠C:=by omega
         clear ac ap aq ag
         go_wp2_with fail
         go_loopw [7] (fun a wr=>∃r:Nat,p≤r∧r≤m∧a=.int .i64 r∧Hid (∃z,Sl wr 9 1 (.slice (some ⟨C,c,none⟩) (m+1) K) (some C) (m+1) ((acc.take r++z :: acc.drop r).map encStr)∧Chg [C] w3 wr)) (fun a _=>(intOf a).toNat)
         case atStart=>exact⟨m,hp,Nat.le_refl _,by go_num,ay⟩
         case round=>
          obtain⟨r,bh,b9,rfl,HT⟩:=hrel
          obtain⟨z,ad,ar⟩:=HT.out
          have W:r≤acc.length:=by rw[S.out];exact b9
          obtain⟨b3,be,bf,_,F,_,_,bg,u⟩:=ad.at_ (by omega)
          injection F with hva1 hvx hvy
          injection hva1 with hva1
          injection hva1 with hv1 hv2 _
          subst hv1
          subst hv2
          clear hvx hvy
          have ai:=zdG ad
          have a9:=zdG ar
          clear ad ar
          by_cases bb:p < r
          ·have aj:0 < r:=by omega
           have q1:=u (r - 1) (by omega)
           have q2:=u r (by omega)
           have e1:wr.cell? ⟨C,c+(r - 1),none⟩=some (encStr (acc[r - 1]'(by omega))):=by
            rw[q1.1,List.getElem?_map,zdo acc r aj W z]
            rfl
           have e2:wr.cell? ⟨C,c+r,none⟩=some (encStr z):=by
            rw[q2.1,List.getElem?_map,List.getElem?_append_right (by rw[List.length_take];omega),List.length_take,Nat.min_eq_left W,Nat.sub_self]
            rfl
           have e3:=q2.2
           have X:=zby acc r aj W z
           have HZ:Hid (∃z',Sl (wr.setCell ⟨C,c+r,none⟩ (encStr (acc[r - 1]'(by omega)))) 9 1 (.slice (some ⟨C,c,none⟩) (m+1) K) (some C) (m+1) ((acc.take (r - 1)++z' :: acc.drop (r - 1)).map encStr)∧Chg [C] w3 (wr.setCell ⟨C,c+r,none⟩ (encStr (acc[r - 1]'(by omega))))):=zdG ⟨acc[r - 1]'(by omega),by
            have h9:=ai.out.store r (encStr (acc[r - 1]'(by omega)))
            rw[←List.map_set,X] at h9
            exact h9,a9.out.set (.inl (by simp)) _⟩
           have i2:0≤(r:Int) - 1:=by omega
           have i3:((r:Int) - 1).toNat=r - 1:=by omega
           have i4:((r - 1:Nat):Int)=(r:Int) - 1:=by omega
           have ak:=zdG i4
           clear u q1 q2 X i4
           generalize (acc[r - 1]'(by omega))=y at e1 HZ
           go_wp2_with fail
           refine⟨?_,by simp[intOf];omega⟩
           first|exact⟨r - 1,by omega,by omega,by rw[ak.out],HZ⟩|((repeat apply Exists.intro);exact⟨⟨r - 1,by omega,by omega,by rw[ak.out],HZ⟩,rfl⟩)
          ·obtain rfl:p=r:=by omega
           have q2:=u p (by omega)
           have e2:wr.cell? ⟨C,c+p,none⟩=some (encStr z):=by
            rw[q2.1,List.getElem?_map,List.getElem?_append_right (by rw[List.length_take];omega),List.length_take,Nat.min_eq_left W,Nat.sub_self]
            rfl
           have e3:=q2.2
           have dx:wr.cell? ⟨b,B+k,none⟩=some (encStr x):=(a9.out.cell (p:=⟨b,B+k,none⟩) (Nat.lt_of_lt_of_le Z a3.out.size) (by simpa using ah)).trans ((a3.out.cell (p:=⟨b,B+k,none⟩) Z).trans a0.out)
           have HZ:Hid ((l.take (k+1)).all (fun s=>yM s)=true∧Y9 w (wr.setCell ⟨C,c+p,none⟩ (encStr x)) (.slice (some ⟨C,c,none⟩) (m+1) K) (some C) (Zz (l.take (k+1)))):=zdG ⟨HG.out,by
            rw[f.out]
            have h9:=ai.out.store p (encStr x)
            rw[←List.map_set,zcd acc p W z x] at h9
            have al:(acc.take p++x :: acc.drop p).length=m+1:=by
             have:=h9.1
             simpa using this
            refine⟨by rw[al];exact h9,fun b hb=>?_,(a3.out.trans (a9.out.below a3.out.size (by simpa using E))).setCell E _⟩
            injection hb with hb
            omega⟩
           clear u q2
           go_wp2_with fail
           refine⟨?_,by simp[intOf];omega⟩
           first|exact⟨k+1,_,by omega,by go_num,HZ⟩|((repeat apply Exists.intro);exact⟨⟨k+1,_,by omega,by go_num,HZ⟩,rfl⟩)
   ·have az:k=n:=by omega
    subst az
    have aa:=HU.out
    rw[List.take_of_length_le (by rw[HN.out];exact Nat.le_refl _)] at aa
    have a':=zdG aa
    clear aa
    go_wp2_with fail
    go_meet
    exact⟨_,a'⟩
 case rest=>
  obtain⟨h,HU⟩:=hcut
  obtain⟨A1,I,rfl,_,_⟩:=HU.out.2.sl.form
  have Y:=HQ.out
  rw[Qm,if_neg (by
   intro au
   obtain⟨s,hs,ba⟩:=List.any_eq_true.1 au
   have:=List.all_eq_true.1 HU.out.1 s hs
   simp[this] at ba)] at Y
  have R:=zdG HU.out.2
  clear HU HQ
  generalize Zz l=acc at R Y
  obtain⟨m,H⟩:∃m,acc.length=m:=⟨_,rfl⟩
  rw[H] at Y
  have S:=zdG H
  by_cases am:16 < m
  ·rw[if_pos am] at Y
   injection Y with hq1 hq2
   subst hq1
   subst hq2
   rw[H]
   clear H
   go_wp2_with fail
   go_ret2
   exact⟨none,0,none,rfl,Sl.nil _ _ _,R.out.below,fun b hb=>by cases hb⟩
  ·rw[if_neg am] at Y
   injection Y with hq1 hq2
   subst hq1
   subst hq2
   rw[H]
   clear H
   go_wp2_with fail
   go_ret2
   have H:=S.out
   simp only[H]
   have P:=R.out.sl
   rw[H] at P
   exact⟨_,_,_,rfl,P,R.out.below,R.out.own⟩
end Go.Proofs.YtfhlhdmhgheonaaGreatDoor
namespace Go.Proofs.YtfhlhdmhgheonaaGreatDoor
open Go.Shelf Go.RowKit
attribute [local go_sem ↓] Go.wp_at_zero Go.wp_at_succ
structure zcU (w:World)(g:Nat)(q:zl)(x:Acc)(ks:zN)(vk:Value)(Sk:List Nat):Prop where
 at_:zi w g q x
 fit:Fit x
 keys:RdS w Sk 1 vk ks.length (ks.map encStr)
 nk:ks.length≤1099511627776
 short:Short ks
theorem J5 (l:zN):(zG l).1.length≤16:=by
 rw[Qm]
 split
 ·simp
 ·split
  ·simp
  ·simp only
   omega
theorem zaH (w:World)(g:Nat)(q:zl)(x:Acc)(id:Int)(ks:zN)(vk:Value)(Sk:List Nat)(h:zcU w g q x ks vk Sk)(hno:∀m,x.mails.find? (fun m=>decide (m.id=id))=some m→(zG ks).2=0→(zG ks).1=m.keys∨x.ends=true) :
  Calls Tryz.prog 52 #[.pointer (some ⟨g,0,none⟩),.int .i64 id,vk] w (uh w g q (xM x id ks)):=by
 have R:=h.fit
 have a0:=R.clock
 have a1:=R.cfg.mod
 have O:=R.nm
 have a:=YQ w g q x id h.at_ (by omega)
 have HS:=zdG h.at_
 obtain⟨Ak,ck,af,_,_⟩:=h.keys.form
 subst af
 by_cases j:id∈vw x.mails
 case neg=>
  have a2:Yi id x.mails= -1:=Yy x.mails (fun t ht=>by
   simp only[decide_eq_false_iff_not]
   exact fun e=>j (by rw[←e];exact List.mem_map_of_mem (List.getElem_mem ht)))
  have c:xM x id ks=(x,6):=by
   unfold xM Vk
   rw[show x.mails.find? (fun m=>decide (m.id=id))=none from List.find?_eq_none.2 (fun m H hd=>j (by
    have:m.id=id:=by simpa using hd
    rw[←this]
    exact List.mem_map_of_mem H))]
  rw[c]
  rw[a2] at a
  obtain⟨lk,F⟩:∃lk,ks.length=lk:=⟨_,rfl⟩
  rw[F]
  clear c a2 j h R a0 a1 O hno F
  go_enter Tryz.func52,Tryz.ntmps52
  go_wp2_with (first
   |(go_at_call 130;refine a.mono ?_;rintro e w3 ⟨rfl,rfl⟩;clear a)
   |fail)
  go_ret
  exact⟨rfl,q,ze.refl HS.out⟩
 rw[←h.at_.same] at j
 obtain⟨i,V,n1,G,n2,n3,N⟩:=Zh j
 clear n1 n2 n3
 rw[h.at_.same] at G N
 rw[G] at a
 have aj:¬(i:Int) < 0:=by omega
 have P:=h.at_.Za
 obtain⟨m,H⟩:∃m,q.ms[i]=m:=⟨_,rfl⟩
 have K:m∈q.ms:=by rw[←H];exact List.getElem_mem V
 have a3:m.p∈x.mails:=by rw[←h.at_.same];exact List.mem_map_of_mem K
 have ad:=(R.mail _ a3).keys
 have b:=YM w (.slice Ak ks.length ck) ks.length ks rfl h.nk (h.keys.sub (fun _ _ _ H=>by cases H)) h.short
 have n:=hno m.p (by rw[N,H])
 have c:xM x id ks=(if (zG ks).2≠0 then (x,(zG ks).2) else if (zG ks).1=m.p.keys then (x,0) else (x,11)):=by
  unfold xM Vk
  simp only[N,H]
  by_cases y:(zG ks).2=0
  ·by_cases h2:(zG ks).1=m.p.keys
   ·simp[y,h2]
   ·have h3:x.ends=true:=by
     rcases n y with h4|h4
     ·exact absurd h4 h2
     ·exact h4
    simp[y,h2,h3]
  ·simp[y]
 have S:=J5 ks
 have u:=fun W (hb:Below w.heap.size w W) v hh (M:Sl W 9 1 v hh (zG ks).1.length ((zG ks).1.map encStr))=>Ug v m.kv [] [] (zG ks).1 m.p.keys W (M.reads [] (by simp)) ((((h.at_.later hb).parts m K).keys).sub (fun _ _ _ H=>by cases H)) (by omega) (by omega)
 have a4:=fun W (hb:Below w.heap.size w W)=>uI W g q x (h.at_.later hb) R
 have k:∀W,Below w.heap.size w W→∃b1 o1 c1,W.cell? ⟨g,11,none⟩=some (.slice (some ⟨b1,o1,none⟩) x.mails.length c1)∧W.cell? ⟨b1,o1+i * 8+4,none⟩=some m.kv:=fun W hb=>by
  have y:=h.at_.later hb
  obtain⟨b1,o1,c1,ag,_,_,_,_,Q⟩:=y.xu i (by omega) V
  refine⟨b1,o1,c1,by rw[←ag];exact y.zU,?_⟩
  rw[H] at Q
  exact(Q 4 (by omega)).1
 obtain⟨kk,ke,X⟩:∃kk ke,zG ks=(kk,ke):=⟨_,_,rfl⟩
 rw[X] at c b n S
 simp only[X] at u
 simp only at c b n S u
 obtain⟨rr,a9⟩:∃rr,xM x id ks=rr:=⟨_,rfl⟩
 rw[a9] at c ⊢
 obtain⟨nm,Y⟩:∃nm,x.mails.length=nm:=⟨_,rfl⟩
 rw[Y] at P
 simp only[Y] at k
 have ak:i < nm:=by omega
 have al:(i:Int) < (nm:Int):=by omega
 have ai:(0:Int)≤(i:Int):=by omega
 obtain⟨lk,F⟩:∃lk,ks.length=lk:=⟨_,rfl⟩
 rw[F] at b ⊢
 obtain⟨Am,cm,Z,_,_⟩:=((h.at_.parts m K).keys).form
 obtain⟨lm,aa⟩:∃lm,m.p.keys.length=lm:=⟨_,rfl⟩
 rw[aa] at Z
 simp only[Z] at u k
 have HR:=zdG c
 have z:=zdG u
 have T:=zdG a4
 have A:=zdG k
 have a5:=zdG n
 obtain⟨ab,I⟩:∃ab,kk.length=ab:=⟨_,rfl⟩
 rw[I] at b
 have r:=zdG I
 clear a9 c u a4 k hno n P Y F aa Z X N G j h R a0 a1 O ad S a3 H K I V
 by_cases he:ke=0
 ·subst he
  have B:=HR.out
  rw[if_neg (by simp)] at B
  have U:=a5.out rfl
  by_cases M:kk=m.p.keys
  ·rw[if_pos M] at B
   have C:=zdG B
   have f:=z.out
   simp only[decide_eq_true M] at f
   have D:=zdG f
   clear B HR U f z M
   go_enter Tryz.func52,Tryz.ntmps52
   go_wp2_with (first
    |(go_at_call 130;refine a.mono ?_;rintro e w3 ⟨rfl,rfl⟩;clear a)
    |(go_at_call 118;refine b.mono ?_;rintro e w4 ⟨A4,c4,h4,rfl,l,d,_⟩;rw[←r.out] at l;have o:=D.out w4 d _ _ l;rw[r.out] at o;obtain⟨b1,o1,c1,ah,k4⟩:=A.out w4 d;have E:=zdG d;clear b l d)
    |(go_at_call 131;refine o.mono ?_;rintro e w5 ⟨rfl,J⟩;have L:=zdG (za E.out J);clear J o)
    |fail)
   go_ret
   rw[C.out]
   exact⟨rfl,q,ze.of_below HS.out L.out⟩
  ·rw[if_neg M] at B
   have a6:x.ends=true:=by
    rcases U with y|y
    ·exact absurd y M
    ·exact y
   have s:=T.out
   rw[a6] at s
   simp only[if_true,Bool.not_true] at s
   have a7:=zdG s
   have C:=zdG B
   have f:=z.out
   simp only[decide_eq_false M] at f
   have D:=zdG f
   clear B HR U f z M s T a6
   go_enter Tryz.func52,Tryz.ntmps52
   go_wp2_with (first
    |(go_at_call 130;refine a.mono ?_;rintro e w3 ⟨rfl,rfl⟩;clear a)
    |(go_at_call 118;refine b.mono ?_;rintro e w4 ⟨A4,c4,h4,rfl,l,d,_⟩;rw[←r.out] at l;have o:=D.out w4 d _ _ l;rw[r.out] at o;obtain⟨b1,o1,c1,ah,k4⟩:=A.out w4 d;have E:=zdG d;clear b l d)
    |(go_at_call 131;refine o.mono ?_;rintro e w5 ⟨rfl,J⟩;have L:=zdG (za E.out J);have a8:=a7.out _ L.out;clear J o)
    |(go_at_call 107;refine a8.mono ?_;rintro e w6 ⟨rfl,ac⟩;have ae:=zdG ac;clear a8 ac)
    |fail)
   go_ret
   rw[C.out]
   exact⟨rfl,q,(ze.of_below HS.out L.out).trans ae.out⟩
 ·have B:=HR.out
  rw[if_pos he] at B
  have C:=zdG B
  have hq:(ke !=0)=true:=by simpa using he
  clear B HR a5 z T he
  go_enter Tryz.func52,Tryz.ntmps52
  go_wp2_with (first
   |(go_at_call 130;refine a.mono ?_;rintro e w3 ⟨rfl,rfl⟩;clear a)
   |(go_at_call 118;refine b.mono ?_;rintro e w4 ⟨A4,c4,h4,rfl,l,d,_⟩;have E:=zdG d;clear b l d)
   |fail)
  go_ret
  rw[C.out]
  exact⟨rfl,q,ze.of_below HS.out E.out⟩
theorem rkeys_ok (w:World)(g:Nat)(q:zl)(x:Acc)(id:Int)(ks:zN)(vk:Value)(Sk:List Nat)(h:zcU w g q x ks vk Sk)(hmem:id∈vw x.mails)(hke:(zG ks).2=0)(hnok:∀m,x.mails.find? (fun m=>decide (m.id=id))=some m→¬(zG ks).1=m.keys)(hen:x.ends=false) :
  Calls Tryz.prog 52 #[.pointer (some ⟨g,0,none⟩),.int .i64 id,vk] w (uh w g q (xM x id ks)):=by
 have hf:=h.fit
 have df:=hf.clock
 have ac:=hf.cfg.mod
 have cb:=hf.nm
 have T:=YQ w g q x id h.at_ (by omega)
 have HS:=zdG h.at_
 obtain⟨Ak,ck,e0,_,_⟩:=h.keys.form
 subst e0
 rw[←h.at_.same] at hmem
 obtain⟨i,j,n1,a6,n3,n2,ak⟩:=Zh hmem
 clear n1 n3
 rw[h.at_.same] at a6 ak
 rw[a6] at T
 have ec:¬(i:Int) < 0:=by omega
 have au:=h.at_.Za
 obtain⟨m,hm⟩:∃m,q.ms[i]=m:=⟨_,rfl⟩
 have ad:m∈q.ms:=by rw[←hm];exact List.getElem_mem j
 have n:m.p∈x.mails:=by rw[←h.at_.same];exact List.mem_map_of_mem ad
 have dg:=(hf.mail _ n).keys
 have s:=YM w (.slice Ak ks.length ck) ks.length ks rfl h.nk (h.keys.sub (fun _ _ _ hm=>by cases hm)) h.short
 have C:=hnok m.p (by rw[ak,hm])
 obtain⟨r,F⟩:∃r,(if decide (ZA∈(zG ks).1)≠decide (ZA∈m.p.keys) then m.p.members.map (·.1) else [])=r:=⟨_,rfl⟩
 have av:∀f,zZ id f x.mails=x.mails.set i (f m.p):=fun f=>by
  have U:=n2 f
  rw[h.at_.same,hm] at U
  exact U
 have D:xM x id ks=({x with clock:=x.clock+1,boxes:=zf (x.clock+1) r x.boxes,mails:=x.mails.set i {m.p with keys:=(zG ks).1,mod:=x.clock+1},log:=x.log.add (zn (x.clock+1) r++[⟨x.clock+1,2,id,2⟩])},0):=by
  unfold xM Vk
  simp only[ak,hm,hke,C,hen,av,←F,X8 (hf.mail _ n).mem.rising]
  rfl
 have ae:=J5 ks
 have V:=fun W (hb:Below w.heap.size w W) v hh (hs:Sl W 9 1 v hh (zG ks).1.length ((zG ks).1.map encStr))=>Ug v m.kv [] [] (zG ks).1 m.p.keys W (hs.reads [] (by simp)) ((((h.at_.later hb).parts m ad).keys).sub (fun _ _ _ hm=>by cases hm)) (by omega) (by omega)
 have cc:=fun W (hb:Below w.heap.size w W)=>uI W g q x (h.at_.later hb) hf
 have y:∀W,Below w.heap.size w W→∃b1 o1 c1,W.cell? ⟨g,11,none⟩=some (.slice (some ⟨b1,o1,none⟩) x.mails.length c1)∧W.cell? ⟨b1,o1+i * 8+4,none⟩=some m.kv:=fun W hb=>by
  have d:=h.at_.later hb
  obtain⟨b1,o1,c1,e1,_,_,_,_,b5⟩:=d.xu i (by omega) j
  refine⟨b1,o1,c1,by rw[←e1];exact d.zU,?_⟩
  rw[hm] at b5
  exact(b5 4 (by omega)).1
 obtain⟨B,ke,bv⟩:∃B ke,zG ks=(B,ke):=⟨_,_,rfl⟩
 rw[bv] at D s hke C ae F
 simp only[bv] at V
 simp only at D s hke C ae V F
 obtain⟨rr,d8⟩:∃rr,xM x id ks=rr:=⟨_,rfl⟩
 rw[d8] at D ⊢
 obtain⟨nm,al⟩:∃nm,x.mails.length=nm:=⟨_,rfl⟩
 rw[al] at au
 simp only[al] at y
 have ba:i < nm:=by omega
 have ed:(i:Int) < (nm:Int):=by omega
 have eb:(0:Int)≤(i:Int):=by omega
 obtain⟨lk,d9⟩:∃lk,ks.length=lk:=⟨_,rfl⟩
 rw[d9] at s ⊢
 obtain⟨Am,cm,am,_,_⟩:=((h.at_.parts m ad).keys).form
 obtain⟨lm,bw⟩:∃lm,m.p.keys.length=lm:=⟨_,rfl⟩
 rw[bw] at am
 simp only[am] at V y
 have HR:=zdG D
 have cd:=zdG V
 have ce:=zdG cc
 have bb:=zdG y
 have dh:=zdG F
 have HM:=zdG hm
 have Q:=zdG ad
 have bc:=zdG am
 have bd:=zdG j
 have L:=zdG hf
 have R:=zdG al
 have ee:=zdG bw
 have di:=zdG ae
 obtain⟨c,a7⟩:∃c,B.length=c:=⟨_,rfl⟩
 rw[a7] at s
 have E:=zdG a7
 have X:=cd.out
 simp only[decide_eq_false C] at X
 have cf:=zdG X
 have N:=ce.out
 rw[hen] at N
 simp only[Bool.false_eq_true,if_false,Bool.not_false] at N
 have cg:=zdG N
 subst hke
 clear d8 D V cc y hnok au al d9 bw am bv ak a6 hmem h hf df ac cb dg ae n a7 X cd N ce hen C F av n2
 go_enter Tryz.func52,Tryz.ntmps52
 go_upto_region 12 with(first
  |(go_at_call 130;refine T.mono ?_;rintro e w3 ⟨rfl,rfl⟩;clear T)
  |(go_at_call 118;refine s.mono ?_;rintro e w4 ⟨O,P,h4,rfl,a8,an,da⟩;rw[←E.out] at a8;have be:=cf.out w4 an _ _ a8;rw[E.out] at be a8;obtain⟨b1,o1,c1,af,k4⟩:=bb.out w4 an;have ch:=zdG an;have dj:=zdG a8;have dk:=zdG da;clear s a8 an da)
  |(go_at_call 131;refine be.mono ?_;rintro e w5 ⟨rfl,bx⟩;have ci:=zdG bx;have cj:=cg.out _ (za ch.out bx);clear bx be af k4)
  |(go_at_call 107;refine cj.mono ?_;rintro e w6 ⟨rfl,db⟩;have cl:=zdG db;clear cj db)
  |fail)
 have Y:ze w w6 g q {x with clock:=x.clock+1} q:=(ze.of_below HS.out (za ch.out ci.out)).trans cl.out
 have bf:∀b,h4=some b→b∉q.own g:=fun b hb hm=>by
  have d:=dk.out b hb
  have U:=HS.out.lt b hm
  omega
 have bg:Sl w6 9 1 (.slice O c P) h4 c (B.map encStr):=(dj.out.chg (Chg.of_below ci.out []) (by simp)).chg cl.out.chg bf
 have j:=bd.out
 obtain⟨l,t,c2,o,_,_,_,_,a9⟩:=Y.at_.xu i (by rw[R.out];exact ba) j
 have af:w6.cell? ⟨g,11,none⟩=some (.slice (some ⟨l,t,none⟩) nm c2):=by
  have:=Y.at_.zU
  rw[o] at this
  rw[←R.out]
  exact this
 have hm:q.ms[i]=m:=HM.out
 rw[hm] at a9
 have d4:w6.cell? ⟨l,t+i * 8+4,none⟩=some (.slice Am lm cm):=by
  rw[←bc.out]
  exact(a9 4 (by omega)).1
 have bh:∀W,W.heap=w6.heap→Calls Tryz.prog 132 #[.slice O c P,.string ⟨#[36,115,101,101,110]⟩] W fun e w'=>e=.returned (.bool (decide (ZA∈B)))∧W=w':=fun W hh=>by
  have d:=zaU (.slice O c P) [] B ZA W (by
   rw[E.out]
   exact(bg.heap hh).reads [] (by simp)) (by have:=E.out;have:=di.out;omega)
  exact d
 have bi:∀W,Below w6.heap.size w6 W→Calls Tryz.prog 132 #[.slice Am lm cm,.string ⟨#[36,115,101,101,110]⟩] W fun e w'=>e=.returned (.bool (decide (ZA∈m.p.keys)))∧W=w':=fun W hh=>by
  have hp:=(Y.at_.parts m Q.out).keys
  rw[bc.out] at hp
  have d:=zaU (.slice Am lm cm) [] m.p.keys ZA W ((hp.sub (fun _ _ _ hm=>by cases hm)).below hh) (by have:=(L.out.mail m.p (by rw[←HS.out.same];exact List.mem_map_of_mem Q.out)).keys;omega)
  exact d
 obtain⟨sa,bz⟩:∃sa,decide (ZA∈B)=sa:=⟨_,rfl⟩
 obtain⟨sb,b'⟩:∃sb,decide (ZA∈m.p.keys)=sb:=⟨_,rfl⟩
 simp only[bz] at bh
 simp only[b'] at bi
 have dl:=zdG bh
 have dm:=zdG bi
 have dn:=zdG bz
 have dp:=zdG b'
 have cn:=zdG o
 have H6:=zdG Y
 have dq:=zdG bg
 have co:=zdG bf
 clear bh bi bz b' o Y bg bf a9 hm
 go_cut [48] (fun v wx=>v=.bool (sa !=sb)∧Hid (wx=w6.drew))
 case first=>
  go_region_held3 (fun W=>W.cell? ⟨g,11,none⟩=some (.slice (some ⟨l,t,none⟩) nm c2)∧W.cell? ⟨l,t+i * 8+4,none⟩=some (.slice Am lm cm)) (go_keep) (first
   |(go_at_call 132;(with_reducible refine(dl.out _ ?_).mono ?_);exact rfl;rintro e u ⟨rfl,rfl⟩)
   |(go_at_call 132;(with_reducible refine(dm.out _ ?_).mono ?_);exact zb _;rintro e u ⟨rfl,rfl⟩)
   |fail)
  all_goals
   go_wp2_with fail
   go_meet
   exact⟨rfl,zdG rfl⟩
 case rest=>
  obtain⟨rfl,HW⟩:=hcut
  obtain⟨u,rfl⟩:∃u:World,u=wc:=⟨_,rfl⟩
  have ag:ze w u g q {x with clock:=x.clock+1} q:=by
   rw[HW.out]
   exact H6.out.trans (ze.of_below H6.out.at_ (zb w6))
  have H7:=zdG ag
  have aw:x.boxes.length≤1099511627776:=by
   have U:=L.out.nb
   have h3:=L.out.clock
   have h4:=L.out.cfg.mod
   omega
  have n:m.p∈x.mails:=by rw[←HS.out.same];exact List.mem_map_of_mem Q.out
  have ac:=L.out.mail _ n
  have bj:m.p.members.length≤1099511627776:=by
   have d:=L.out.Jp n
   have U:=L.out.nb
   have h3:=L.out.clock
   have h4:=L.out.cfg.mod
   omega
  have M:=ag.at_.parts m Q.out
  have Z:∀W v hh,Below u.heap.size u W→Sl W 3 1 v hh m.p.members.length ((yF m.p.members).map encI)→(∀b,hh=some b→u.heap.size≤b)→Calls Tryz.prog 125 #[.pointer (some ⟨g,0,none⟩),v] W fun e w'=>∃A9 c9 hh,e=.returned (.slice A9 m.p.members.length c9)∧Sl w' 177 4 (.slice A9 m.p.members.length c9) hh m.p.members.length (zM (zn (x.clock+1) (m.p.members.map (·.1))))∧(∀b,hh=some b→W.heap.size≤b)∧ze W w' g q {x with clock:=x.clock+1,boxes:=zf (x.clock+1) (m.p.members.map (·.1)) x.boxes} q:=fun W v hh hb hs ho=>by
   have d:=Xc W g q {x with clock:=x.clock+1} (H7.out.at_.later hb) aw (m.p.members.map (·.1)) v (by
    rw[List.length_map]
    exact hs.reads (q.own g) (fun b hb2 hm=>by
     have U:=ho b hb2
     have h3:=H7.out.at_.lt b hm
     omega)) (by rw[List.length_map];exact bj) (fun i hi=>by
    obtain⟨p,hp,rfl⟩:=List.mem_map.1 hi
    exact(ac.mem.each p hp).1)
   refine d.mono ?_
   rintro e w' ⟨v',e2,rfl,c0,e3,e5⟩
   rw[List.length_map] at c0
   obtain⟨A9,c9,rfl,_,_⟩:=c0.form
   exact⟨A9,c9,e2,rfl,c0,e3,e5⟩
  obtain⟨Av,cv,ao,_,_⟩:=M.mem.form
  have ah:=fun m0 th m3 m6 m7 s2 vk=>QT u m0 th m3 m6 m7 s2 vk (.slice Av m.p.members.length cv) m.p.members (by rw[←ao];exact M.mem.sub (fun _ _ _ hm=>by cases hm)) bj
  have j:=bd.out
  obtain⟨b3,o3,c3,H,_,_,_,_,a⟩:=ag.at_.xu i (by rw[R.out];exact ba) j
  have dr:=Value.slice.inj (cn.out.symm.trans H)
  obtain⟨I,_,_⟩:=dr
  simp only[Option.some.injEq,Addr.mk.injEq,and_true] at I
  obtain⟨rfl,rfl⟩:=I
  have hm:q.ms[i]=m:=HM.out
  rw[hm] at a
  have ds:u.cell? ⟨g,11,none⟩=some (.slice (some ⟨l,t,none⟩) nm c2):=by rw[HW.out];exact af
  have f0:u.cell? ⟨l,t+i * 8,none⟩=some (.int .i64 m.p.id):=(a 0 (by omega)).1
  have f1:u.cell? ⟨l,t+i * 8+1,none⟩=some (.int .i64 m.p.thread):=(a 1 (by omega)).1
  have f2:u.cell? ⟨l,t+i * 8+2,none⟩=some (.string ⟨m.p.text.toArray⟩):=(a 2 (by omega)).1
  have f3:u.cell? ⟨l,t+i * 8+3,none⟩=some (.int .i64 m.p.at_):=(a 3 (by omega)).1
  have f4:u.cell? ⟨l,t+i * 8+4,none⟩=some (.slice Am lm cm):=by rw[HW.out];exact d4
  have f5:u.cell? ⟨l,t+i * 8+5,none⟩=some (.slice Av m.p.members.length cv):=by rw[←ao];exact(a 5 (by omega)).1
  have f6:u.cell? ⟨l,t+i * 8+6,none⟩=some (.int .i64 m.p.mod):=(a 6 (by omega)).1
  have f7:u.cell? ⟨l,t+i * 8+7,none⟩=some (.int .i64 m.p.born):=(a 7 (by omega)).1
  have F:r=if sa≠sb then m.p.members.map (·.1) else []:=by rw[←dh.out,dn.out,dp.out]
  have a0:=zdG F
  have cp:=zdG Z
  have ef:=zdG ao
  generalize m.p.id=m0 at f0
  generalize m.p.thread=m1 at f1
  generalize m.p.text=m2 at f2
  generalize m.p.at_=m3 at f3
  generalize m.p.mod=m6 at f6
  generalize m.p.born=m7 at f7
  obtain⟨ln,c5⟩:∃ln,m.p.members.length=ln:=⟨_,rfl⟩
  rw[c5] at f5 ah cp
  have dt:=zdG c5
  clear ag aw n ac bj M Z ao H a hm F af d4 c5 j
  obtain⟨sx,c6⟩:∃sx,(sa !=sb)=sx:=⟨_,rfl⟩
  rw[c6]
  have cq:=zdG c6
  clear c6
  go_upto_if 48 with(fail)
  go_cut [10] (fun v wx=>∃A9 c9 h9,v=.slice A9 r.length c9∧Hid (Sl wx 177 4 (.slice A9 r.length c9) h9 r.length (zM (zn (x.clock+1) r))∧(∀b,h9=some b→u.heap.size≤b)∧ze u wx g q {x with clock:=x.clock+1,boxes:=zf (x.clock+1) r x.boxes} q))
  case first=>
   cases sx
   ·have hs:sa=sb:=by simpa using cq.out
    have ax:r=[]:=by rw[a0.out];simp[hs]
    have HN:=zdG ax
    clear hs ax
    go_wp2_with fail
    go_meet
    refine⟨none,0,none,by rw[HN.out];rfl,zdG ⟨?_,(fun b hb=>by cases hb),?_⟩⟩
    ·rw[HN.out]
     exact Sl.nil _ _ _
    ·rw[HN.out]
     exact ze.refl H7.out.at_
   ·have hs:¬sa=sb:=by simpa using cq.out
    have cr:r=m.p.members.map (·.1):=by rw[a0.out,if_pos hs]
    have HN:=zdG cr
    clear hs cr
    go_wp2_with (first
     |(go_at_call 133;refine(ah _ _ _ _ _ _ _).mono ?_;rintro e w8 ⟨v8,h8,rfl,dc,dd,c7⟩;have S:=cp.out w8 v8 h8 c7 dc dd;have cs:=zdG c7;clear dc dd c7 ah)
     |(go_at_call 125;refine S.mono ?_;rintro e w9 ⟨A9,c9,h9,rfl,J,K,z⟩;have du:=zdG J;have dv:=zdG K;have bk:=zdG z;clear J K z S)
     |fail)
    go_meet
    have ct:r.length=ln:=by rw[HN.out,List.length_map];exact dt.out
    refine⟨A9,c9,h9,by rw[ct],zdG ⟨?_,fun b hb=>?_,?_⟩⟩
    ·rw[ct,HN.out]
     exact du.out
    ·have d:=dv.out b hb
     have U:=cs.out.size
     omega
    ·rw[HN.out]
     exact(ze.of_below H7.out.at_ cs.out).trans bk.out
  case rest=>
   obtain⟨A9,c9,h9,rfl,H9⟩:=hcut
   obtain⟨w9,rfl⟩:∃w9:World,w9=wc:=⟨_,rfl⟩
   obtain⟨J,K,S⟩:=H9.out
   have z:ze w w9 g q {x with clock:=x.clock+1,boxes:=zf (x.clock+1) r x.boxes} q:=H7.out.trans S
   have a1:Sl w9 9 1 (.slice O c P) h4 c (B.map encStr):=(dq.out.chg (Chg.of_below (by rw[HW.out];exact zb w6) []) (by simp)).chg S.chg co.out
   have j:=bd.out
   have bl:i < x.mails.length:=by rw[R.out];exact ba
   have hm:q.ms[i]=m:=HM.out
   have bm:=z.at_.parts m Q.out
   have cu:yD w9 (q.own g) ⟨{m.p with keys:=B},.slice O c P,m.mv⟩:=by
    refine⟨?_,bm.mem,a1.ty,bm.tm⟩
    show RdS w9 (q.own g) 1 (.slice O c P) B.length (B.map encStr)
    rw[E.out]
    exact a1.reads _ co.out
   have o:=cn.out
   have cw:=z.at_.vD o i bl j 4 (by omega) (.slice O c P) ⟨{m.p with keys:=B},.slice O c P,m.mv⟩ (by rw[hm];rfl) cu
   have bn:w9.cell? ⟨g,11,none⟩=some (.slice (some ⟨l,t,none⟩) nm c2):=by
    have d:=z.at_.zU
    rw[o,R.out] at d
    exact d
   obtain⟨b3,o3,c3,H,_,_,_,_,a⟩:=z.at_.xu i bl j
   obtain⟨I,_,_⟩:=Value.slice.inj (o.symm.trans H)
   simp only[Option.some.injEq,Addr.mk.injEq,and_true] at I
   obtain⟨rfl,rfl⟩:=I
   rw[hm] at a
   have d4:w9.cell? ⟨l,t+i * 8+4,none⟩=some (.slice Am lm cm):=by
    rw[←bc.out]
    exact(a 4 (by omega)).1
   have e4:=(a 4 (by omega)).2
   have bk:=zdG z
   have a2:=zdG cw
   clear a H cu bm a1 J K S ds f0 f1 f2 f3 f4 f5 f6 f7 ah cw z
   go_upto_region 15 with(fail)
   obtain⟨wa,de⟩:∃wa:World,wa=w9.setCell ⟨l,t+i * 8+4,none⟩ (.slice O c P):=⟨_,rfl⟩
   rw[←de] at a2 ⊢
   clear de d4 e4 bn
   have G:=a2.out.at_
   have bo:i < (q.ms.set i ⟨{m.p with keys:=B},.slice O c P,m.mv⟩).length:=by rw[List.length_set];exact j
   have a3:i < (x.mails.set i {m.p with keys:=B}).length:=by rw[List.length_set];exact bl
   obtain⟨b3,o3,c3,H,b6,_,_,_,a⟩:=G.xu i a3 bo
   obtain⟨I,_,_⟩:=Value.slice.inj (o.symm.trans H)
   simp only[Option.some.injEq,Addr.mk.injEq,and_true] at I
   obtain⟨rfl,rfl⟩:=I
   simp only[List.getElem_set_self] at a
   have d6:wa.cell? ⟨l,t+i * 8+6,none⟩=some (.int .i64 m.p.mod):=(a 6 (by omega)).1
   have e6:=(a 6 (by omega)).2
   have bn:wa.cell? ⟨g,11,none⟩=some (.slice (some ⟨l,t,none⟩) nm c2):=by
    have d:=G.zU
    rw[show ({q with ms:=q.ms.set i ⟨{m.p with keys:=B},.slice O c P,m.mv⟩}:zl).vm=q.vm from rfl,o,R.out] at d
    exact d
   have l9:wa.cell? ⟨g,9,none⟩=some (.int .i64 (x.clock+1)):=G.yo
   have cx:(⟨{m.p with keys:=B},.slice O c P,m.mv⟩:zR)∈q.ms.set i ⟨{m.p with keys:=B},.slice O c P,m.mv⟩:=List.mem_set j _
   have a4:=(G.later (zb wa)).parts _ cx
   have cy:=(G.later (zb wa)).vD o i a3 bo 6 (by omega) (.int .i64 (x.clock+1)) ⟨{m.p with keys:=B,mod:=x.clock+1},.slice O c P,m.mv⟩ (by simp only[List.getElem_set_self];rfl) ⟨a4.keys,a4.mem,a4.tk,a4.tm⟩
   have bp:=(a2.out.trans (ze.of_below G (zb wa))).trans cy
   simp only[List.set_set] at bp
   have ay:=zdG bp
   obtain⟨ck,c8⟩:∃ck,x.clock+1=ck:=⟨_,rfl⟩
   have dw:=zdG c8
   rw[c8] at l9
   have eg:l≠g:=fun e=>G.apart.hm (by rw[b6,e])
   clear G a H cx a4 cy bp c8 bo a3 b6
   go_cut [] (fun wx=>Hid (wx=wa.drew.setCell ⟨l,t+i * 8+6,none⟩ (.int .i64 ck)))
   case first=>
    go_region_held3 (fun W=>W.cell? ⟨g,11,none⟩=some (.slice (some ⟨l,t,none⟩) nm c2)∧W.cell? ⟨g,9,none⟩=some (.int .i64 ck)) (go_keep) (fail)
    all_goals
     go_wp2_with fail
     go_meet
     exact zdG rfl
   case rest=>
    obtain⟨wb,rfl⟩:∃wb:World,wb=wc:=⟨_,rfl⟩
    have bq:=hcut.out
    rw[←dw.out] at bq
    rw[←bq] at ay
    clear bq hcut l9 bn d6 e6
    obtain⟨j0,hj,e7,e8,e9⟩:=info_parts Try.infoEntry
    obtain⟨J,K,_⟩:=H9.out
    have br:∀b,h9=some b→b∉q.own g:=fun b hb hm=>by
     have d:=K b hb
     have U:=H7.out.at_.lt b hm
     omega
    have cz:∀b,h9=some b→w.heap.size≤b:=fun b hb=>Nat.le_trans H7.out.chg.size (K b hb)
    obtain⟨x3,ap⟩:∃x3:Acc,x3={x with clock:=x.clock+1,boxes:=zf (x.clock+1) r x.boxes,mails:=x.mails.set i {m.p with keys:=B,mod:=x.clock+1}}:=⟨_,rfl⟩
    have dx:∃q3,ze w9 wb g q x3 q3:=⟨_,by rw[ap];exact ay.out⟩
    obtain⟨q3,aq⟩:=dx
    have bs:Sl wb 177 4 (.slice A9 r.length c9) h9 r.length (zM (zn (x.clock+1) r)):=J.chg aq.chg br
    have c':∀b,h9=some b→b∉q3.own g:=fun b hb hm=>by
     rcases aq.own b hm with d|d
     ·exact br b hb d
     ·have:=J.lt b hb
      omega
    have bt:ze w wb g q x3 q3:=bk.out.trans aq
    have n:m.p∈x.mails:=by rw[←HS.out.same];exact List.mem_map_of_mem Q.out
    have d0:r.length≤4294967296:=by
     rw[a0.out]
     split
     ·rw[List.length_map]
      have d:=L.out.Jp n
      have U:=L.out.nb
      have h3:=L.out.clock
      have h4:=L.out.cfg.mod
      omega
     ·simp
    have a5:=vK wb g q3 x3 2 id 2 bt.at_
    rw[show x3.clock=x.clock+1 by rw[ap]] at a5
    obtain⟨tl,ca⟩:∃tl,r.length=tl:=⟨_,rfl⟩
    rw[ca] at bs d0 ⊢
    have az:=zdG bs
    have d1:=zdG c'
    have dy:=zdG cz
    have ai:=zdG bt
    have d2:=zdG ap
    have dz:=zdG ca
    clear bs c' cz bt ap ca br J K aq n hm
    go_wp2_with (first
     |(go_at_call 109;refine a5.mono ?_;rintro e ei ⟨rfl,aa⟩;have d3:=zdG (az.out.chg (Chg.of_below aa []) (by simp));have a':=zdG aa;clear a5 aa)
     |(at_builtin;refine zC rfl _ _ 102 rfl Tryz.underlying102 hj e7 e8 e9 rfl (by decide) d3.out rfl 1 1 rfl rfl ?_ ?_ ?_ ?_)
     |fail)
    ·simp[Value.oneCell']
    ·unfold maxLen
     omega
    ·omega
    ·intro v2 U ar ab b7 b8
     obtain⟨ej,ek,rfl,_,_⟩:=ab.form
     have hc:Chg h9.toList wb ar:=(Chg.of_below a'.out _).trans b7 (fun i hi=>.inl hi)
     have A:zi ar g q3 x3:=zi.chgE ai.out.at_ az.out d1.out hc
     have b0:ze w ar g q x3 q3:=⟨A,ai.out.chg.trans hc (fun k hk=>.inr (dy.out k (by simpa using hk))),ai.out.own⟩
     have aj:x3.log=x.log:=by rw[d2.out]
     have bu:=L.out.log
     have d':=L.out.cfg.log
     have b4:=Yh (e:=zn (x.clock+1) r++[⟨x.clock+1,2,id,2⟩]) A (by rw[aj,bu.1];omega) (by rw[aj,bu.1];omega) (by rw[aj];omega) (by rw[zP];exact ab) (by
      rw[List.length_append,yC,dz.out]
      rfl) (by omega) (fun b hb hm=>by
      rcases b8 with d|⟨l,d,U⟩
      ·exact d1.out b (by rw[←d];exact hb) hm
      ·rw[d] at hb
       injection hb with hb
       have h3:=ai.out.at_.lt b hm
       have h4:=a'.out.size
       omega)
     have eh:ar.cell? ⟨g,12,none⟩=some (.pointer (some ⟨q3.gl,0,none⟩)):=A.zV
     have d5:=zdG b0
     clear A b0 aj bu d' hc ab b7 b8
     go_wp2_with (first
      |(go_at_call 108;refine b4.mono ?_;rintro e el ⟨rfl,ea,_,b9⟩;have d7:=zdG b9;clear b9 b4)
      |fail)
     go_ret
     rw[HR.out]
     have d:=d5.out.trans d7.out
     rw[d2.out] at d
     exact⟨rfl,ea,d⟩
end Go.Proofs.YtfhlhdmhgheonaaGreatDoor
namespace Go.Proofs.YtfhlhdmhgheonaaGreatDoor
open Go.Shelf Go.RowKit
theorem Ju (w:World)(g:Nat)(q:zl)(x:Acc)(id:Int)(ks:zN)(vk:Value)(Sk:List Nat)(h:zcU w g q x ks vk Sk) :
  Calls Tryz.prog 52 #[.pointer (some ⟨g,0,none⟩),.int .i64 id,vk] w (uh w g q (xM x id ks)):=by
 by_cases a:∀m,x.mails.find? (fun m=>decide (m.id=id))=some m→(zG ks).2=0→(zG ks).1=m.keys∨x.ends=true
 ·exact zaH w g q x id ks vk Sk h a
 ·simp only[Classical.not_forall] at a
  obtain⟨m,b,i,j⟩:=a
  obtain⟨c,d⟩:=not_or.1 j
  refine rkeys_ok w g q x id ks vk Sk h ?_ i (fun m' h'=>?_) (by simpa using d)
  ·have e:=List.find?_some b
   have f:m.id=id:=by simpa using e
   rw[←f]
   exact List.mem_map_of_mem (List.mem_of_find?_eq_some b)
  ·rw[b] at h'
   injection h' with h'
   rw[←h']
   exact c
end Go.Proofs.YtfhlhdmhgheonaaGreatDoor
