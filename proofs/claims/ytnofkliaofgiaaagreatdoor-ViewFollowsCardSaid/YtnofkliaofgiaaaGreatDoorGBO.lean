/-
  An account of the program's and one of the reference's, side by side: what turns the one leaves the other as it was. Printed by gen_both.py.
-/
import Derived.Test.YtnofkliaofgiaaaGreatDoorGPB
import Derived.Test.YtnofkliaofgiaaaGreatDoorGV
set_option maxRecDepth 100000
set_option maxHeartbeats 8000000
open Go.Proofs.Tryz
open Go renaming TypeId→Pa,Value→Oe,World→Oc
open Go.Ending renaming returned→RR
open Go.RowKit renaming Below→Od
open List renaming mem_append→OO,mem_append_left→PJ,mem_cons→OB,mem_cons_of_mem→OP
open Nat renaming le_trans→Ol
open _root_ renaming List→Ob,Option→OC
namespace Go.Proofs.YtnofkliaofgiaaaGreatDoor
open Go.Shelf Go.RowKit
def gZ (w:Oc)(S:Ob Nat):Prop:=∀b∈S,∃e cs,NG w b e cs∧e≠9∧e≠153
theorem Sl.typed {w:Oc}{e:Pa}{size n:Nat}{v:Oe}{h:OC Nat}{xs:Ob Oe}(hs:Sl w e size v h n xs)(h1:e≠9)(h2:e≠153):gZ w h.toList:=by
 intro b a
 rcases hs.2 with⟨rfl,_,_⟩|⟨b',off,cap,cur,rfl,_,hB,_⟩
 ·cases a
 ·simp at a
  subst a
  exact⟨e,cur,hB,h1,h2⟩
theorem zH.typed {w:Oc}{g:Nat}{q:zW}{x:Acc}(h:zH w g q x):gZ w (q.own g):=by
 exact Mq
theorem zJ.typed {w:Oc}{g:Nat}{q:zW}{x:Acc}(h:zJ w g q x):gZ w (q.own g):=by
 exact Mq
theorem xB.wider {w:Oc}{T:Ob Nat}{m:xd}:∀{S:Ob Nat},gZ w S→xB w T m→xB w (S++T) m
 |[],_,h=>h
 |b :: S,hS,h=>by
  obtain⟨e,cs,hB,h1,h2⟩:=hS b zv
  have hp:=xB.wider (S:=S) (fun b hb=>hS b (OP _ hb)) h
  exact⟨hp.keys.other hp.tk hB (fun e=>h1 e.symm),hp.mem.other hp.tm hB (fun e=>h2 e.symm),hp.tk,hp.tm⟩
theorem zH.besides {w w':Oc}{g:Nat}{q:zW}{x:Acc}{S:Ob Nat}(h:zH w g q x)(hS:gZ w S)(hd:∀b∈q.own g,b∉S)(hc:NH S w w'):zH w' g q x:=by
 exact Mo
theorem zJ.besides {w w':Oc}{g:Nat}{q:zW}{x:Acc}{S:Ob Nat}(h:zJ w g q x)(hS:gZ w S)(hd:∀b∈q.own g,b∉S)(hc:NH S w w'):zJ w' g q x:=by
 exact Mo
structure V9 (w wr:Oc)(g:Nat)(q:zW)(g2:Nat)(q2:zW)(x:Acc):Prop where
 st:yP w wr g q x
 rf:YQ w wr g2 q2 x
 apart:∀b∈q2.own g2,b∉q.own g
section
variable {w wr w1 w2 w3:Oc} {g g2:Nat} {q q' q2 q2':zW} {x x':Acc}
theorem V9.later (h:V9 w wr g q g2 q2 x)(hb:Od wr wr w1):V9 w w1 g q g2 q2 x:=⟨h.st.later hb,h.rf.later hb,h.apart⟩
theorem V9.half (h:V9 w w1 g q g2 q2 x)(ht:zL w1 w2 g q x' q'):zJ w2 g2 q2 x:=h.rf.at_.besides h.st.at_.typed h.apart ht.N4
theorem V9.done (h:V9 w w1 g q g2 q2 x)(ht:zL w1 w2 g q x' q')(hr:zK w2 w3 g2 q2 x' q2'):V9 w w3 g q' g2 q2' x':=by
 have a:=h.st.turned ht
 have c:∀b∈q'.own g,b∉q2.own g2:=fun b hb hm=>by
  rcases ht.own b hb with h1|h1
  ·exact h.apart b hm h1
  ·have:=h.rf.at_.lt b hm
   omega
 have e:=(h.half ht).typed
 have f:YQ w w2 g2 q2 x:=⟨h.half ht,a.below,h.rf.own⟩
 have d:Od w w w3:=a.below.trans (hr.N4.below a.below.size h.rf.own)
 refine⟨⟨a.at_.besides e c hr.N4,d,a.own⟩,f.turned hr,fun b hb hm=>?_⟩
 rcases hr.own b hb with h1|h1
 ·exact c b hm h1
 ·have:=a.at_.lt b hm
  omega
end
structure Zj (w wr:Oc)(g:Nat)(q:zW)(g2:Nat)(q2:zW)(x:Acc)(bs:Ob Int)(vb:Oe)(ks:yF)(vk:Oe)(nm:yx):Prop where
 both:V9 w wr g q g2 q2 x
 fit:Fit x
 room:(x.zg.length:Int)≤x.N3.xl
 zg:NN w [] 1 vb bs.length (bs.map yJ)
 nb:bs.length≤4294967296
 keys:NN w [] 1 vk ks.length (ks.map encStr)
 nk:ks.length≤1099511627776
 short:dX ks
 text:nm.length≤1099511627776
section
variable {w wr W:Oc} {g g2:Nat} {q q2:zW} {x:Acc} {bs:Ob Int} {vb:Oe} {ks:yF} {vk:Oe} {nm:yx}
theorem Zj.app (h:Zj w wr g q g2 q2 x bs vb ks vk nm)(hb:Od wr wr W):Ys W g q x bs vb [] ks vk [] nm:=
 have h1:=zj h.both.st.below hb
 ⟨h.both.st.at_.later hb,h.fit,h.zg.below h1,h.nb,h.keys.below h1,h.nk,h.short,h.text⟩
theorem Zj.UD (h:Zj w wr g q g2 q2 x bs vb ks vk nm)(hb:Od w w W)(hr:zJ W g2 q2 x):vO W g2 q2 x bs vb [] ks vk [] nm:=
 ⟨hr,h.fit,h.zg.below hb,h.nb,h.keys.below hb,h.nk,h.short,h.text⟩
end
structure Moved (wr w':Oc)(g:Nat)(q:zW)(g2:Nat)(q2:zW)(q' q2':zW):Prop where
 N4:NH (q.own g++q2.own g2) wr w'
 own:∀b∈q'.own g++q2'.own g2,b∈q.own g++q2.own g2∨wr.heap.size≤b
def uX (w wr:Oc)(g:Nat)(q:zW)(g2:Nat)(q2:zW)(x':Acc)(e:Ending)(w':Oc):Prop:=e=RR (.bool true)∧∃q' q2',V9 w w' g q' g2 q2' x'∧Moved wr w' g q g2 q2 q' q2'
theorem V9.o {w wr w1 w2 w3:Oc}{g g2:Nat}{q q' q2 q2':zW}{x x':Acc}(h:V9 w wr g q g2 q2 x)(hb:Od wr wr w1)(ht:zL w1 w2 g q x' q')(hr:zK w2 w3 g2 q2 x' q2'):uX w wr g q g2 q2 x' (RR (.bool true)) w3:=by
 refine⟨rfl,q',q2',(h.later hb).done ht hr,?_,fun b hm=>?_⟩
 ·exact((NH.of_below hb _).trans (ht.N4.mono fun j hj=>.inl (PJ _ hj)) (fun i hi=>.inl hi)).trans (hr.N4.mono fun j hj=>.inl (List.mem_append_right _ hj)) (fun i hi=>.inl hi)
 ·rcases OO.1 hm with h1|h1
  ·rcases ht.own b h1 with h2|h2
   ·exact .inl (PJ _ h2)
   ·exact .inr (Ol hb.size h2)
  ·rcases hr.own b h1 with h2|h2
   ·exact .inl (List.mem_append_right _ h2)
   ·exact .inr (Ol hb.size (Ol ht.N4.size h2))
theorem V9.still {w wr w1:Oc}{g g2:Nat}{q q2:zW}{x:Acc}(h:V9 w wr g q g2 q2 x)(hb:Od wr wr w1):uX w wr g q g2 q2 x (RR (.bool true)) w1:=
 ⟨rfl,q,q2,h.later hb,NH.of_below hb _,fun _ hm=>.inl hm⟩
end Go.Proofs.YtnofkliaofgiaaaGreatDoor
