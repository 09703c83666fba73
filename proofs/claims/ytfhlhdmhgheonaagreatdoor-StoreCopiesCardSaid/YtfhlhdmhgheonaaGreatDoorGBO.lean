/-
  An account of the program's and one of the reference's, side by side: what turns the one leaves the other as it was. Printed by gen_both.py.
-/
import Derived.Test.YtfhlhdmhgheonaaGreatDoorGPB
import Derived.Test.YtfhlhdmhgheonaaGreatDoorGV
set_option maxRecDepth 100000
set_option maxHeartbeats 8000000
namespace Go.Proofs.YtfhlhdmhgheonaaGreatDoor
open Go.Shelf Go.RowKit
def Typed (w:World)(S:List Nat):Prop:=∀b∈S,∃e cs,Blk w b e cs∧e≠9∧e≠56
theorem Sl.typed {w:World}{e:TypeId}{size n:Nat}{v:Value}{h:Option Nat}{xs:List Value}(hs:Sl w e size v h n xs)(h1:e≠9)(h2:e≠56):Typed w h.toList:=by
 intro b a
 rcases hs.2 with⟨rfl,_,_⟩|⟨b',off,cap,cur,rfl,_,hB,_⟩
 ·cases a
 ·simp at a
  subst a
  exact⟨e,cur,hB,h1,h2⟩
theorem zh.typed {w:World}{g:Nat}{q:zl}{x:Acc}(h:zh w g q x):Typed w (q.own g):=by
 obtain⟨v,c,d⟩:=h.log
 intro b a
 simp only[zl.own,List.mem_cons,List.mem_append] at a
 rcases a with rfl|rfl|(a|a)|a
 ·exact⟨_,_,h.blk,by decide,by decide⟩
 ·exact⟨_,_,c,by decide,by decide⟩
 ·exact d.typed (by decide) (by decide) b a
 ·exact h.boxes.typed (by decide) (by decide) b a
 ·exact h.mails.typed (by decide) (by decide) b a
theorem zi.typed {w:World}{g:Nat}{q:zl}{x:Acc}(h:zi w g q x):Typed w (q.own g):=by
 obtain⟨v,c,d⟩:=h.log
 intro b a
 simp only[zl.own,List.mem_cons,List.mem_append] at a
 rcases a with rfl|rfl|(a|a)|a
 ·exact⟨_,_,h.blk,by decide,by decide⟩
 ·exact⟨_,_,c,by decide,by decide⟩
 ·exact d.typed (by decide) (by decide) b a
 ·exact h.boxes.typed (by decide) (by decide) b a
 ·exact h.mails.typed (by decide) (by decide) b a
theorem yD.wider {w:World}{T:List Nat}{m:zR}:∀{S:List Nat},Typed w S→yD w T m→yD w (S++T) m
 |[],_,h=>h
 |b :: S,hS,h=>by
  obtain⟨e,cs,hB,h1,h2⟩:=hS b (by simp)
  have hp:=yD.wider (S:=S) (fun b hb=>hS b (List.mem_cons_of_mem _ hb)) h
  exact⟨hp.keys.other hp.tk hB (fun e=>h1 e.symm),hp.mem.other hp.tm hB (fun e=>h2 e.symm),hp.tk,hp.tm⟩
theorem zh.besides {w w':World}{g:Nat}{q:zl}{x:Acc}{S:List Nat}(h:zh w g q x)(hS:Typed w S)(hd:∀b∈q.own g,b∉S)(hc:Chg S w w'):zh w' g q x:=by
 refine⟨h.blk.chg hc (hd g zl.ZP),h.log.chg hc (hd _ zl.Yg) (fun k hk=>hd k (zl.Yp hk)),h.boxes.chg hc (fun k hk=>hd k (zl.vW hk)),h.same,h.mails.chg hc (fun k hk=>hd k (zl.vR hk)),fun m hm=>?_⟩
 exact((h.parts m hm).wider hS).keep hc.size (fun k hk hn=>hc.block k hk (fun hm=>hn (List.mem_append_left _ hm))) (fun k _ hn hk=>hn (List.mem_append_right _ hk))
theorem zi.besides {w w':World}{g:Nat}{q:zl}{x:Acc}{S:List Nat}(h:zi w g q x)(hS:Typed w S)(hd:∀b∈q.own g,b∉S)(hc:Chg S w w'):zi w' g q x:=by
 refine⟨h.blk.chg hc (hd g zl.ZP),h.log.chg hc (hd _ zl.Yg) (fun k hk=>hd k (zl.Yp hk)),h.boxes.chg hc (fun k hk=>hd k (zl.vW hk)),h.same,h.mails.chg hc (fun k hk=>hd k (zl.vR hk)),fun m hm=>?_⟩
 exact((h.parts m hm).wider hS).keep hc.size (fun k hk hn=>hc.block k hk (fun hm=>hn (List.mem_append_left _ hm))) (fun k _ hn hk=>hn (List.mem_append_right _ hk))
structure Both (w wr:World)(g:Nat)(q:zl)(g2:Nat)(q2:zl)(x:Acc):Prop where
 st:xI w wr g q x
 rf:Yr w wr g2 q2 x
 apart:∀b∈q2.own g2,b∉q.own g
section
variable {w wr w1 w2 w3:World} {g g2:Nat} {q q' q2 q2':zl} {x x':Acc}
theorem Both.later (h:Both w wr g q g2 q2 x)(hb:Below wr.heap.size wr w1):Both w w1 g q g2 q2 x:=⟨h.st.later hb,h.rf.later hb,h.apart⟩
theorem Both.half (h:Both w w1 g q g2 q2 x)(ht:Turned w1 w2 g q x' q'):zi w2 g2 q2 x:=h.rf.at_.besides h.st.at_.typed h.apart ht.chg
theorem Both.done (h:Both w w1 g q g2 q2 x)(ht:Turned w1 w2 g q x' q')(hr:ze w2 w3 g2 q2 x' q2'):Both w w3 g q' g2 q2' x':=by
 have a:=h.st.turned ht
 have c:∀b∈q'.own g,b∉q2.own g2:=fun b hb hm=>by
  rcases ht.own b hb with h1|h1
  ·exact h.apart b hm h1
  ·have:=h.rf.at_.lt b hm
   omega
 have e:=(h.half ht).typed
 have f:Yr w w2 g2 q2 x:=⟨h.half ht,a.below,h.rf.own⟩
 have d:Below w.heap.size w w3:=a.below.trans (hr.chg.below a.below.size h.rf.own)
 refine⟨⟨a.at_.besides e c hr.chg,d,a.own⟩,f.turned hr,fun b hb hm=>?_⟩
 rcases hr.own b hb with h1|h1
 ·exact c b hm h1
 ·have:=a.at_.lt b hm
  omega
end
structure vH (w wr:World)(g:Nat)(q:zl)(g2:Nat)(q2:zl)(x:Acc)(bs:List Int)(vb:Value)(ks:zN)(vk:Value)(nm:Text):Prop where
 both:Both w wr g q g2 q2 x
 fit:Fit x
 room:(x.boxes.length:Int)≤x.cfg.maxBoxes
 boxes:RdS w [] 1 vb bs.length (bs.map encI)
 nb:bs.length≤4294967296
 keys:RdS w [] 1 vk ks.length (ks.map encStr)
 nk:ks.length≤1099511627776
 short:Short ks
 text:nm.length≤1099511627776
section
variable {w wr W:World} {g g2:Nat} {q q2:zl} {x:Acc} {bs:List Int} {vb:Value} {ks:zN} {vk:Value} {nm:Text}
theorem vH.app (h:vH w wr g q g2 q2 x bs vb ks vk nm)(hb:Below wr.heap.size wr W):Zx W g q x bs vb [] ks vk [] nm:=
 have h1:=za h.both.st.below hb
 ⟨h.both.st.at_.later hb,h.fit,h.boxes.below h1,h.nb,h.keys.below h1,h.nk,h.short,h.text⟩
theorem vH.YW (h:vH w wr g q g2 q2 x bs vb ks vk nm)(hb:Below w.heap.size w W)(hr:zi W g2 q2 x):xB W g2 q2 x bs vb [] ks vk [] nm:=
 ⟨hr,h.fit,h.boxes.below hb,h.nb,h.keys.below hb,h.nk,h.short,h.text⟩
end
structure Moved (wr w':World)(g:Nat)(q:zl)(g2:Nat)(q2:zl)(q' q2':zl):Prop where
 chg:Chg (q.own g++q2.own g2) wr w'
 own:∀b∈q'.own g++q2'.own g2,b∈q.own g++q2.own g2∨wr.heap.size≤b
def ve (w wr:World)(g:Nat)(q:zl)(g2:Nat)(q2:zl)(x':Acc)(e:Ending)(w':World):Prop:=e=.returned (.bool true)∧∃q' q2',Both w w' g q' g2 q2' x'∧Moved wr w' g q g2 q2 q' q2'
theorem Both.out {w wr w1 w2 w3:World}{g g2:Nat}{q q' q2 q2':zl}{x x':Acc}(h:Both w wr g q g2 q2 x)(hb:Below wr.heap.size wr w1)(ht:Turned w1 w2 g q x' q')(hr:ze w2 w3 g2 q2 x' q2'):ve w wr g q g2 q2 x' (.returned (.bool true)) w3:=by
 refine⟨rfl,q',q2',(h.later hb).done ht hr,?_,fun b hm=>?_⟩
 ·exact((Chg.of_below hb _).trans (ht.chg.mono fun j hj=>.inl (List.mem_append_left _ hj)) (fun i hi=>.inl hi)).trans (hr.chg.mono fun j hj=>.inl (List.mem_append_right _ hj)) (fun i hi=>.inl hi)
 ·rcases List.mem_append.1 hm with h1|h1
  ·rcases ht.own b h1 with h2|h2
   ·exact .inl (List.mem_append_left _ h2)
   ·exact .inr (Nat.le_trans hb.size h2)
  ·rcases hr.own b h1 with h2|h2
   ·exact .inl (List.mem_append_right _ h2)
   ·exact .inr (Nat.le_trans hb.size (Nat.le_trans ht.chg.size h2))
theorem Both.still {w wr w1:World}{g g2:Nat}{q q2:zl}{x:Acc}(h:Both w wr g q g2 q2 x)(hb:Below wr.heap.size wr w1):ve w wr g q g2 q2 x (.returned (.bool true)) w1:=
 ⟨rfl,q,q2,h.later hb,Chg.of_below hb _,fun _ hm=>.inl hm⟩
end Go.Proofs.YtfhlhdmhgheonaaGreatDoor
