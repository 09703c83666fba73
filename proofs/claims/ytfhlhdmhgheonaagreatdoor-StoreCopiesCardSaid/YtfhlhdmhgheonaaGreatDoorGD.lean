/-
  An account in memory: its struct's block, its log, its mailboxes' and emails' blocks; keywords and members of emails in blocks that nothing writes any more. What single steps do to an account in memory: a cell of its struct, of a mailbox, of an email; a mailbox, an email more; the log. The walks of slices.Clone at mailboxes and at members of emails. The walks of slices.IndexFunc and slices.Contain
-/
import Derived.Test.YtfhlhdmhgheonaaGreatDoorGA
import Derived.Test.YtfhlhdmhgheonaaGreatDoorGB
import Derived.Test.YtfhlhdmhgheonaaGreatDoorGC
import Derived.Shelf.SlicesQ.IndexFunc
import Derived.Deep.QuietTactic
import Derived.BigQuiet
import Derived.Deep.RegionLaw
import Derived.Deep.DrawnRows
import Derived.Deep.DeepCutAuto
import Derived.Deep.CutBlock
import Derived.Laws.LoneSync
set_option maxRecDepth 100000
set_option maxHeartbeats 8000000
namespace Go.Proofs.YtfhlhdmhgheonaaGreatDoor
open Go.RowKit
def strV (s:Text):Value:=.string ⟨s.toArray⟩
def xQ (b:yg):List Value:=[.int .i64 b.id,strV b.name,.int .i64 b.parent,.int .i64 b.valid,.int .i64 b.next,.int .i64 b.mod]
def zA (p:Int×Int):List Value:=[.int .i64 p.1,.int .i64 p.2]
structure zR where
 p:zX
 kv:Value
 mv:Value
def xP (m:zR):List Value:=[.int .i64 m.p.id,.int .i64 m.p.thread,strV m.p.text,.int .i64 m.p.at_,m.kv,m.mv,.int .i64 m.p.mod,.int .i64 m.p.born]
def zdx (c:Xv):List Value:=[strV c.user,strV c.pass,.int .i64 c.maxMails,.int .i64 c.maxBoxes,.int .i64 c.maxSize,.int .i64 c.maxUid,.int .i64 c.maxMod,.int .i64 c.maxLog,.int .i64 c.maxGet]
theorem zT (b:yg):(xQ b).length=6:=rfl
theorem zJ (p:Int×Int):(zA p).length=2:=rfl
theorem z8 (m:zR):(xP m).length=8:=rfl
theorem U7 (b:yg):∀u∈xQ b,u.oneCell'=true:=by
 intro u a
 simp only[xQ,List.mem_cons,List.not_mem_nil,or_false] at a
 rcases a with rfl|rfl|rfl|rfl|rfl|rfl <;> rfl
theorem Yz (p:Int×Int):∀u∈zA p,u.oneCell'=true:=by
 intro u a
 simp only[zA,List.mem_cons,List.not_mem_nil,or_false] at a
 rcases a with rfl|rfl <;> rfl
structure zl where
 gl:Nat
 hl:Option Nat
 hb:Option Nat
 hm:Option Nat
 vb:Value
 vm:Value
 ms:List zR
def zl.own (q:zl)(g:Nat):List Nat:=g :: q.gl :: (q.hl.toList++q.hb.toList++q.hm.toList)
theorem zl.Yp {q:zl}{g k:Nat}(h:q.hl=some k):k∈q.own g:=by simp[zl.own,h]
theorem zl.vW {q:zl}{g k:Nat}(h:q.hb=some k):k∈q.own g:=by simp[zl.own,h]
theorem zl.vR {q:zl}{g k:Nat}(h:q.hm=some k):k∈q.own g:=by simp[zl.own,h]
theorem zl.ZP {q:zl}{g:Nat}:g∈q.own g:=by simp[zl.own]
theorem zl.Yg {q:zl}{g:Nat}:q.gl∈q.own g:=by simp[zl.own]
def cellsS (q:zl)(x:Acc):List Value:=zdx x.cfg++[.int .i64 x.clock,q.vb,q.vm,.pointer (some ⟨q.gl,0,none⟩),.int .i64 x.lastBox,.int .i64 x.lastId,.int .i64 x.octets]
def TyS (w:World)(e:TypeId)(v:Value):Prop:=∀a n c,v=.slice (some a) n c→0 < n→∃cs,Blk w a.block e cs
theorem TyS.keep {w w':World}{S:List Nat}{e:TypeId}{size n:Nat}{v:Value}{xs:List Value}(h:TyS w e v)(hr:RdS w S size v n xs)(hk:∀b,b < w.heap.size→b∉S→w'.heap[b]?=w.heap[b]?):TyS w' e v:=by
 intro a m c d f
 obtain⟨g,i⟩:=h a m c d f
 rcases hr.2 with⟨h1,_⟩|⟨a',cap,h1,_,_,h2⟩
 ·rw[h1] at d
  cases d
 ·rw[d] at h1
  injection h1 with e1 e2 _
  injection e1 with e1
  subst e1 e2
  obtain⟨_,j,k,_⟩:=h2 f
  exact⟨g,(hk _ j k).trans i⟩
theorem Sl.ty {w:World}{e:TypeId}{size n:Nat}{v:Value}{h:Option Nat}{xs:List Value}(hs:Sl w e size v h n xs):TyS w e v:=by
 intro a m c d _
 rcases hs.2 with⟨_,h1,_⟩|⟨b,off,cap,cur,_,h1,hB,_⟩
 ·rw[h1] at d
  cases d
 ·rw[h1] at d
  injection d with e1 _ _
  injection e1 with e1
  subst e1
  exact⟨cur,hB⟩
theorem RdS.other {w:World}{S:List Nat}{e e':TypeId}{size n b:Nat}{v:Value}{xs:List Value}{cs:Array Value}(hr:RdS w S size v n xs)(ht:TyS w e v)(hB:Blk w b e' cs)(hne:e≠e'):RdS w (b :: S) size v n xs:=by
 refine⟨hr.1,?_⟩
 rcases hr.2 with h1|⟨a,cap,h1,h2,h3,h4⟩
 ·exact .inl h1
 ·refine .inr ⟨a,cap,h1,h2,h3,fun hn=>?_⟩
  obtain⟨d,f,g,h⟩:=h4 hn
  obtain⟨i,c⟩:=ht a n cap h1 hn
  refine⟨d,f,fun hm=>?_,h⟩
  rcases List.mem_cons.1 hm with h5|h5
  ·exact c.ne hB hne h5
  ·exact g h5
structure yD (w:World)(S:List Nat)(m:zR):Prop where
 keys:RdS w S 1 m.kv m.p.keys.length (m.p.keys.map encStr)
 mem:RdS w S 2 m.mv m.p.members.length (zk zA m.p.members)
 tk:TyS w 9 m.kv
 tm:TyS w 56 m.mv
structure zh (w:World)(g:Nat)(q:zl)(x:Acc):Prop where
 blk:Blk w g 100 (cellsS q x).toArray
 log:uF w q.gl q.hl x.log
 boxes:Sl w 89 6 q.vb q.hb x.boxes.length (zk xQ x.boxes)
 same:q.ms.map (·.p)=x.mails
 mails:Sl w 54 8 q.vm q.hm x.mails.length (zk xP q.ms)
 parts:∀m∈q.ms,yD w (q.own g) m
section
variable {w w':World} {g:Nat} {q:zl} {x:Acc} {S T:List Nat} {m:zR}
theorem yD.keep (h:yD w S m)(hsz:w.heap.size≤w'.heap.size)(hk:∀b,b < w.heap.size→b∉S→w'.heap[b]?=w.heap[b]?)(hT:∀b,b < w.heap.size→b∉S→b∉T):yD w' T m:=
 ⟨h.keys.keep hsz hk hT,h.mem.keep hsz hk hT,h.tk.keep h.keys hk,h.tm.keep h.mem hk⟩
theorem zh.lt (h:zh w g q x):∀k∈q.own g,k < w.heap.size:=by
 intro k a
 obtain⟨v,b,c⟩:=h.log
 simp only[zl.own,List.mem_cons,List.mem_append,Option.mem_toList] at a
 rcases a with rfl|rfl|(a|a)|a
 ·exact h.blk.lt
 ·exact b.lt
 ·exact c.lt k a
 ·exact h.boxes.lt k a
 ·exact h.mails.lt k a
theorem zh.later (h:zh w g q x)(hb:Below w.heap.size w w'):zh w' g q x:=by
 have a:Chg [] w w':=Chg.of_below hb []
 refine⟨h.blk.chg a (by simp),h.log.chg a (by simp) (by simp),h.boxes.chg a (by simp),h.same,h.mails.chg a (by simp),fun m hm=>(h.parts m hm).keep hb.size (fun b hb2 _=>hb.block b hb2) (fun _ _ h=>h)⟩
theorem zh.heap (h:zh w g q x)(he:w'.heap=w.heap)(e1:w'.os=w.os)(e2:w'.tape=w.tape)(e3:w'.output=w.output):zh w' g q x:=
 h.later ⟨e1,e2,e3,by rw[he];exact Nat.le_refl _,fun k _=>by rw[he]⟩
theorem zh.alloc (h:zh w g q x)(o:Obj):zh (w.alloc o) g q x:=h.later ((Below.refl _ w).alloc (Nat.le_refl _) o)
theorem zh.drewN (h:zh w g q x)(n:Nat):zh (w.drewN n) g q x:=h.heap rfl rfl rfl rfl
theorem zh.cells (h:zh w g q x)(j:Nat):w.cell? ⟨g,j,none⟩=(cellsS q x)[j]?:=by
 rw[h.blk.cell]
 simp
theorem zh.yo (h:zh w g q x):w.cell? ⟨g,9,none⟩=some (.int .i64 x.clock):=h.cells 9
theorem zh.zQ (h:zh w g q x):w.cell? ⟨g,10,none⟩=some q.vb:=h.cells 10
theorem zh.zU (h:zh w g q x):w.cell? ⟨g,11,none⟩=some q.vm:=h.cells 11
theorem zh.zV (h:zh w g q x):w.cell? ⟨g,12,none⟩=some (.pointer (some ⟨q.gl,0,none⟩)):=h.cells 12
theorem zh.YD (h:zh w g q x):w.cell? ⟨g,13,none⟩=some (.int .i64 x.lastBox):=h.cells 13
theorem zh.XG (h:zh w g q x):w.cell? ⟨g,14,none⟩=some (.int .i64 x.lastId):=h.cells 14
theorem zh.VK (h:zh w g q x):w.cell? ⟨g,15,none⟩=some (.int .i64 x.octets):=h.cells 15
theorem zh.frozen (h:zh w g q x)(j:Nat):w.frozen? ⟨g,j,none⟩=false:=h.blk.frozen j
end
structure Turned (w w':World)(g:Nat)(q:zl)(x':Acc)(q':zl):Prop where
 at_:zh w' g q' x'
 chg:Chg (q.own g) w w'
 own:∀k∈q'.own g,k∈q.own g∨w.heap.size≤k
section
variable {w w' w'':World} {g:Nat} {q q' q'':zl} {x x' x'':Acc}
theorem Turned.refl (h:zh w g q x):Turned w w g q x q:=⟨h,Chg.refl _ _,fun _ h=>.inl h⟩
theorem Turned.of_below (h:zh w g q x)(hb:Below w.heap.size w w'):Turned w w' g q x q:=⟨h.later hb,Chg.of_below hb _,fun _ h=>.inl h⟩
theorem Turned.trans (h:Turned w w' g q x' q')(k:Turned w' w'' g q' x'' q''):Turned w w'' g q x'' q'':=
 ⟨k.at_,h.chg.trans k.chg h.own,fun i hi=>by
  rcases k.own i hi with h1|h1
  ·exact h.own i h1
  ·exact .inr (Nat.le_trans h.chg.size h1)⟩
end
structure xI (w wr:World)(g:Nat)(q:zl)(x:Acc):Prop where
 at_:zh wr g q x
 below:Below w.heap.size w wr
 own:∀k∈q.own g,w.heap.size≤k
section
variable {w wr w':World} {g:Nat} {q q':zl} {x x':Acc}
theorem xI.later (h:xI w wr g q x)(hb:Below wr.heap.size wr w'):xI w w' g q x:=⟨h.at_.later hb,h.below.trans (hb.mono h.below.size),h.own⟩
theorem xI.turned (h:xI w wr g q x)(k:Turned wr w' g q x' q'):xI w w' g q' x':=
 ⟨k.at_,h.below.trans (k.chg.below h.below.size h.own),fun i hi=>by
  rcases k.own i hi with h1|h1
  ·exact h.own i h1
  ·exact Nat.le_trans h.below.size h1⟩
end
section
variable {w w':World} {g:Nat} {q q':zl} {x x':Acc}
theorem Sl.XR {e e':TypeId}{size size' n n':Nat}{v v':Value}{h h':Option Nat}{xs xs':List Value}(hs:Sl w e size v h n xs)(hs':Sl w e' size' v' h' n' xs')(hne:e≠e'):∀b,h=some b→h'≠some b:=by
 intro b c a
 rcases hs'.2 with⟨hn,_⟩|⟨b',off,cap,cur,hh',_,hB,_⟩
 ·rw[a] at hn
  cases hn
 ·rw[a] at hh'
  obtain rfl:=Option.some.inj hh'
  exact hs.yN hB hne b c rfl
structure Apart (g:Nat)(q:zl):Prop where
 gl:g≠q.gl
 hl:q.hl≠some g
 hb:q.hb≠some g
 hm:q.hm≠some g
 lb:q.hb≠some q.gl
 lm:q.hm≠some q.gl
 ll:q.hl≠some q.gl
 eb:∀b,q.hl=some b→q.hb≠some b
 em:∀b,q.hl=some b→q.hm≠some b
 bm:∀b,q.hb=some b→q.hm≠some b
theorem zh.apart (h:zh w g q x):Apart g q:=by
 obtain⟨v,a,b⟩:=h.log
 exact⟨h.blk.ne a (by decide),fun e=>b.yN h.blk (by decide) g e rfl,fun e=>h.boxes.yN h.blk (by decide) g e rfl,fun e=>h.mails.yN h.blk (by decide) g e rfl,fun e=>h.boxes.yN a (by decide) _ e rfl,fun e=>h.mails.yN a (by decide) _ e rfl,
  fun e=>b.yN a (by decide) _ e rfl,b.XR h.boxes (by decide),b.XR h.mails (by decide),h.boxes.XR h.mails (by decide)⟩
theorem yD.step {m:zR}(h:yD w (q.own g) m)(hc:Chg (q.own g) w w')(ho:∀k∈q'.own g,k∈q.own g∨w.heap.size≤k):yD w' (q'.own g) m:=
 h.keep hc.size hc.block fun b hb hn hm=>by
  rcases ho b hm with h1|h1
  ·exact hn h1
  ·omega
theorem zh.yj (h:zh w g q x)(j:Nat)(u:Value)(x':Acc)(hcells:cellsS q x'=(cellsS q x).set j u)(hb:x'.boxes=x.boxes)(hm:x'.mails=x.mails)(hl:x'.log=x.log):Turned w (w.setCell ⟨g,j,none⟩ u) g q x' q:=by
 have c:=h.apart
 have d:Chg [g] w (w.setCell ⟨g,j,none⟩ u):=(Chg.refl [g] w).set (.inl (by simp)) u
 have a:Chg (q.own g) w (w.setCell ⟨g,j,none⟩ u):=d.mono fun k hk=>by
  simp only[List.mem_singleton] at hk
  subst hk
  exact .inl zl.ZP
 refine⟨⟨?_,?_,?_,?_,?_,fun m hmm=>(h.parts m hmm).step a (fun k hk=>.inl hk)⟩,a,fun k hk=>.inl hk⟩
 ·have:=h.blk.set j u
  rw[show (cellsS q x').toArray=(cellsS q x).toArray.setIfInBounds j u from by rw[hcells];simp]
  exact this
 ·rw[hl]
  exact h.log.chg d (by simpa using fun e=>c.gl e.symm) (fun b hb=>by
   simp only[List.mem_singleton]
   rintro rfl
   exact c.hl hb)
 ·rw[hb]
  exact h.boxes.far (p:=⟨g,j,none⟩) c.hb u
 ·rw[hm]
  exact h.same
 ·rw[hm]
  exact h.mails.far (p:=⟨g,j,none⟩) c.hm u
theorem zh.yw (h:zh w g q x){b off n cap:Nat}(hv:q.vb=.slice (some ⟨b,off,none⟩) n cap)(i:Nat)(hi:i < x.boxes.length)(j:Nat)(hj:j < 6)(u:Value)(y:yg)(hy:xQ y=(xQ x.boxes[i]).set j u) :
  Turned w (w.setCell ⟨b,off+i * 6+j,none⟩ u) g q {x with boxes:=x.boxes.set i y} q:=by
 have o:=h.apart
 have d:=h.boxes
 rw[hv] at d
 have B:n=x.boxes.length:=by
  obtain⟨A,c,f,_⟩:=d.form
  injection f
 subst B
 have a:q.hb=some b:=by
  obtain⟨D,v,z,C,f,_⟩:=d.at_ (by omega)
  injection f with e1
  injection e1 with e2
  injection e2 with e3
  rw[C,e3]
 have r:g≠b:=fun e=>o.hb (by rw[a,e])
 have t:Chg [b] w (w.setCell ⟨b,off+i * 6+j,none⟩ u):=(Chg.refl [b] w).set (.inl (by simp)) u
 have l:Chg (q.own g) w (w.setCell ⟨b,off+i * 6+j,none⟩ u):=t.mono fun k hk=>by
  simp only[List.mem_singleton] at hk
  subst hk
  exact .inl (zl.vW a)
 refine⟨⟨h.blk.far (p:=⟨b,off+i * 6+j,none⟩) r u,?_,?_,h.same,?_,fun m hmm=>(h.parts m hmm).step l (fun k hk=>.inl hk)⟩,l,fun k hk=>.inl hk⟩
 ·exact h.log.chg t (by simp only[List.mem_singleton];rintro e;exact o.lb (by rw[a,e])) (fun k hk=>by
   simp only[List.mem_singleton]
   rintro rfl
   exact o.eb _ hk a)
 ·have s:=d.store (i * 6+j) u
  rw[vo zT x.boxes i j hi hj u y hy] at s
  rw[hv]
  show Sl _ _ 6 _ q.hb (x.boxes.set i y).length (zk xQ (x.boxes.set i y))
  rw[List.length_set]
  rw[←Nat.add_assoc] at s
  exact s
 ·exact h.mails.far (p:=⟨b,off+i * 6+j,none⟩) (fun e=>o.bm b a e) u
theorem zh.zdF (h:zh w g q x){l:Yc}{hl':Option Nat}(hl:uF w' q.gl hl' l)(hc:Chg (q.gl :: q.hl.toList) w w')(ho:hl'=q.hl∨∃k,hl'=some k∧w.heap.size≤k):Turned w w' g q {x with log:=l} {q with hl:=hl'}:=by
 have c:=h.apart
 have f:Chg (q.own g) w w':=hc.mono fun k d=>by
  rcases List.mem_cons.1 d with rfl|d
  ·exact .inl zl.Yg
  ·exact .inl (zl.Yp (by simpa using d))
 have a:∀k∈({q with hl:=hl'}:zl).own g,k∈q.own g∨w.heap.size≤k:=by
  intro k d
  simp only[zl.own,List.mem_cons,List.mem_append,Option.mem_toList] at d ⊢
  rcases d with h1|h1|(h1|h1)|h1
  ·exact .inl (.inl h1)
  ·exact .inl (.inr (.inl h1))
  ·rcases ho with h2|⟨k2,h2,h3⟩
   ·rw[h2] at h1
    exact .inl (.inr (.inr (.inl (.inl h1))))
   ·rw[h2] at h1
    injection h1 with h1
    exact .inr (by omega)
  ·exact .inl (.inr (.inr (.inl (.inr h1))))
  ·exact .inl (.inr (.inr (.inr h1)))
 refine⟨⟨?_,hl,?_,h.same,?_,fun m hmm=>(h.parts m hmm).step f a⟩,f,a⟩
 ·exact h.blk.chg hc (by
   simp only[List.mem_cons,Option.mem_toList,not_or]
   exact⟨c.gl,c.hl⟩)
 ·exact h.boxes.chg hc (fun b hb=>by
   simp only[List.mem_cons,Option.mem_toList,not_or]
   exact⟨fun e=>c.lb (by rw[hb,e]),fun e=>c.eb b e hb⟩)
 ·exact h.mails.chg hc (fun b hb=>by
   simp only[List.mem_cons,Option.mem_toList,not_or]
   exact⟨fun e=>c.lm (by rw[hb,e]),fun e=>c.em b e hb⟩)
theorem zh.zaG (h:zh w g q x)(y:yg){v':Value}{h':Option Nat}(hs:Sl w' 89 6 v' h' (x.boxes.length+1) (zk xQ x.boxes++xQ y))(hc:Chg q.hb.toList w w')(ho:h'=q.hb∨∃k,h'=some k∧w.heap.size≤k) :
  Turned w (w'.setCell ⟨g,10,none⟩ v') g q {x with boxes:=x.boxes++[y]} {q with hb:=h',vb:=v'}:=by
 have d:=h.apart
 have o:g < w.heap.size:=h.blk.lt
 have f:∀k,h'=some k→(q.hb=some k)∨w.heap.size≤k:=by
  intro k c
  rcases ho with h2|⟨k2,h2,h3⟩
  ·exact .inl (by rw[←h2];exact c)
  ·rw[h2] at c
   injection c with c
   exact .inr (by omega)
 have n:h'≠some g:=fun e=>by
  rcases f g e with a|a
  ·exact d.hb a
  ·omega
 have j:Chg (q.own g) w (w'.setCell ⟨g,10,none⟩ v'):=(hc.mono fun k c=>.inl (zl.vW (by simpa using c))).set (p:=⟨g,10,none⟩) (.inl zl.ZP) v'
 have i:∀k∈({q with hb:=h',vb:=v'}:zl).own g,k∈q.own g∨w.heap.size≤k:=by
  intro k c
  simp only[zl.own,List.mem_cons,List.mem_append,Option.mem_toList] at c ⊢
  rcases c with a|a|(a|a)|a
  ·exact .inl (.inl a)
  ·exact .inl (.inr (.inl a))
  ·exact .inl (.inr (.inr (.inl (.inl a))))
  ·rcases f k a with h2|h2
   ·exact .inl (.inr (.inr (.inl (.inr h2))))
   ·exact .inr h2
  ·exact .inl (.inr (.inr (.inr a)))
 have l:Chg (g :: q.hb.toList) w (w'.setCell ⟨g,10,none⟩ v'):=(hc.mono fun k c=>.inl (List.mem_cons_of_mem _ c)).set (.inl (by simp)) v'
 refine⟨⟨?_,?_,?_,h.same,?_,fun m hmm=>(h.parts m hmm).step j i⟩,j,i⟩
 ·have r:=(h.blk.chg hc (by simpa using d.hb)).set 10 v'
  exact r
 ·exact h.log.chg l (by
   simp only[List.mem_cons,Option.mem_toList,not_or]
   exact⟨fun e=>d.gl e.symm,d.lb⟩) (fun b hb=>by
   simp only[List.mem_cons,Option.mem_toList,not_or]
   exact⟨fun e=>d.hl (by rw[hb,e]),d.eb b hb⟩)
 ·have a:=hs.far (p:=⟨g,10,none⟩) n v'
  show Sl _ _ 6 v' h' (x.boxes++[y]).length (zk xQ (x.boxes++[y]))
  rw[List.length_append,List.length_singleton,vJ]
  exact a
 ·exact h.mails.chg l (fun b hb=>by
   simp only[List.mem_cons,Option.mem_toList,not_or]
   exact⟨fun e=>d.hm (by rw[hb,e]),fun e=>d.bm b e hb⟩)
theorem zh.U8 (h:zh w g q x)(m:zR){v':Value}{h':Option Nat}(hp:yD w (q.own g) m)(hs:Sl w' 54 8 v' h' (x.mails.length+1) (zk xP q.ms++xP m))(hc:Chg q.hm.toList w w')(ho:h'=q.hm∨∃k,h'=some k∧w.heap.size≤k) :
  Turned w (w'.setCell ⟨g,11,none⟩ v') g q {x with mails:=x.mails++[m.p]} {q with hm:=h',vm:=v',ms:=q.ms++[m]}:=by
 have i:=h.apart
 have r:g < w.heap.size:=h.blk.lt
 have j:∀k,h'=some k→(q.hm=some k)∨w.heap.size≤k:=by
  intro k f
  rcases ho with h2|⟨k2,h2,h3⟩
  ·exact .inl (by rw[←h2];exact f)
  ·rw[h2] at f
   injection f with f
   exact .inr (by omega)
 have o:h'≠some g:=fun e=>by
  rcases j g e with c|c
  ·exact i.hm c
  ·omega
 have l:Chg (q.own g) w (w'.setCell ⟨g,11,none⟩ v'):=(hc.mono fun k f=>.inl (zl.vR (by simpa using f))).set (p:=⟨g,11,none⟩) (.inl zl.ZP) v'
 have d:∀k∈({q with hm:=h',vm:=v',ms:=q.ms++[m]}:zl).own g,k∈q.own g∨w.heap.size≤k:=by
  intro k f
  simp only[zl.own,List.mem_cons,List.mem_append,Option.mem_toList] at f ⊢
  rcases f with c|c|(c|c)|c
  ·exact .inl (.inl c)
  ·exact .inl (.inr (.inl c))
  ·exact .inl (.inr (.inr (.inl (.inl c))))
  ·exact .inl (.inr (.inr (.inl (.inr c))))
  ·rcases j k c with h2|h2
   ·exact .inl (.inr (.inr (.inr h2)))
   ·exact .inr h2
 have n:Chg (g :: q.hm.toList) w (w'.setCell ⟨g,11,none⟩ v'):=(hc.mono fun k f=>.inl (List.mem_cons_of_mem _ f)).set (.inl (by simp)) v'
 refine⟨⟨?_,?_,?_,?_,?_,fun a ha2=>?_⟩,l,d⟩
 ·have s:=(h.blk.chg hc (by simpa using i.hm)).set 11 v'
  exact s
 ·exact h.log.chg n (by
   simp only[List.mem_cons,Option.mem_toList,not_or]
   exact⟨fun e=>i.gl e.symm,i.lm⟩) (fun b hb=>by
   simp only[List.mem_cons,Option.mem_toList,not_or]
   exact⟨fun e=>i.hl (by rw[hb,e]),i.em b hb⟩)
 ·exact h.boxes.chg n (fun b hb=>by
   simp only[List.mem_cons,Option.mem_toList,not_or]
   exact⟨fun e=>i.hb (by rw[hb,e]),i.bm b hb⟩)
 ·show (q.ms++[m]).map (·.p)=x.mails++[m.p]
  rw[List.map_append,h.same]
  rfl
 ·have c:=hs.far (p:=⟨g,11,none⟩) o v'
  show Sl _ _ 8 v' h' (x.mails++[m.p]).length (zk xP (q.ms++[m]))
  rw[List.length_append,List.length_singleton,vJ]
  exact c
 ·rcases List.mem_append.1 ha2 with c|c
  ·exact(h.parts a c).step l d
  ·rw[List.mem_singleton] at c
   subst c
   exact hp.step l d
theorem zh.Zp (h:zh w g q x)(i:Nat)(hi:i < x.boxes.length):∃b off cap,q.vb=.slice (some ⟨b,off,none⟩) x.boxes.length cap∧q.hb=some b∧x.boxes.length≤cap∧cap≤maxLen∧b < w.heap.size∧
  ∀j,j < 6→w.cell? ⟨b,off+i * 6+j,none⟩=(xQ x.boxes[i])[j]?∧w.frozen? ⟨b,off+i * 6+j,none⟩=false:=by
 obtain⟨b,off,cap,f,k,l,m,n,c⟩:=h.boxes.at_ (by omega)
 refine⟨b,off,cap,k,f,l,m,n,fun j hj=>?_⟩
 have a:i * 6+j < x.boxes.length * 6:=by omega
 obtain⟨d,e⟩:=c (i * 6+j) a
 rw[←Nat.add_assoc] at d e
 exact⟨d.trans (zy zT x.boxes i j hi hj),e⟩
theorem zh.Za (h:zh w g q x):q.ms.length=x.mails.length:=by
 rw[←h.same,List.length_map]
theorem zh.msAt (h:zh w g q x)(i:Nat)(hi:i < x.mails.length)(hi2:i < q.ms.length):q.ms[i].p=x.mails[i]:=by
 have b:=h.same
 have a:(q.ms.map (·.p))[i]?=x.mails[i]?:=by rw[b]
 rw[List.getElem?_map,List.getElem?_eq_getElem hi2,List.getElem?_eq_getElem hi] at a
 exact Option.some.inj a
theorem zh.xu (h:zh w g q x)(i:Nat)(hi:i < x.mails.length)(hi2:i < q.ms.length):∃b off cap,q.vm=.slice (some ⟨b,off,none⟩) x.mails.length cap∧q.hm=some b∧x.mails.length≤cap∧cap≤maxLen∧b < w.heap.size∧
  ∀j,j < 8→w.cell? ⟨b,off+i * 8+j,none⟩=(xP q.ms[i])[j]?∧w.frozen? ⟨b,off+i * 8+j,none⟩=false:=by
 obtain⟨b,off,cap,f,k,l,m,n,c⟩:=h.mails.at_ (by omega)
 refine⟨b,off,cap,k,f,l,m,n,fun j hj=>?_⟩
 have a:i * 8+j < x.mails.length * 8:=by omega
 obtain⟨d,e⟩:=c (i * 8+j) a
 rw[←Nat.add_assoc] at d e
 exact⟨d.trans (zy z8 q.ms i j hi2 hj),e⟩
theorem zh.vD (h:zh w g q x){b off n cap:Nat}(hv:q.vm=.slice (some ⟨b,off,none⟩) n cap)(i:Nat)(hi:i < x.mails.length)(hi2:i < q.ms.length)(j:Nat)(hj:j < 8)(u:Value)(m:zR)(hm:xP m=(xP q.ms[i]).set j u)(hp:yD w (q.own g) m) :
  Turned w (w.setCell ⟨b,off+i * 8+j,none⟩ u) g q {x with mails:=x.mails.set i m.p} {q with ms:=q.ms.set i m}:=by
 have t:=h.apart
 have l:=h.mails
 rw[hv] at l
 have C:n=x.mails.length:=by
  obtain⟨A,c,s,_⟩:=l.form
  injection s
 subst C
 have d:q.hm=some b:=by
  obtain⟨E,z,B,D,s,_⟩:=l.at_ (by omega)
  injection s with e1
  injection e1 with e2
  injection e2 with e3
  rw[D,e3]
 have v:g≠b:=fun e=>t.hm (by rw[d,e])
 have y:Chg [b] w (w.setCell ⟨b,off+i * 8+j,none⟩ u):=(Chg.refl [b] w).set (.inl (by simp)) u
 have o:Chg (q.own g) w (w.setCell ⟨b,off+i * 8+j,none⟩ u):=y.mono fun k hk=>by
  simp only[List.mem_singleton] at hk
  subst hk
  exact .inl (zl.vR d)
 have f:∀k∈({q with ms:=q.ms.set i m}:zl).own g,k∈q.own g∨w.heap.size≤k:=fun k hk=>.inl hk
 refine⟨⟨h.blk.far (p:=⟨b,off+i * 8+j,none⟩) v u,?_,?_,?_,?_,fun a ha2=>?_⟩,o,f⟩
 ·exact h.log.chg y (by simp only[List.mem_singleton];rintro e;exact t.lm (by rw[d,e])) (fun k hk=>by
   simp only[List.mem_singleton]
   rintro rfl
   exact t.em _ hk d)
 ·exact h.boxes.far (p:=⟨b,off+i * 8+j,none⟩) (fun e=>t.bm b e d) u
 ·show (q.ms.set i m).map (·.p)=x.mails.set i m.p
  rw[List.map_set,h.same]
 ·have r:=l.store (i * 8+j) u
  rw[vo z8 q.ms i j hi2 hj u m hm] at r
  rw[hv]
  show Sl _ _ 8 _ q.hm (x.mails.set i m.p).length (zk xP (q.ms.set i m))
  rw[List.length_set]
  rw[←Nat.add_assoc] at r
  exact r
 ·rcases List.mem_or_eq_of_mem_set ha2 with r|r
  ·exact(h.parts a r).step o f
  ·subst r
   exact hp.step o f
theorem VG {gl b:Nat}{c:Xv}(hB:Blk w g 100 (cellsS ⟨gl,none,some b,none,.slice (some ⟨b,0,none⟩) 1 1,.slice none 0 0,[]⟩ (newP c)).toArray)(hl:uF w gl none ⟨c.maxLog,[],0⟩)(hb:Blk w b 89 (xQ ⟨1,uH,0,1,1,1⟩).toArray):zh w g ⟨gl,none,some b,none,.slice (some ⟨b,0,none⟩) 1 1,.slice none 0 0,[]⟩ (newP c):=by
 refine⟨hB,hl,⟨rfl,.inr ⟨b,0,1,_,rfl,rfl,hb,Nat.le_refl _,by unfold maxLen;omega,by simp[xQ],?_⟩⟩,rfl,Sl.nil _ _ _,fun m hm=>by simp at hm⟩
 simp[newP,zk,xQ]
end
end Go.Proofs.YtfhlhdmhgheonaaGreatDoor
namespace Go.Proofs.YtfhlhdmhgheonaaGreatDoor
open Go.RowKit
attribute [local go_sem ↓] Go.wp_at_zero Go.wp_at_succ
theorem Try.infoBox:(Tryz.prog.info? 89).map (fun i=>(i.zero,i.size,i.bytes))=some (some (.agg #[.int .i64 0,.string ⟨#[]⟩,.int .i64 0,.int .i64 0,.int .i64 0,.int .i64 0]),6,56):=by kernel_rfl
theorem Try.infoMember:(Tryz.prog.info? 56).map (fun i=>(i.zero,i.size,i.bytes))=some (some (.agg #[.int .i64 0,.int .i64 0]),2,16):=by kernel_rfl
theorem zbX (w:World)(v:Value)(n:Nat)(xs:List Value)(hr:RdS w [] 6 v n xs)(h1:∀u∈xs,u.oneCell'=true)(hn:n≤1099511627776) :
  Calls Tryz.prog 100 #[v] w fun e w'=>∃v' h',e=.returned v'∧Sl w' 89 6 v' h' n xs∧Below w.heap.size w w'∧∀b,h'=some b→w.heap.size≤b:=by
 obtain⟨B,y,o,p,q⟩:=info_parts Try.infoBox
 rcases hr with⟨hlen,⟨rfl,rfl⟩|⟨a,cap,rfl,hnc,hcm,hcell⟩⟩
 ·have x:xs=[]:=List.eq_nil_of_length_eq_zero (by simpa using hlen)
  subst x
  have l:=fun W=>Lib.run_eql_slice_nil (P:=Tryz.prog) W 42 89 none 0 0 0 0 Tryz.underlying42
  go_enter Tryz.func100,Tryz.ntmps100
  go_wp2
  go_ret
  exact⟨_,none,rfl,Sl.nil _ _ _,Below.refl _ _,fun b d=>by cases d⟩
 ·have l:=fun W=>Lib.run_eql_slice_nil (P:=Tryz.prog) W 42 89 (some a) n cap 0 0 Tryz.underlying42
  have f:=uD a hlen hcell
  go_enter Tryz.func100,Tryz.ntmps100
  go_wp2_with (at_builtin;refine yA _ rfl _ _ 42 rfl Tryz.underlying42 y o p q rfl (by decide) (xg w 89 6) rfl a n cap xs rfl hlen ?_ h1 ?_ ?_ ?_)
  ·intro j u s
   have d:=World.block_lt_of_cell? w _ (f j u s)
   rw[World.cell?_alloc_lt w _ _ d]
   exact f j u s
  ·unfold maxLen
   omega
  ·omega
  ·intro z t A r c i
   have h:Below w.heap.size w A:=⟨c.os,c.tape,c.output,Nat.le_trans (by simp) c.size,fun k hk=>(c.block k (by simp;omega) (by simp;omega)).trans (Below.heap_alloc w _ k hk)⟩
   have m:∀b,t=some b→w.heap.size≤b:=by
    intro b d
    rcases i with h3|⟨g,h3,h4⟩
    ·rw[d] at h3
     injection h3 with h3
     omega
    ·rw[d] at h3
     injection h3 with h3
     omega
   clear c i
   go_wp2
   go_ret
   exact⟨z,t,rfl,r,h,m⟩
theorem XC (w:World)(v:Value)(n:Nat)(xs:List Value)(hr:RdS w [] 2 v n xs)(h1:∀u∈xs,u.oneCell'=true)(hn:n≤1099511627776) :
  Calls Tryz.prog 140 #[v] w fun e w'=>∃v' h',e=.returned v'∧Sl w' 56 2 v' h' n xs∧Below w.heap.size w w'∧∀b,h'=some b→w.heap.size≤b:=by
 obtain⟨B,y,o,p,q⟩:=info_parts Try.infoMember
 rcases hr with⟨hlen,⟨rfl,rfl⟩|⟨a,cap,rfl,hnc,hcm,hcell⟩⟩
 ·have x:xs=[]:=List.eq_nil_of_length_eq_zero (by simpa using hlen)
  subst x
  have l:=fun W=>Lib.run_eql_slice_nil (P:=Tryz.prog) W 52 56 none 0 0 0 0 Tryz.underlying52
  go_enter Tryz.func140,Tryz.ntmps140
  go_wp2
  go_ret
  exact⟨_,none,rfl,Sl.nil _ _ _,Below.refl _ _,fun b d=>by cases d⟩
 ·have l:=fun W=>Lib.run_eql_slice_nil (P:=Tryz.prog) W 52 56 (some a) n cap 0 0 Tryz.underlying52
  have f:=uD a hlen hcell
  go_enter Tryz.func140,Tryz.ntmps140
  go_wp2_with (at_builtin;refine yA _ rfl _ _ 52 rfl Tryz.underlying52 y o p q rfl (by decide) (xg w 56 2) rfl a n cap xs rfl hlen ?_ h1 ?_ ?_ ?_)
  ·intro j u s
   have d:=World.block_lt_of_cell? w _ (f j u s)
   rw[World.cell?_alloc_lt w _ _ d]
   exact f j u s
  ·unfold maxLen
   omega
  ·omega
  ·intro z t A r c i
   have h:Below w.heap.size w A:=⟨c.os,c.tape,c.output,Nat.le_trans (by simp) c.size,fun k hk=>(c.block k (by simp;omega) (by simp;omega)).trans (Below.heap_alloc w _ k hk)⟩
   have m:∀b,t=some b→w.heap.size≤b:=by
    intro b d
    rcases i with h3|⟨g,h3,h4⟩
    ·rw[d] at h3
     injection h3 with h3
     omega
    ·rw[d] at h3
     injection h3 with h3
     omega
   clear c i
   go_wp2
   go_ret
   exact⟨z,t,rfl,r,h,m⟩
end Go.Proofs.YtfhlhdmhgheonaaGreatDoor
namespace Go.Proofs.YtfhlhdmhgheonaaGreatDoor
open Go.Shelf Go.RowKit Go.Lib
attribute [local go_sem ↓] Go.wp_at_zero Go.wp_at_succ
theorem ZG {α:Type}[Inhabited α](p:α→Bool):∀(l:List α) (k:Nat),k < l.length→p l[k]! =true→(∀j,j < k→p l[j]! =false)→place p l=k
 |x :: r,0,_,h,_=>by
  have:p x=true:=by simpa using h
  simp[place,this]
 |x :: r,k+1,hk,h,hj=>by
  have a:p x=false:=by simpa using hj 0 (by omega)
  have b:=ZG p r k (by simpa using hk) (by simpa using h) (fun j hj2=>by simpa using hj (j+1) (by omega))
  unfold place
  rw[a,b]
  simp
  omega
theorem Zu {α:Type}[Inhabited α](p:α→Bool)(l:List α)(h:∀j,j < l.length→p l[j]! =false):place p l= -1:=by
 refine VQ p l ?_
 rw[List.any_eq_false]
 intro x b
 obtain⟨j,a,rfl⟩:=List.getElem_of_mem b
 have:=h j a
 rw[getElem!_pos l j a] at this
 simp[this]
theorem ZJ {α:Type}(p:α→Bool)(l:List α):l.any p=decide (0≤place p l):=by
 cases h:l.any p with
 |true=>simp[Vu p l h]
 |false=>simp[VQ p l h]
theorem len6 {l:List Value}(h:l.length=6):∃a b c d e f,l=[a,b,c,d,e,f]:=by
 rcases l with _|⟨a,_|⟨b,_|⟨c,_|⟨d,_|⟨e,_|⟨f,_|⟨u,v⟩⟩⟩⟩⟩⟩⟩ <;> first|exact⟨_,_,_,_,_,_,rfl⟩|(exfalso;simp at h;done)|(exfalso;simp at h;omega)
theorem len8 {l:List Value}(h:l.length=8):∃a b c d e f i j,l=[a,b,c,d,e,f,i,j]:=by
 rcases l with _|⟨a,_|⟨b,_|⟨c,_|⟨d,_|⟨e,_|⟨f,_|⟨i,_|⟨j,_|⟨u,v⟩⟩⟩⟩⟩⟩⟩⟩⟩ <;> first|exact⟨_,_,_,_,_,_,_,_,rfl⟩|(exfalso;simp at h;done)|(exfalso;simp at h;omega)
theorem len2 {l:List Value}(h:l.length=2):∃a b,l=[a,b]:=by
 rcases l with _|⟨a,_|⟨b,_|⟨u,v⟩⟩⟩ <;> first|exact⟨_,_,rfl⟩|(exfalso;simp at h;done)|(exfalso;simp at h;omega)
theorem Xd {α:Type}[Inhabited α]{l:List α}{j:Nat}(hj:j < l.length):l[j]!∈l:=by
 rw[getElem!_pos l j hj]
 exact List.getElem_mem hj
instance:Inhabited zR:=⟨⟨default,default,default⟩⟩
theorem idxB_own {α:Type}[Inhabited α](enc:α→List Value)(hk:∀x,(enc x).length=6)(p:α→Bool)(g:Nat)(lb:Array Value)(eg:∀args w,(callFunc g args).run Tryz.prog w=.ok (.enter g args) w)(b off n c:Nat)(zs:List α)(w:World)(hp:∀W,Below w.heap.size w W→∀x∈zs,Calls Tryz.prog g (#[.agg (enc x).toArray]++lb) W fun e w'=>e=.returned (.bool (p x))∧Below w.heap.size w w')(hz:zs.length=n)(hbig:n≤9223372036854775807)(hb:b < w.heap.size)(hc:∀j,j < zs.length→∀i v,(enc zs[j]!)[i]?=some v→w.cell? ⟨b,off+j * 6+i,none⟩=some v) :
  Calls Tryz.prog 152 #[.slice (some ⟨b,off,none⟩) n c,.func (.func g) #[] lb] w fun e w'=>e=.returned (.int .i64 (place p zs))∧Below w.heap.size w w':=by
 have h:∀(W:World),Below w.heap.size w W→∀j,j < zs.length→∀i v,(enc zs[j]!)[i]?=some v→W.cell? ⟨b,off+j * 6+i,none⟩=some v:=fun W hW j hj i v hi=>(hW.cell (p:=⟨b,off+j * 6+i,none⟩) hb).trans (hc j hj i v hi)
 clear hc
 go_enter Tryz.func152,Tryz.ntmps152
 go_wp2
 go_loopg [5,8] n (fun gg _ s8 wr=>∃d:Nat,d≤n∧n - d≤gg∧s8=.int .i64 d∧Aside (Below w.heap.size w wr)∧Aside (∀j,j < d→p zs[j]! =false))
 case atStart=>exact⟨0,Nat.zero_le _,by omega,rfl,Below.refl _ w,fun j hj=>absurd hj (Nat.not_lt_zero _)⟩
 case round=>
  obtain⟨d,F,N,rfl,o,A⟩:=hrel
  by_cases E:d < n
  ·have l:(d:Int) < (n:Int):=by omega
   have f:=h wr o.out d (by omega)
   have a:=hp wr o.out zs[d]! (Xd (by omega))
   clear h hp
   generalize D:zs[d]! =y at f a
   have B:Aside (zs[d]! =y):=D
   clear D
   obtain⟨q,r,s,t,u,z,C⟩:=len6 (hk y)
   rw[C] at f a
   have G:wr.cell? ⟨b,off+d * 6,none⟩=some q:=f 0 q rfl
   have H:wr.cell? ⟨b,off+d * 6+1,none⟩=some r:=f 1 r rfl
   have I:wr.cell? ⟨b,off+d * 6+2,none⟩=some s:=f 2 s rfl
   have J:wr.cell? ⟨b,off+d * 6+3,none⟩=some t:=f 3 t rfl
   have K:wr.cell? ⟨b,off+d * 6+4,none⟩=some u:=f 4 u rfl
   have L:wr.cell? ⟨b,off+d * 6+5,none⟩=some z:=f 5 z rfl
   have a:Calls Tryz.prog g (#[.agg #[q,r,s,t,u,z]]++lb) wr fun e w'=>e=.returned (.bool (p y))∧Below w.heap.size w w':=a
   have M:=zdG C
   clear f C
   cases m:p y with
   |true=>
    rw[m] at a
    go_wp2_with (go_at_fn g;refine a.mono ?_;rintro e w' ⟨rfl,k⟩)
    go_ret
    refine⟨?_,k⟩
    rw[ZG p zs d (by omega) (by rw[B.out];exact m) A.out]
    rfl
   |false=>
    rw[m] at a
    go_wp2_with (go_at_fn g;refine a.mono ?_;rintro e w' ⟨rfl,k⟩)
    go_roundg (n - (d+1))
    case measure=>omega
    case rel=>
     refine⟨d+1,by omega,by omega,by go_num,k,(show Aside _ from fun j hj=>?_)⟩
     by_cases e:j=d
     ·subst e
      rw[B.out];exact m
     ·exact A.out j (by omega)
  ·have l:¬(d:Int) < (n:Int):=by omega
   have:d=n:=by omega
   subst this
   go_wp2
   go_ret
   refine⟨?_,o.out⟩
   rw[Zu p zs (fun j hj=>A.out j (by omega))]
   rfl
theorem zb2 (a:Option Addr)(c:Nat)(fv:Value)(w:World) :
  Calls Tryz.prog 152 #[.slice a 0 c,fv] w fun e w'=>e=.returned (.int .i64 (-1))∧w'=w:=by
 go_enter Tryz.func152,Tryz.ntmps152
 go_wp2
 go_loopg [5,8] 0 (fun _ _ s8 wr=>s8=.int .i64 0∧wr=w)
 case atStart=>exact⟨rfl,rfl⟩
 case round=>
  obtain⟨rfl,rfl⟩:=hrel
  go_wp2
  go_ret
  exact⟨rfl,rfl⟩
theorem UK (v:Value)(S:List Nat)(l:List yg)(p:yg→Bool)(g:Nat)(lb:Array Value)(eg:∀args w,(callFunc g args).run Tryz.prog w=.ok (.enter g args) w)(w:World)(hr:RdS w S 6 v l.length (zk xQ l))(hn:l.length≤1099511627776)(hp:∀W,Below w.heap.size w W→∀x∈l,Calls Tryz.prog g (#[.agg (xQ x).toArray]++lb) W fun e w'=>e=.returned (.bool (p x))∧Below w.heap.size w w') :
  Calls Tryz.prog 152 #[v,.func (.func g) #[] lb] w fun e w'=>e=.returned (.int .i64 (place p l))∧Below w.heap.size w w':=by
 rcases Nat.eq_zero_or_pos l.length with h0|hpos
 ·obtain rfl:l=[]:=List.eq_nil_of_length_eq_zero h0
  obtain⟨A,a,rfl,_,_⟩:=hr.form
  refine(zb2 A a _ w).mono ?_
  rintro e w' ⟨rfl,rfl⟩
  exact⟨rfl,Below.refl _ _⟩
 ·obtain⟨b,c,a,rfl,_,_,d,_,f⟩:=hr.at_ hpos
  exact idxB_own xQ zT p g lb eg b c l.length a l w hp rfl (by omega) d (fun j hj i v hv=>by
   rw[getElem!_pos l j hj] at hv
   have h:i < 6:=by
    have:=(List.getElem?_eq_some_iff.1 hv).1
    rw[zT] at this
    exact this
   rw[show c+j * 6+i=c+(j * 6+i) by omega,f _ (by omega),zy zT l j i hj h]
   exact hv)
theorem XY (v:Value)(S:List Nat)(l:List yg)(p:yg→Bool)(g:Nat)(lb:Array Value)(eg:∀args w,(callFunc g args).run Tryz.prog w=.ok (.enter g args) w)(w:World)(hr:RdS w S 6 v l.length (zk xQ l))(hn:l.length≤1099511627776)(hp:∀W,Below w.heap.size w W→∀x∈l,Calls Tryz.prog g (#[.agg (xQ x).toArray]++lb) W fun e w'=>e=.returned (.bool (p x))∧Below w.heap.size w w') :
  Calls Tryz.prog 68 #[v,.func (.func g) #[] lb] w fun e w'=>e=.returned (.bool (l.any p))∧Below w.heap.size w w':=by
 have b:=UK v S l p g lb eg w hr hn hp
 rw[ZJ]
 generalize place p l=r at b
 clear hp hr hn eg
 go_enter Tryz.func68,Tryz.ntmps68
 go_wp2_with (go_at_call 152;refine b.mono ?_;rintro e w' ⟨rfl,a⟩)
 go_ret
 exact⟨rfl,a⟩
theorem idxM_own {α:Type}[Inhabited α](enc:α→List Value)(hk:∀x,(enc x).length=8)(p:α→Bool)(g:Nat)(lb:Array Value)(eg:∀args w,(callFunc g args).run Tryz.prog w=.ok (.enter g args) w)(b off n c:Nat)(zs:List α)(w:World)(hp:∀W,Below w.heap.size w W→∀x∈zs,Calls Tryz.prog g (#[.agg (enc x).toArray]++lb) W fun e w'=>e=.returned (.bool (p x))∧Below w.heap.size w w')(hz:zs.length=n)(hbig:n≤9223372036854775807)(hb:b < w.heap.size)(hc:∀j,j < zs.length→∀i v,(enc zs[j]!)[i]?=some v→w.cell? ⟨b,off+j * 8+i,none⟩=some v) :
  Calls Tryz.prog 180 #[.slice (some ⟨b,off,none⟩) n c,.func (.func g) #[] lb] w fun e w'=>e=.returned (.int .i64 (place p zs))∧Below w.heap.size w w':=by
 have h:∀(W:World),Below w.heap.size w W→∀j,j < zs.length→∀i v,(enc zs[j]!)[i]?=some v→W.cell? ⟨b,off+j * 8+i,none⟩=some v:=fun W hW j hj i v hi=>(hW.cell (p:=⟨b,off+j * 8+i,none⟩) hb).trans (hc j hj i v hi)
 clear hc
 go_enter Tryz.func180,Tryz.ntmps180
 go_wp2
 go_loopg [5,8] n (fun gg _ s8 wr=>∃d:Nat,d≤n∧n - d≤gg∧s8=.int .i64 d∧Aside (Below w.heap.size w wr)∧Aside (∀j,j < d→p zs[j]! =false))
 case atStart=>exact⟨0,Nat.zero_le _,by omega,rfl,Below.refl _ w,fun j hj=>absurd hj (Nat.not_lt_zero _)⟩
 case round=>
  obtain⟨d,H,R,rfl,o,A⟩:=hrel
  by_cases G:d < n
  ·have l:(d:Int) < (n:Int):=by omega
   have f:=h wr o.out d (by omega)
   have a:=hp wr o.out zs[d]! (Xd (by omega))
   clear h hp
   generalize F:zs[d]! =y at f a
   have B:Aside (zs[d]! =y):=F
   clear F
   obtain⟨q,r,s,t,u,z,C,D,E⟩:=len8 (hk y)
   rw[E] at f a
   have I:wr.cell? ⟨b,off+d * 8,none⟩=some q:=f 0 q rfl
   have J:wr.cell? ⟨b,off+d * 8+1,none⟩=some r:=f 1 r rfl
   have K:wr.cell? ⟨b,off+d * 8+2,none⟩=some s:=f 2 s rfl
   have L:wr.cell? ⟨b,off+d * 8+3,none⟩=some t:=f 3 t rfl
   have M:wr.cell? ⟨b,off+d * 8+4,none⟩=some u:=f 4 u rfl
   have N:wr.cell? ⟨b,off+d * 8+5,none⟩=some z:=f 5 z rfl
   have O:wr.cell? ⟨b,off+d * 8+6,none⟩=some C:=f 6 C rfl
   have P:wr.cell? ⟨b,off+d * 8+7,none⟩=some D:=f 7 D rfl
   have a:Calls Tryz.prog g (#[.agg #[q,r,s,t,u,z,C,D]]++lb) wr fun e w'=>e=.returned (.bool (p y))∧Below w.heap.size w w':=a
   have Q:=zdG E
   clear f E
   cases m:p y with
   |true=>
    rw[m] at a
    go_wp2_with (go_at_fn g;refine a.mono ?_;rintro e w' ⟨rfl,k⟩)
    go_ret
    refine⟨?_,k⟩
    rw[ZG p zs d (by omega) (by rw[B.out];exact m) A.out]
    rfl
   |false=>
    rw[m] at a
    go_wp2_with (go_at_fn g;refine a.mono ?_;rintro e w' ⟨rfl,k⟩)
    go_roundg (n - (d+1))
    case measure=>omega
    case rel=>
     refine⟨d+1,by omega,by omega,by go_num,k,(show Aside _ from fun j hj=>?_)⟩
     by_cases e:j=d
     ·subst e
      rw[B.out];exact m
     ·exact A.out j (by omega)
  ·have l:¬(d:Int) < (n:Int):=by omega
   have:d=n:=by omega
   subst this
   go_wp2
   go_ret
   refine⟨?_,o.out⟩
   rw[Zu p zs (fun j hj=>A.out j (by omega))]
   rfl
theorem zb8 (a:Option Addr)(c:Nat)(fv:Value)(w:World) :
  Calls Tryz.prog 180 #[.slice a 0 c,fv] w fun e w'=>e=.returned (.int .i64 (-1))∧w'=w:=by
 go_enter Tryz.func180,Tryz.ntmps180
 go_wp2
 go_loopg [5,8] 0 (fun _ _ s8 wr=>s8=.int .i64 0∧wr=w)
 case atStart=>exact⟨rfl,rfl⟩
 case round=>
  obtain⟨rfl,rfl⟩:=hrel
  go_wp2
  go_ret
  exact⟨rfl,rfl⟩
theorem zaN (v:Value)(S:List Nat)(l:List zR)(p:zR→Bool)(g:Nat)(lb:Array Value)(eg:∀args w,(callFunc g args).run Tryz.prog w=.ok (.enter g args) w)(w:World)(hr:RdS w S 8 v l.length (zk xP l))(hn:l.length≤1099511627776)(hp:∀W,Below w.heap.size w W→∀x∈l,Calls Tryz.prog g (#[.agg (xP x).toArray]++lb) W fun e w'=>e=.returned (.bool (p x))∧Below w.heap.size w w') :
  Calls Tryz.prog 180 #[v,.func (.func g) #[] lb] w fun e w'=>e=.returned (.int .i64 (place p l))∧Below w.heap.size w w':=by
 rcases Nat.eq_zero_or_pos l.length with h0|hpos
 ·obtain rfl:l=[]:=List.eq_nil_of_length_eq_zero h0
  obtain⟨A,a,rfl,_,_⟩:=hr.form
  refine(zb8 A a _ w).mono ?_
  rintro e w' ⟨rfl,rfl⟩
  exact⟨rfl,Below.refl _ _⟩
 ·obtain⟨b,c,a,rfl,_,_,d,_,f⟩:=hr.at_ hpos
  exact idxM_own xP z8 p g lb eg b c l.length a l w hp rfl (by omega) d (fun j hj i v hv=>by
   rw[getElem!_pos l j hj] at hv
   have h:i < 8:=by
    have:=(List.getElem?_eq_some_iff.1 hv).1
    rw[z8] at this
    exact this
   rw[show c+j * 8+i=c+(j * 8+i) by omega,f _ (by omega),zy z8 l j i hj h]
   exact hv)
theorem za2 (v:Value)(S:List Nat)(l:List zR)(p:zR→Bool)(g:Nat)(lb:Array Value)(eg:∀args w,(callFunc g args).run Tryz.prog w=.ok (.enter g args) w)(w:World)(hr:RdS w S 8 v l.length (zk xP l))(hn:l.length≤1099511627776)(hp:∀W,Below w.heap.size w W→∀x∈l,Calls Tryz.prog g (#[.agg (xP x).toArray]++lb) W fun e w'=>e=.returned (.bool (p x))∧Below w.heap.size w w') :
  Calls Tryz.prog 114 #[v,.func (.func g) #[] lb] w fun e w'=>e=.returned (.bool (l.any p))∧Below w.heap.size w w':=by
 have b:=zaN v S l p g lb eg w hr hn hp
 rw[ZJ]
 generalize place p l=r at b
 clear hp hr hn eg
 go_enter Tryz.func114,Tryz.ntmps114
 go_wp2_with (go_at_call 180;refine b.mono ?_;rintro e w' ⟨rfl,a⟩)
 go_ret
 exact⟨rfl,a⟩
theorem idxP_own {α:Type}[Inhabited α](enc:α→List Value)(hk:∀x,(enc x).length=2)(p:α→Bool)(g:Nat)(lb:Array Value)(eg:∀args w,(callFunc g args).run Tryz.prog w=.ok (.enter g args) w)(b off n c:Nat)(zs:List α)(w:World)(hp:∀W,Below w.heap.size w W→∀x∈zs,Calls Tryz.prog g (#[.agg (enc x).toArray]++lb) W fun e w'=>e=.returned (.bool (p x))∧Below w.heap.size w w')(hz:zs.length=n)(hbig:n≤9223372036854775807)(hb:b < w.heap.size)(hc:∀j,j < zs.length→∀i v,(enc zs[j]!)[i]?=some v→w.cell? ⟨b,off+j * 2+i,none⟩=some v) :
  Calls Tryz.prog 189 #[.slice (some ⟨b,off,none⟩) n c,.func (.func g) #[] lb] w fun e w'=>e=.returned (.int .i64 (place p zs))∧Below w.heap.size w w':=by
 have f:∀(W:World),Below w.heap.size w W→∀j,j < zs.length→∀i v,(enc zs[j]!)[i]?=some v→W.cell? ⟨b,off+j * 2+i,none⟩=some v:=fun W hW j hj i v hi=>(hW.cell (p:=⟨b,off+j * 2+i,none⟩) hb).trans (hc j hj i v hi)
 clear hc
 go_enter Tryz.func189,Tryz.ntmps189
 go_wp2
 go_loopg [5,8] n (fun gg _ s8 wr=>∃d:Nat,d≤n∧n - d≤gg∧s8=.int .i64 d∧Aside (Below w.heap.size w wr)∧Aside (∀j,j < d→p zs[j]! =false))
 case atStart=>exact⟨0,Nat.zero_le _,by omega,rfl,Below.refl _ w,fun j hj=>absurd hj (Nat.not_lt_zero _)⟩
 case round=>
  obtain⟨d,z,F,rfl,o,A⟩:=hrel
  by_cases u:d < n
  ·have k:(d:Int) < (n:Int):=by omega
   have l:=f wr o.out d (by omega)
   have a:=hp wr o.out zs[d]! (Xd (by omega))
   clear f hp
   generalize t:zs[d]! =y at l a
   have B:Aside (zs[d]! =y):=t
   clear t
   obtain⟨q,r,s⟩:=len2 (hk y)
   rw[s] at l a
   have C:wr.cell? ⟨b,off+d * 2,none⟩=some q:=l 0 q rfl
   have D:wr.cell? ⟨b,off+d * 2+1,none⟩=some r:=l 1 r rfl
   have a:Calls Tryz.prog g (#[.agg #[q,r]]++lb) wr fun e w'=>e=.returned (.bool (p y))∧Below w.heap.size w w':=a
   have E:=zdG s
   clear l s
   cases m:p y with
   |true=>
    rw[m] at a
    go_wp2_with (go_at_fn g;refine a.mono ?_;rintro e w' ⟨rfl,h⟩)
    go_ret
    refine⟨?_,h⟩
    rw[ZG p zs d (by omega) (by rw[B.out];exact m) A.out]
    rfl
   |false=>
    rw[m] at a
    go_wp2_with (go_at_fn g;refine a.mono ?_;rintro e w' ⟨rfl,h⟩)
    go_roundg (n - (d+1))
    case measure=>omega
    case rel=>
     refine⟨d+1,by omega,by omega,by go_num,h,(show Aside _ from fun j hj=>?_)⟩
     by_cases e:j=d
     ·subst e
      rw[B.out];exact m
     ·exact A.out j (by omega)
  ·have k:¬(d:Int) < (n:Int):=by omega
   have:d=n:=by omega
   subst this
   go_wp2
   go_ret
   refine⟨?_,o.out⟩
   rw[Zu p zs (fun j hj=>A.out j (by omega))]
   rfl
theorem zbr (a:Option Addr)(c:Nat)(fv:Value)(w:World) :
  Calls Tryz.prog 189 #[.slice a 0 c,fv] w fun e w'=>e=.returned (.int .i64 (-1))∧w'=w:=by
 go_enter Tryz.func189,Tryz.ntmps189
 go_wp2
 go_loopg [5,8] 0 (fun _ _ s8 wr=>s8=.int .i64 0∧wr=w)
 case atStart=>exact⟨rfl,rfl⟩
 case round=>
  obtain⟨rfl,rfl⟩:=hrel
  go_wp2
  go_ret
  exact⟨rfl,rfl⟩
theorem zaO (v:Value)(S:List Nat)(l:List (Int×Int))(p:(Int×Int)→Bool)(g:Nat)(lb:Array Value)(eg:∀args w,(callFunc g args).run Tryz.prog w=.ok (.enter g args) w)(w:World)(hr:RdS w S 2 v l.length (zk zA l))(hn:l.length≤1099511627776)(hp:∀W,Below w.heap.size w W→∀x∈l,Calls Tryz.prog g (#[.agg (zA x).toArray]++lb) W fun e w'=>e=.returned (.bool (p x))∧Below w.heap.size w w') :
  Calls Tryz.prog 189 #[v,.func (.func g) #[] lb] w fun e w'=>e=.returned (.int .i64 (place p l))∧Below w.heap.size w w':=by
 rcases Nat.eq_zero_or_pos l.length with h0|hpos
 ·obtain rfl:l=[]:=List.eq_nil_of_length_eq_zero h0
  obtain⟨A,a,rfl,_,_⟩:=hr.form
  refine(zbr A a _ w).mono ?_
  rintro e w' ⟨rfl,rfl⟩
  exact⟨rfl,Below.refl _ _⟩
 ·obtain⟨b,c,a,rfl,_,_,d,_,f⟩:=hr.at_ hpos
  exact idxP_own zA zJ p g lb eg b c l.length a l w hp rfl (by omega) d (fun j hj i v hv=>by
   rw[getElem!_pos l j hj] at hv
   have h:i < 2:=by
    have:=(List.getElem?_eq_some_iff.1 hv).1
    rw[zJ] at this
    exact this
   rw[show c+j * 2+i=c+(j * 2+i) by omega,f _ (by omega),zy zJ l j i hj h]
   exact hv)
theorem hasP_any (v:Value)(S:List Nat)(l:List (Int×Int))(p:(Int×Int)→Bool)(g:Nat)(lb:Array Value)(eg:∀args w,(callFunc g args).run Tryz.prog w=.ok (.enter g args) w)(w:World)(hr:RdS w S 2 v l.length (zk zA l))(hn:l.length≤1099511627776)(hp:∀W,Below w.heap.size w W→∀x∈l,Calls Tryz.prog g (#[.agg (zA x).toArray]++lb) W fun e w'=>e=.returned (.bool (p x))∧Below w.heap.size w w') :
  Calls Tryz.prog 181 #[v,.func (.func g) #[] lb] w fun e w'=>e=.returned (.bool (l.any p))∧Below w.heap.size w w':=by
 have b:=zaO v S l p g lb eg w hr hn hp
 rw[ZJ]
 generalize place p l=r at b
 clear hp hr hn eg
 go_enter Tryz.func181,Tryz.ntmps181
 go_wp2_with (go_at_call 189;refine b.mono ?_;rintro e w' ⟨rfl,a⟩)
 go_ret
 exact⟨rfl,a⟩
theorem idxI_own (p:Int→Bool)(g:Nat)(lb:Array Value)(eg:∀args w,(callFunc g args).run Tryz.prog w=.ok (.enter g args) w)(b off n c:Nat)(zs:List Int)(w:World)(hp:∀W,Below w.heap.size w W→∀x∈zs,Calls Tryz.prog g (#[.int .i64 x]++lb) W fun e w'=>e=.returned (.bool (p x))∧Below w.heap.size w w')(hz:zs.length=n)(hbig:n≤9223372036854775807)(hb:b < w.heap.size)(hc:∀j,j < zs.length→w.cell? ⟨b,off+j,none⟩=some (.int .i64 zs[j]!)) :
  Calls Tryz.prog 168 #[.slice (some ⟨b,off,none⟩) n c,.func (.func g) #[] lb] w fun e w'=>e=.returned (.int .i64 (place p zs))∧Below w.heap.size w w':=by
 have f:∀(W:World),Below w.heap.size w W→∀j,j < zs.length→W.cell? ⟨b,off+j,none⟩=some (.int .i64 zs[j]!):=fun W hW j hj=>(hW.cell (p:=⟨b,off+j,none⟩) hb).trans (hc j hj)
 clear hc
 go_enter Tryz.func168,Tryz.ntmps168
 go_wp2
 go_loopg [5,8] n (fun gg _ s8 wr=>∃d:Nat,d≤n∧n - d≤gg∧s8=.int .i64 d∧Aside (Below w.heap.size w wr)∧Aside (∀j,j < d→p zs[j]! =false))
 case atStart=>exact⟨0,Nat.zero_le _,by omega,rfl,Below.refl _ w,fun j hj=>absurd hj (Nat.not_lt_zero _)⟩
 case round=>
  obtain⟨d,r,s,rfl,l,A⟩:=hrel
  by_cases q:d < n
  ·have i:(d:Int) < (n:Int):=by omega
   have o:=f wr l.out d (by omega)
   have a:=hp wr l.out zs[d]! (Xd (by omega))
   clear f hp
   generalize m:zs[d]! =y at o a
   have B:Aside (zs[d]! =y):=m
   clear m
   cases k:p y with
   |true=>
    rw[k] at a
    go_wp2_with (go_at_fn g;refine a.mono ?_;rintro e w' ⟨rfl,h⟩)
    go_ret
    refine⟨?_,h⟩
    rw[ZG p zs d (by omega) (by rw[B.out];exact k) A.out]
    rfl
   |false=>
    rw[k] at a
    go_wp2_with (go_at_fn g;refine a.mono ?_;rintro e w' ⟨rfl,h⟩)
    go_roundg (n - (d+1))
    case measure=>omega
    case rel=>
     refine⟨d+1,by omega,by omega,by go_num,h,(show Aside _ from fun j hj=>?_)⟩
     by_cases e:j=d
     ·subst e
      rw[B.out];exact k
     ·exact A.out j (by omega)
  ·have i:¬(d:Int) < (n:Int):=by omega
   have:d=n:=by omega
   subst this
   go_wp2
   go_ret
   refine⟨?_,l.out⟩
   rw[Zu p zs (fun j hj=>A.out j (by omega))]
   rfl
theorem UC (a:Option Addr)(c:Nat)(fv:Value)(w:World) :
  Calls Tryz.prog 168 #[.slice a 0 c,fv] w fun e w'=>e=.returned (.int .i64 (-1))∧w'=w:=by
 go_enter Tryz.func168,Tryz.ntmps168
 go_wp2
 go_loopg [5,8] 0 (fun _ _ s8 wr=>s8=.int .i64 0∧wr=w)
 case atStart=>exact⟨rfl,rfl⟩
 case round=>
  obtain⟨rfl,rfl⟩:=hrel
  go_wp2
  go_ret
  exact⟨rfl,rfl⟩
theorem zbb (v:Value)(S:List Nat)(l:List Int)(p:Int→Bool)(g:Nat)(lb:Array Value)(eg:∀args w,(callFunc g args).run Tryz.prog w=.ok (.enter g args) w)(w:World)(hr:RdS w S 1 v l.length (l.map encI))(hn:l.length≤1099511627776)(hp:∀W,Below w.heap.size w W→∀x∈l,Calls Tryz.prog g (#[.int .i64 x]++lb) W fun e w'=>e=.returned (.bool (p x))∧Below w.heap.size w w') :
  Calls Tryz.prog 168 #[v,.func (.func g) #[] lb] w fun e w'=>e=.returned (.int .i64 (place p l))∧Below w.heap.size w w':=by
 rcases Nat.eq_zero_or_pos l.length with h0|hpos
 ·obtain rfl:l=[]:=List.eq_nil_of_length_eq_zero h0
  obtain⟨A,a,rfl,_,_⟩:=hr.form
  refine(UC A a _ w).mono ?_
  rintro e w' ⟨rfl,rfl⟩
  exact⟨rfl,Below.refl _ _⟩
 ·obtain⟨b,c,a,rfl,_,_,d,_,f⟩:=hr.at_ hpos
  exact idxI_own p g lb eg b c l.length a l w hp rfl (by omega) d (fun j hj=>by
   rw[f j (by omega),getElem!_pos l j hj]
   simp[hj])
theorem hasI_any (v:Value)(S:List Nat)(l:List Int)(p:Int→Bool)(g:Nat)(lb:Array Value)(eg:∀args w,(callFunc g args).run Tryz.prog w=.ok (.enter g args) w)(w:World)(hr:RdS w S 1 v l.length (l.map encI))(hn:l.length≤1099511627776)(hp:∀W,Below w.heap.size w W→∀x∈l,Calls Tryz.prog g (#[.int .i64 x]++lb) W fun e w'=>e=.returned (.bool (p x))∧Below w.heap.size w w') :
  Calls Tryz.prog 93 #[v,.func (.func g) #[] lb] w fun e w'=>e=.returned (.bool (l.any p))∧Below w.heap.size w w':=by
 have b:=zbb v S l p g lb eg w hr hn hp
 rw[ZJ]
 generalize place p l=r at b
 clear hp hr hn eg
 go_enter Tryz.func93,Tryz.ntmps93
 go_wp2_with (go_at_call 168;refine b.mono ?_;rintro e w' ⟨rfl,a⟩)
 go_ret
 exact⟨rfl,a⟩
theorem idxJ_own (p:Int→Bool)(g:Nat)(r:Value)(eg:∀args w,(callFunc g args).run Tryz.prog w=.ok (.enter g args) w)(b off n c:Nat)(zs:List Int)(w:World)(hp:∀W,Below w.heap.size w W→∀x∈zs,Calls Tryz.prog g #[r,.int .i64 x] W fun e w'=>e=.returned (.bool (p x))∧Below w.heap.size w w')(hz:zs.length=n)(hbig:n≤9223372036854775807)(hb:b < w.heap.size)(hc:∀j,j < zs.length→w.cell? ⟨b,off+j,none⟩=some (.int .i64 zs[j]!)) :
  Calls Tryz.prog 168 #[.slice (some ⟨b,off,none⟩) n c,.func (.func g) #[r] #[]] w fun e w'=>e=.returned (.int .i64 (place p zs))∧Below w.heap.size w w':=by
 have f:∀(W:World),Below w.heap.size w W→∀j,j < zs.length→W.cell? ⟨b,off+j,none⟩=some (.int .i64 zs[j]!):=fun W hW j hj=>(hW.cell (p:=⟨b,off+j,none⟩) hb).trans (hc j hj)
 clear hc
 go_enter Tryz.func168,Tryz.ntmps168
 go_wp2
 go_loopg [5,8] n (fun gg _ s8 wr=>∃d:Nat,d≤n∧n - d≤gg∧s8=.int .i64 d∧Aside (Below w.heap.size w wr)∧Aside (∀j,j < d→p zs[j]! =false))
 case atStart=>exact⟨0,Nat.zero_le _,by omega,rfl,Below.refl _ w,fun j hj=>absurd hj (Nat.not_lt_zero _)⟩
 case round=>
  obtain⟨d,s,t,rfl,l,A⟩:=hrel
  by_cases q:d < n
  ·have i:(d:Int) < (n:Int):=by omega
   have o:=f wr l.out d (by omega)
   have a:=hp wr l.out zs[d]! (Xd (by omega))
   clear f hp
   generalize m:zs[d]! =y at o a
   have B:Aside (zs[d]! =y):=m
   clear m
   cases k:p y with
   |true=>
    rw[k] at a
    go_wp2_with (go_at_fn g;refine a.mono ?_;rintro e w' ⟨rfl,h⟩)
    go_ret
    refine⟨?_,h⟩
    rw[ZG p zs d (by omega) (by rw[B.out];exact k) A.out]
    rfl
   |false=>
    rw[k] at a
    go_wp2_with (go_at_fn g;refine a.mono ?_;rintro e w' ⟨rfl,h⟩)
    go_roundg (n - (d+1))
    case measure=>omega
    case rel=>
     refine⟨d+1,by omega,by omega,by go_num,h,(show Aside _ from fun j hj=>?_)⟩
     by_cases e:j=d
     ·subst e
      rw[B.out];exact k
     ·exact A.out j (by omega)
  ·have i:¬(d:Int) < (n:Int):=by omega
   have:d=n:=by omega
   subst this
   go_wp2
   go_ret
   refine⟨?_,l.out⟩
   rw[Zu p zs (fun j hj=>A.out j (by omega))]
   rfl
theorem idxJ_any (v:Value)(S:List Nat)(l:List Int)(p:Int→Bool)(g:Nat)(r:Value)(eg:∀args w,(callFunc g args).run Tryz.prog w=.ok (.enter g args) w)(w:World)(hr:RdS w S 1 v l.length (l.map encI))(hn:l.length≤1099511627776)(hp:∀W,Below w.heap.size w W→∀x∈l,Calls Tryz.prog g #[r,.int .i64 x] W fun e w'=>e=.returned (.bool (p x))∧Below w.heap.size w w') :
  Calls Tryz.prog 168 #[v,.func (.func g) #[r] #[]] w fun e w'=>e=.returned (.int .i64 (place p l))∧Below w.heap.size w w':=by
 rcases Nat.eq_zero_or_pos l.length with h0|hpos
 ·obtain rfl:l=[]:=List.eq_nil_of_length_eq_zero h0
  obtain⟨A,a,rfl,_,_⟩:=hr.form
  refine(UC A a _ w).mono ?_
  rintro e w' ⟨rfl,rfl⟩
  exact⟨rfl,Below.refl _ _⟩
 ·obtain⟨b,c,a,rfl,_,_,d,_,f⟩:=hr.at_ hpos
  exact idxJ_own p g r eg b c l.length a l w hp rfl (by omega) d (fun j hj=>by
   rw[f j (by omega),getElem!_pos l j hj]
   simp[hj])
theorem Jb (v:Value)(S:List Nat)(l:List Int)(p:Int→Bool)(g:Nat)(r:Value)(eg:∀args w,(callFunc g args).run Tryz.prog w=.ok (.enter g args) w)(w:World)(hr:RdS w S 1 v l.length (l.map encI))(hn:l.length≤1099511627776)(hp:∀W,Below w.heap.size w W→∀x∈l,Calls Tryz.prog g #[r,.int .i64 x] W fun e w'=>e=.returned (.bool (p x))∧Below w.heap.size w w') :
  Calls Tryz.prog 93 #[v,.func (.func g) #[r] #[]] w fun e w'=>e=.returned (.bool (l.any p))∧Below w.heap.size w w':=by
 have b:=idxJ_any v S l p g r eg w hr hn hp
 rw[ZJ]
 generalize place p l=r at b
 clear hp hr hn eg
 go_enter Tryz.func93,Tryz.ntmps93
 go_wp2_with (go_at_call 168;refine b.mono ?_;rintro e w' ⟨rfl,a⟩)
 go_ret
 exact⟨rfl,a⟩
theorem QJ (id:Int)(B:Nat)(w W:World)(x:yg)(hB:w.cell? ⟨B,0,none⟩=some (.int .i64 id))(hb:Below w.heap.size w W) :
  Calls Tryz.prog 178 (#[.agg (xQ x).toArray]++#[.pointer (some ⟨B,0,none⟩)]) W fun e w'=>e=.returned (.bool (decide (x.id=id)))∧Below w.heap.size w w':=by
 have a:=World.block_lt_of_cell? _ _ hB
 have f:=(hb.cell (p:=⟨B,0,none⟩) a).trans hB
 have b:B < W.heap.size:=Nat.lt_of_lt_of_le a hb.size
 obtain⟨i,h,j,k,l,m⟩:=x
 show Calls Tryz.prog 178 #[.agg #[.int .i64 i,.string ⟨h.toArray⟩,.int .i64 j,.int .i64 k,.int .i64 l,.int .i64 m],.pointer (some ⟨B,0,none⟩)] W _
 have n:(W.alloc (.cells #[.int .i64 i,.string ⟨h.toArray⟩,.int .i64 j,.int .i64 k,.int .i64 l,.int .i64 m] 89)).cell? ⟨B,0,none⟩=some (.int .i64 id):=(World.cell?_alloc_lt W _ _ b).trans f
 have c:=zdG hb
 clear hb f hB
 by_cases d:i=id
 ·subst d
  simp only[decide_true]
  go_enter Tryz.func178,Tryz.ntmps178
  go_wp2
  go_ret
  exact⟨rfl,c.out.alloc c.out.size _⟩
 ·have e:(i==id)=false:=by simpa using d
  have g:decide (i=id)=false:=decide_eq_false d
  simp only[g]
  clear g d
  go_enter Tryz.func178,Tryz.ntmps178
  go_wp2
  go_ret
  exact⟨rfl,c.out.alloc c.out.size _⟩
theorem Qn (id:Int)(B:Nat)(w W:World)(x:zR)(hB:w.cell? ⟨B,0,none⟩=some (.int .i64 id))(hb:Below w.heap.size w W) :
  Calls Tryz.prog 186 (#[.agg (xP x).toArray]++#[.pointer (some ⟨B,0,none⟩)]) W fun e w'=>e=.returned (.bool (decide (x.p.id=id)))∧Below w.heap.size w w':=by
 have a:=World.block_lt_of_cell? _ _ hB
 have f:=(hb.cell (p:=⟨B,0,none⟩) a).trans hB
 have b:B < W.heap.size:=Nat.lt_of_lt_of_le a hb.size
 obtain⟨⟨i,h,j,k,r,s,l,m⟩,n,o⟩:=x
 show Calls Tryz.prog 186 #[.agg #[.int .i64 i,.int .i64 h,.string ⟨j.toArray⟩,.int .i64 k,n,o,.int .i64 l,.int .i64 m],.pointer (some ⟨B,0,none⟩)] W _
 have q:(W.alloc (.cells #[.int .i64 i,.int .i64 h,.string ⟨j.toArray⟩,.int .i64 k,n,o,.int .i64 l,.int .i64 m] 54)).cell? ⟨B,0,none⟩=some (.int .i64 id):=(World.cell?_alloc_lt W _ _ b).trans f
 have c:=zdG hb
 clear hb f hB
 by_cases d:i=id
 ·subst d
  simp only[decide_true]
  go_enter Tryz.func186,Tryz.ntmps186
  go_wp2
  go_ret
  exact⟨rfl,c.out.alloc c.out.size _⟩
 ·have e:(i==id)=false:=by simpa using d
  have g:decide (i=id)=false:=decide_eq_false d
  simp only[g]
  clear g d
  go_enter Tryz.func186,Tryz.ntmps186
  go_wp2
  go_ret
  exact⟨rfl,c.out.alloc c.out.size _⟩
theorem y9 (g:Nat)(v:Value)(S:List Nat)(l:List yg)(id:Int)(w:World)(hg:w.cell? ⟨g,10,none⟩=some v)(hr:RdS w S 6 v l.length (zk xQ l))(hn:l.length≤1099511627776) :
  Calls Tryz.prog 110 #[.pointer (some ⟨g,0,none⟩),.int .i64 id] w fun e w'=>e=.returned (.int .i64 (yx id l))∧Below w.heap.size w w':=by
 have d:=World.block_lt_of_cell? _ _ hg
 have a:(w.alloc (.cells #[.int .i64 id] 3)).cell? ⟨w.heap.size,0,none⟩=some (.int .i64 id):=(World.cell?_alloc_at _ _ _ _ rfl).trans rfl
 have j:(w.alloc (.cells #[.int .i64 id] 3)).cell? ⟨g,10,none⟩=some v:=(World.cell?_alloc_lt w _ _ d).trans hg
 have h:∀args W,(callFunc 178 args).run Tryz.prog W=.ok (.enter 178 args) W:=enters_of Tryz.func178 (by kernel_rfl) rfl
 have i:=UK v S l (fun b=>decide (b.id=id)) 178 #[.pointer (some ⟨w.heap.size,0,none⟩)] h (w.alloc (.cells #[.int .i64 id] 3)) (hr.below ((Below.refl _ w).alloc (Nat.le_refl _) _)) hn
  (fun W f x _=>QJ id _ _ W x a f)
 have c:Calls Tryz.prog 152 #[v,.func (.func 178) #[] #[.pointer (some ⟨w.heap.size,0,none⟩)]] (w.alloc (.cells #[.int .i64 id] 3)) fun e w'=>e=.returned (.int .i64 (yx id l))∧Below (w.alloc (.cells #[.int .i64 id] 3)).heap.size (w.alloc (.cells #[.int .i64 id] 3)) w':=i
 generalize yx id l=r at c
 clear i h hr a hg hn
 go_enter Tryz.func110,Tryz.ntmps110
 go_wp2_with (first
  |(go_at_call 152;refine c.mono ?_;rintro e k ⟨rfl,f⟩)
  |fail)
 go_ret
 exact⟨rfl,((Below.refl _ _).alloc (Nat.le_refl _) _).trans (f.mono (by simp))⟩
theorem mail_any (g:Nat)(v:Value)(S:List Nat)(l:List zR)(id:Int)(w:World)(hg:w.cell? ⟨g,11,none⟩=some v)(hr:RdS w S 8 v l.length (zk xP l))(hn:l.length≤1099511627776) :
  Calls Tryz.prog 126 #[.pointer (some ⟨g,0,none⟩),.int .i64 id] w fun e w'=>e=.returned (.int .i64 (place (fun m=>decide (m.p.id=id)) l))∧Below w.heap.size w w':=by
 have b:=World.block_lt_of_cell? _ _ hg
 have a:(w.alloc (.cells #[.int .i64 id] 3)).cell? ⟨w.heap.size,0,none⟩=some (.int .i64 id):=(World.cell?_alloc_at _ _ _ _ rfl).trans rfl
 have h:(w.alloc (.cells #[.int .i64 id] 3)).cell? ⟨g,11,none⟩=some v:=(World.cell?_alloc_lt w _ _ b).trans hg
 have d:∀args W,(callFunc 186 args).run Tryz.prog W=.ok (.enter 186 args) W:=enters_of Tryz.func186 (by kernel_rfl) rfl
 have f:=zaN v S l (fun m=>decide (m.p.id=id)) 186 #[.pointer (some ⟨w.heap.size,0,none⟩)] d (w.alloc (.cells #[.int .i64 id] 3)) (hr.below ((Below.refl _ w).alloc (Nat.le_refl _) _)) hn
  (fun W c x _=>Qn id _ _ W x a c)
 generalize place (fun m:zR=>decide (m.p.id=id)) l=r at f
 clear d hr a hg hn
 go_enter Tryz.func126,Tryz.ntmps126
 go_wp2_with (first
  |(go_at_call 180;refine f.mono ?_;rintro e i ⟨rfl,c⟩)
  |fail)
 go_ret
 exact⟨rfl,((Below.refl _ _).alloc (Nat.le_refl _) _).trans (c.mono (by simp))⟩
theorem Zy:∀{l:List yg} {id:Int},id∈ids l→∃k,∃hk:k < l.length,yx id l=(k:Int)∧l[k].id=id∧zw l id=l[k].next∧(∀f,yE id f l=l.set k (f l[k]))∧l.find? (fun b=>decide (b.id=id))=some l[k]
 |[],id,h=>by simp[ids] at h
 |b :: r,id,h=>by
  by_cases hb:b.id=id
  ·exact⟨0,by simp,by simp[yx,place,hb],hb,by simp[zw,hb],fun f=>by simp[yE,hb],by simp[hb]⟩
  ·have h':id∈ids r:=by
    simp only[ids,List.map_cons,List.mem_cons] at h
    rcases h with h|h
    ·exact absurd h.symm hb
    ·exact h
   obtain⟨k,hk,d,e,g,i,j⟩:=Zy h'
   refine⟨k+1,by simpa using hk,?_,e,?_,fun f=>?_,?_⟩
   ·have a:place (fun b:yg=>decide (b.id=id)) r=k:=d
    have c:¬decide (b.id=id)=true:=by simpa using hb
    unfold yx place
    rw[if_neg c,a,if_neg (by omega)]
    omega
   ·rw[List.getElem_cons_succ,←g]
    simp[zw,hb]
   ·simp only[yE,if_neg hb,i f,List.set_cons_succ,List.getElem_cons_succ]
   ·rw[List.find?_cons_of_neg (by simpa using hb)]
    exact j
section
variable {w w':World} {g:Nat} {q:zl} {x:Acc}
theorem zh.boxesTo (h:zh w g q x)(bs:List yg)(hc:Chg q.hb.toList w w')(hs:Sl w' 89 6 q.vb q.hb bs.length (zk xQ bs)):Turned w w' g q {x with boxes:=bs} q:=by
 have c:=h.apart
 have a:Chg (q.own g) w w':=hc.mono fun k hk=>.inl (zl.vW (by simpa using hk))
 refine⟨⟨?_,?_,hs,h.same,?_,fun m hmm=>(h.parts m hmm).step a (fun k hk=>.inl hk)⟩,a,fun k hk=>.inl hk⟩
 ·exact h.blk.chg hc (by simpa using c.hb)
 ·exact h.log.chg hc (by simpa using c.lb) (fun b hb=>by simpa using c.eb b hb)
 ·exact h.mails.chg hc (fun b hb=>by
   simp only[Option.mem_toList]
   exact fun e=>c.bm b e hb)
theorem below_alloc1 (w:World)(o:Obj):Below w.heap.size w (w.alloc o):=(Below.refl _ w).alloc (Nat.le_refl _) o
theorem zb (w:World):Below w.heap.size w w.drew:=⟨rfl,rfl,rfl,Nat.le_refl _,fun _ _=>rfl⟩
theorem yV {B:Nat}{w w':World}(h:Below B w.drew w'):Below B w w':=⟨h.os,h.tape,h.output,h.size,h.block⟩
theorem za {w w1 w2:World}(h:Below w.heap.size w w1)(h2:Below w1.heap.size w1 w2):Below w.heap.size w w2:=h.trans (h2.mono h.size)
theorem vM {w w':World}(h:Below w.heap.size w w'){p:Addr}(hp:p.block < w.heap.size):w'.frozen? p=w.frozen? p:=World.frozen?_of_block (h.block p.block hp)
theorem zB {W:World}(he:W.heap=w.heap)(p:Addr):W.cell? p=w.cell? p:=World.cell?_of_block (by rw[he])
end
theorem Vy (w:World)(g:Nat)(q:zl)(x:Acc)(h:zh w g q x)(hn:x.boxes.length≤1099511627776)(id:Int)(hid:id∈ids x.boxes) :
  Calls Tryz.prog 94 #[.pointer (some ⟨g,0,none⟩),.int .i64 id] w fun e w'=>e=.returned (.bool (x.spent id))∧Below w.heap.size w w':=by
 obtain⟨k,J,B,_,C,_,_⟩:=Zy hid
 obtain⟨b,c,t,D,u,v,K,y,l⟩:=h.Zp k J
 have d:w.cell? ⟨g,10,none⟩=some (.slice (some ⟨b,c,none⟩) x.boxes.length t):=h.zQ.trans (by rw[D])
 have z:w.cell? ⟨g,5,none⟩=some (.int .i64 x.cfg.maxUid):=h.cells 5
 have A:w.cell? ⟨b,c+k * 6+4,none⟩=some (.int .i64 x.boxes[k].next):=(l 4 (by omega)).1
 have f:=fun W (he:W.heap=w.heap)=>y9 g q.vb [] x.boxes id W ((zB he _).trans h.zQ) ((h.boxes.heap he).reads [] (by simp)) hn
 rw[B] at f
 have i:x.spent id=decide (x.cfg.maxUid < x.boxes[k].next):=by
  unfold Acc.spent
  rw[C]
 have j:=h.blk.lt
 rw[i]
 obtain⟨E,m⟩:∃E,x.boxes[k].next=E:=⟨_,rfl⟩
 rw[m] at A ⊢
 obtain⟨n,o⟩:∃n,x.boxes.length=n:=⟨_,rfl⟩
 rw[o] at d v
 obtain⟨F,r⟩:∃F,x.cfg.maxUid=F:=⟨_,rfl⟩
 rw[r] at z ⊢
 have G:(k:Int) < (n:Int):=by omega
 have H:k < n:=by omega
 clear i B C l D u hn hid h m r o
 go_enter Tryz.func94,Tryz.ntmps94
 go_wp2_with fail
 go_region_with (first
  |(go_at_call 110;refine(f _ (by rfl)).mono ?_;rintro e N ⟨rfl,a⟩;have I:=(a.cell (p:=⟨g,10,none⟩) j).trans d;have L:=(a.cell (p:=⟨g,5,none⟩) j).trans z;have M:=(a.cell (p:=⟨b,c+k * 6+4,none⟩) y).trans A;have s:=zdG (yV a);clear a)
  |fail)
 all_goals
  go_wp2
  go_ret
  exact⟨rfl,s.out⟩
theorem Uf (w:World)(g:Nat)(q:zl)(x:Acc)(h:zh w g q x)(hn:x.boxes.length≤1099511627776)(id:Int)(hid:id∈ids x.boxes)(hnx1:0≤zw x.boxes id∧zw x.boxes id≤4294967296) :
  Calls Tryz.prog 97 #[.pointer (some ⟨g,0,none⟩),.int .i64 id] w fun e w'=>e=.returned (.agg #[.int .i64 id,.int .i64 (zw x.boxes id)])∧Turned w w' g q {x with boxes:=bump id x.boxes} q:=by
 obtain⟨k,Q,R,_,S,T,_⟩:=Zy hid
 obtain⟨b,f,J,F,t,K,a3,B,C⟩:=h.Zp k Q
 have r:w.cell? ⟨g,10,none⟩=some (.slice (some ⟨b,f,none⟩) x.boxes.length J):=h.zQ.trans (by rw[F])
 obtain⟨E,cf⟩:=C 4 (by omega)
 have E:w.cell? ⟨b,f+k * 6+4,none⟩=some (.int .i64 x.boxes[k].next):=E
 have y:=fun W (hb:Below w.heap.size w W)=>y9 g q.vb [] x.boxes id W ((hb.cell h.blk.lt).trans h.zQ) ((h.boxes.keep (fun b c=>hb.block b (h.boxes.lt b c))).reads [] (by simp)) hn
 rw[R] at y
 have z:=h.blk.lt
 have m:∀W a,x.boxes[k].next=a→Below w.heap.size w W→∀L M,Turned w (((W.setCell ⟨b,f+k * 6+4,none⟩ (.int .i64 (a+1))).setCell ⟨w.heap.size,0,none⟩ L).setCell ⟨w.heap.size,1,none⟩ M) g q {x with boxes:=bump id x.boxes} q:=by
  rintro W a rfl hb L M
  refine h.boxesTo _ ?_ ?_
  ·rw[t]
   exact(((Chg.of_below hb [b]).set (.inl (by simp)) _).set (.inr (Nat.le_refl _)) _).set (.inr (Nat.le_refl _)) _
  ·have A:=h.boxes.keep (w':=W) (fun b c=>hb.block b (h.boxes.lt b c))
   rw[F] at A
   have c:=A.store (k * 6+4) (.int .i64 (x.boxes[k].next+1))
   rw[vo zT x.boxes k 4 Q (by omega) _ {x.boxes[k] with next:=x.boxes[k].next+1} rfl,←Nat.add_assoc,←F] at c
   have o:q.hb≠some w.heap.size:=fun e=>by
    rw[t] at e
    injection e with e
    omega
   have l:=(c.far (p:=⟨w.heap.size,0,none⟩) o L).far (p:=⟨w.heap.size,1,none⟩) o M
   have G:bump id x.boxes=x.boxes.set k {x.boxes[k] with next:=x.boxes[k].next+1}:=T _
   rw[G,List.length_set]
   exact l
 rw[S] at hnx1 ⊢
 obtain⟨a,u⟩:∃a,x.boxes[k].next=a:=⟨_,rfl⟩
 have i:=fun W=>m W a u
 rw[u] at E hnx1 ⊢
 obtain⟨n,D⟩:∃n,x.boxes.length=n:=⟨_,rfl⟩
 rw[D] at r K
 have V:(k:Int) < (n:Int):=by omega
 have X:k < n:=by omega
 obtain⟨a4,a5⟩:=hnx1
 have Y:-9223372036854775808≤a+1:=by omega
 have Z:a+1≤9223372036854775807:=by omega
 have a0:a+1 - 1=a:=by omega
 have HE:=zdG i
 clear m i R S T C F t hn hid h u D
 go_enter Tryz.func97,Tryz.ntmps97
 go_wp2_with fail
 have a1:=(World.cell?_alloc_lt w (.cells #[.int .i64 0,.int .i64 0] 56) ⟨g,10,none⟩ z).trans r
 go_region_with (first
  |(go_at_call 110;refine(y _ (za (below_alloc1 w _) (zb _))).mono ?_;rintro e U ⟨rfl,l⟩;have s:=yV l;have j:=za (below_alloc1 w _) s;have d:=(Blk.new w 56 #[.int .i64 0,.int .i64 0]).below s (by simp);have r0:U.cell? ⟨w.heap.size,0,none⟩=some (.int .i64 0):=d.cell 0;have r1:U.cell? ⟨w.heap.size,1,none⟩=some (.int .i64 0):=d.cell 1;have HK:=zdG d;have f0:=d.frozen 0;have f1:=d.frozen 1;have k4:=(j.cell (p:=⟨b,f+k * 6+4,none⟩) B).trans E;have a2:=(j.cell (p:=⟨g,10,none⟩) z).trans r;have kf:=(vM j (p:=⟨b,f+k * 6+4,none⟩) B).trans cf;have H:=zdG j;clear l s j d)
  |fail)
 all_goals
  have I:b≠w.heap.size:=by omega
  go_wp2
  refine bodyPost_ret (v:=.agg #[.int .i64 id,.int .i64 a]) ?_ rfl ⟨rfl,HE.out _ H.out _ _⟩
  have N:=((HK.out.far (p:=⟨b,f+k * 6+4,none⟩) (fun e=>I e.symm) (.int .i64 (a+1))).set 0 (.int .i64 id)).set 1 (.int .i64 a)
  have O:=N.cell 0
  have P:=N.cell 1
  simp at O P
  simp[results,Tryz.results97,go_sem,O,P]
theorem Xm (id:Int)(f:yg→yg)(hf:∀b,(f b).id=b.id):∀l,ids (yE id f l)=ids l
 |[]=>rfl
 |b :: r=>by
  unfold yE
  split
  ·simp[ids,hf]
  ·have:=Xm id f hf r
   simp only[ids,List.map_cons] at this ⊢
   rw[this]
theorem uM (mod:Int):∀(is:List Int) (l:List yg),ids (zf mod is l)=ids l
 |[],_=>rfl
 |i :: r,l=>by
  have h1:zf mod (i :: r) l=zf mod r (yE i (fun b=>{b with mod:=mod}) l):=rfl
  rw[h1,uM mod r,Xm]
  intro b
  rfl
theorem yc (mod:Int)(is:List Int)(l:List yg):(zf mod is l).length=l.length:=by
 have:=congrArg List.length (uM mod is l)
 simpa[ids] using this
theorem YG (mod:Int)(is:List Int)(i:Int)(l:List yg):zf mod (is++[i]) l=yE i (fun b=>{b with mod:=mod}) (zf mod is l):=by
 simp[zf]
theorem Xe (mod:Int)(is:List Int)(i:Int):zn mod (is++[i])=zn mod is++[⟨mod,1,i,2⟩]:=by
 simp[zn]
theorem yC (mod:Int)(is:List Int):(zn mod is).length=is.length:=by simp[zn]
theorem Sl.tight {w:World}{e:TypeId}{size n cap:Nat}{A:Option Addr}{h:Option Nat}{xs:List Value}(hs:Sl w e size (.slice A n cap) h n xs):Sl w e size (.slice A n n) h n xs:=by
 refine⟨hs.1,?_⟩
 rcases hs.2 with⟨h1,hv,h2⟩|⟨b',off',cap',cur,hh,hv,hB,hnc,hcm,hcs,ht⟩
 ·injection hv with hv1 _ hv3
  subst h2 hv1
  exact .inl ⟨h1,rfl,rfl⟩
 ·injection hv with hv1 _ hv3
  subst hv1 hv3
  have a:n * size≤cap * size:=Nat.mul_le_mul_right _ hnc
  exact .inr ⟨b',off',n,cur,hh,rfl,hB,Nat.le_refl _,by omega,by omega,ht⟩
theorem Turned.newer {w W W2:World}{g:Nat}{q:zl}{x x1:Acc}{S:List Nat}(h:Turned w W g q x1 q)(hw:zh w g q x)(hc:Chg S W W2)(hS:∀k∈S,w.heap.size≤k):Turned w W2 g q x1 q:=by
 have c:Chg (q.own g) w W2:=h.chg.trans hc fun i hi=>.inr (hS i hi)
 have a:∀k∈q.own g,k∉S:=fun k hk hm=>by
  have d:=hw.lt k hk
  have e:=hS k hm
  omega
 exact⟨⟨h.at_.blk.chg hc (a g zl.ZP),h.at_.log.chg hc (a _ zl.Yg) (fun b hb=>a b (zl.Yp hb)),h.at_.boxes.chg hc (fun b hb=>a b (zl.vW hb)),h.at_.same,h.at_.mails.chg hc (fun b hb=>a b (zl.vR hb)),fun m hm=>(hw.parts m hm).step c fun k hk=>.inl hk⟩,c,fun k hk=>.inl hk⟩
structure Zo (w wr:World)(g:Nat)(q:zl)(x:Acc)(mod:Int)(l:List Int)(vc:Value)(hc:Option Nat)(k:Nat)(o:Value):Prop where
 out:∃h,Sl wr 177 4 o h k (zM (zn mod (l.take k)))∧∀b,h=some b→w.heap.size≤b
 st:Turned w wr g q {x with boxes:=zf mod (l.take k) x.boxes} q
 src:Sl wr 3 1 vc hc l.length (l.map encI)
 new:∀b,hc=some b→w.heap.size≤b
theorem Zo.box {w wr:World}{g:Nat}{q:zl}{x:Acc}{mod:Int}{l:List Int}{vc:Value}{hc:Option Nat}{k:Nat}{o:Value}(h:Zo w wr g q x mod l vc hc k o)(hk:k < l.length)(hall:∀i∈l,i∈ids x.boxes)(hn:x.boxes.length≤1099511627776)(hw:zh w g q x) :
  ∃(j b off cap:Nat),j < x.boxes.length∧wr.cell? ⟨g,10,none⟩=some (.slice (some ⟨b,off,none⟩) x.boxes.length cap)∧wr.frozen? ⟨b,off+j * 6+5,none⟩=false∧(∃u,wr.cell? ⟨b,off+j * 6+5,none⟩=some u)∧g < wr.heap.size∧b < wr.heap.size∧
   (∀W,Below wr.heap.size wr W→Calls Tryz.prog 110 #[.pointer (some ⟨g,0,none⟩),.int .i64 l[k]] W fun e w'=>e=.returned (.int .i64 j)∧Below W.heap.size W w')∧
   (∀W,Below wr.heap.size wr W→Turned w (W.setCell ⟨b,off+j * 6+5,none⟩ (.int .i64 mod)) g q {x with boxes:=zf mod (l.take (k+1)) x.boxes} q∧
    (∀{e size v hh n xs},Sl wr e size v hh n xs→(∀b',hh=some b'→w.heap.size≤b')→Sl (W.setCell ⟨b,off+j * 6+5,none⟩ (.int .i64 mod)) e size v hh n xs)):=by
 have a:=h.st.at_
 have f:l[k]∈ids (zf mod (l.take k) x.boxes):=by
  rw[uM]
  exact hall _ (List.getElem_mem hk)
 obtain⟨j,y,D,L,M,E,_⟩:=Zy f
 have c:=yc mod (l.take k) x.boxes
 obtain⟨b,off,cap,z,r,F,G,s,t⟩:=a.Zp j y
 obtain⟨H,I⟩:=t 5 (by omega)
 refine⟨j,b,off,cap,by omega,?_,I,⟨_,H⟩,a.blk.lt,s,fun W hb=>?_,fun W hb=>⟨?_,fun {e size v hh n xs} hs hf=>?_⟩⟩
 ·rw[a.zQ,z]
  simp only[c]
 ·have d:=y9 g q.vb [] _ l[k] W ((hb.cell a.blk.lt).trans a.zQ) ((a.boxes.keep (fun b hb2=>hb.block b (a.boxes.lt b hb2))).reads [] (by simp)) (by simp only[c];exact hn)
  simp only[D] at d
  exact d
 ·have A:=(a.later hb).yw z j y 5 (by omega) (.int .i64 mod) {(zf mod (l.take k) x.boxes)[j] with mod:=mod} rfl
  have B:=(h.st.trans (Turned.of_below a hb)).trans A
  have C:(zf mod (l.take k) x.boxes).set j {(zf mod (l.take k) x.boxes)[j] with mod:=mod}=zf mod (l.take (k+1)) x.boxes:=by
   rw[List.take_succ_eq_append_getElem hk,YG]
   exact(E (fun b=>{b with mod:=mod})).symm
  rw[←C]
  exact B
 ·have m:=hs.keep (w':=W) (fun b' hb'=>hb.block b' (hs.lt b' hb'))
  refine m.far (p:=⟨b,off+j * 6+5,none⟩) (fun e=>?_) _
  have J:=hf b e
  have K:=hw.lt b (zl.vW r)
  omega
theorem Zo.start {w w1 w2 w3:World}{g:Nat}{q:zl}{x:Acc}{mod:Int}{l:List Int}{v3:Value}{h1:Option Nat}(h:zh w g q x)(hb1:Below w.heap.size w w1)(ho1:∀b,h1=some b→w.heap.size≤b)(hc2:Chg h1.toList w1 w2)(hc3:Chg h1.toList w2 w3)(hs3:Sl w3 3 1 v3 h1 l.length (l.map encI)):Zo w w3 g q x mod l v3 h1 0 (.slice none 0 0):=by
 have a:∀k∈h1.toList,w.heap.size≤k:=fun k hk=>ho1 k (by simpa using hk)
 have c:Below w.heap.size w w2:=hb1.trans (hc2.below hb1.size a)
 have d:Below w.heap.size w w3:=c.trans (hc3.below c.size a)
 exact⟨⟨none,Sl.nil _ _ _,fun b hb=>by cases hb⟩,Turned.of_below h d,hs3,ho1⟩
theorem Zo.next {w wr W W2:World}{g:Nat}{q:zl}{x:Acc}{mod:Int}{l:List Int}{vc:Value}{hc:Option Nat}{k:Nat}{o o2:Value}{h1 h2:Option Nat}(hR:Zo w wr g q x mod l vc hc k o)(hk:k < l.length)(ht:Turned w W g q {x with boxes:=zf mod (l.take (k+1)) x.boxes} q)(hsrc:Sl W 3 1 vc hc l.length (l.map encI))(hf1:∀b,h1=some b→w.heap.size≤b)(hne:∀b,h1=some b→hc≠some b)(hs2:Sl W2 177 4 o2 h2 (k+1) (zM (zn mod (l.take k))++[.int .i64 mod,.int .i64 1,.int .i64 l[k],.int .i64 2]))(hc2:Chg h1.toList W W2)(ho2:h2=h1∨∃g,h2=some g∧W.heap.size≤g)(hw:zh w g q x) :
  Zo w W2 g q x mod l vc hc (k+1) o2:=by
 have a:=ht.chg.size
 refine⟨⟨h2,?_,fun b hb=>?_⟩,?_,?_,hR.new⟩
 ·rw[List.take_succ_eq_append_getElem hk,Xe,zP]
  exact hs2
 ·rcases ho2 with h3|⟨g2,h3,h4⟩
  ·exact hf1 b (by rw[←h3];exact hb)
  ·rw[h3] at hb
   injection hb with hb
   omega
 ·exact ht.newer hw hc2 fun k hk=>hf1 k (by simpa using hk)
 ·exact hsrc.chg hc2 (fun b hb hm=>hne b (by simpa using hm) hb)
theorem uS (w:World)(g:Nat)(q:zl)(x:Acc)(h:zh w g q x)(hn:x.boxes.length≤1099511627776)(mod:Int)(is:List Int)(v:Value)(S:List Nat)(hr:RdS w S 1 v is.length (is.map encI))(hin:is.length≤1099511627776)(hall:∀i∈is,i∈ids x.boxes) :
  Calls Tryz.prog 99 #[.pointer (some ⟨g,0,none⟩),.int .i64 mod,v] w fun e w'=>∃v' hh,e=.returned v'∧Sl w' 177 4 v' hh (rise is).length (zM (zn mod (rise is)))∧(∀b,hh=some b→w.heap.size≤b)∧Turned w w' g q {x with boxes:=zf mod (rise is) x.boxes} q:=by
 obtain⟨i0,hi,aa,ab,ac⟩:=info_parts Try.infoEntry
 have F:=xK w v is S hr hin
 have c:∀i∈rise is,i∈ids x.boxes:=fun i hi=>hall i ((vB is i).1 hi)
 have G:=zY is
 have H:=Y3 is
 generalize rise is=l at c G H ⊢
 obtain⟨n,P⟩:∃n,l.length=n:=⟨_,rfl⟩
 have HW:=zdG h
 have I:=zdG c
 clear hr hall c h
 go_enter Tryz.func99,Tryz.ntmps99
 go_wp2_with (first
  |(go_at_call 135;refine F.mono ?_;rintro e w1 ⟨v1,Q,rfl,R,T,U⟩;have J:=JA w1 v1 Q is.length is R (by omega);have K:=zdG T;have L:=zdG U;clear F R T U)
  |(go_at_call 165;refine J.mono ?_;rintro e w2 ⟨rfl,V,W⟩;have M:=Xx w2 v1 Q is.length (Xr is) V (by omega);have N:=zdG W;clear J V W)
  |(go_at_call 166;refine M.mono ?_;rintro e w3 ⟨v3,rfl,t,X⟩;rw[H] at t;have HT:=zdG (Zo.start (mod:=mod) HW.out K.out L.out N.out X t);obtain⟨A3,f,rfl,_,_⟩:=t.form;clear M t X K L N)
  |fail)
 rw[P] at HT
 go_loopw [8,18] (fun o i wr=>∃k:Nat,k≤n∧i=.int .i64 k∧Hid (Zo w wr g q x mod l (.slice A3 n f) Q k o)) (fun _ i _=>n - (intOf i).toNat)
 case atStart=>exact⟨0,Nat.zero_le _,rfl,HT⟩
 case round=>
  obtain⟨k,hk,rfl,u⟩:=hrel
  by_cases ak:k < n
  ·have A:k < l.length:=by omega
   obtain⟨j,b,Y,al,hj,Z,cf,⟨u0,cu⟩,hg,hb,a0,y⟩:=u.out.box A I.out hn HW.out
   obtain⟨b3,m,ad,_,D,_,_,am,z⟩:=u.out.src.at_ (by omega)
   injection D with hv1 hv2 D
   subst hv1 D
   clear hv2
   have cs:wr.cell? ⟨b3,m+k,none⟩=some (.int .i64 l[k]):=by
    rw[(z k (by omega)).1]
    simp[A]
   obtain⟨h0,a,r⟩:=u.out.out
   obtain⟨A0,s,rfl,_,_⟩:=a.form
   have HE:=zdG y
   have a6:=zdG a
   have O:=zdG r
   obtain⟨id,hid⟩:∃id,l[k]=id:=⟨_,rfl⟩
   have a7:=zdG hid
   rw[hid] at cs a0
   obtain⟨nb,a1⟩:∃nb,x.boxes.length=nb:=⟨_,rfl⟩
   rw[a1] at Z hj
   have ag:(j:Int) < (nb:Int):=by omega
   clear z y a r hid a1
   go_upto_region 7 with(fail)
   go_cut [10] (fun i wx=>i=.int .i64 id∧Hid (Turned w wx g q {x with boxes:=zf mod (l.take (k+1)) x.boxes} q∧Sl wx 3 1 (.slice (some ⟨b3,m,none⟩) n f) Q l.length (l.map encI)∧Sl wx 177 4 (.slice A0 k s) h0 k (zM (zn mod (l.take k)))))
   case first=>
    go_region_with (first
     |(go_at_call 110;refine(a0 _ (zb _)).mono ?_;rintro e w4 ⟨rfl,a2⟩;have d:=yV a2;have ah:=(d.cell (p:=⟨g,10,none⟩) hg).trans Z;have kf:=(vM d (p:=⟨b,Y+j * 6+5,none⟩) hb).trans cf;have ku:=(d.cell (p:=⟨b,Y+j * 6+5,none⟩) hb).trans cu;have B:=zdG d;clear a2 d)
     |fail)
    all_goals
     go_wp2_with fail
     go_meet
     exact⟨rfl,zdG ⟨(HE.out _ B.out).1,(HE.out _ B.out).2 u.out.src u.out.new,(HE.out _ B.out).2 a6.out O.out⟩⟩
   case rest=>
    obtain⟨rfl,E⟩:=hcut
    obtain⟨we,rfl⟩:∃we:World,we=wc:=⟨_,rfl⟩
    go_wp2_with (first
     |(at_builtin;refine zC rfl _ _ 102 rfl Tryz.underlying102 hi aa ab ac rfl (by decide) E.out.2.2 rfl 1 1 rfl rfl ?_ ?_ ?_ ?_))
    ·simp[Value.oneCell']
    ·unfold maxLen
     omega
    ·omega
    ·intro v2 h2 w5 a3 a4 a5
     have HN:Hid (Zo w w5 g q x mod l (.slice (some ⟨b3,m,none⟩) n f) Q (k+1) v2):=zdG (by
      have hid:=a7.out
      subst hid
      exact u.out.next A E.out.1 E.out.2.1 O.out (fun b' hb' e=>E.out.2.1.XR E.out.2.2 (by decide) b' e hb') a3 a4 a5 HW.out)
     clear a3 a4 a5 E
     go_wp2_with fail
     refine⟨?_,by simp[intOf];omega⟩
     first|exact⟨k+1,by omega,by go_num,HN⟩|((repeat apply Exists.intro);exact⟨⟨k+1,by omega,by go_num,HN⟩,rfl⟩)
  ·have a8:k=n:=by omega
   subst a8
   obtain⟨h0,a,r⟩:=u.out.out
   obtain⟨A0,s,rfl,ae,af⟩:=a.form
   rw[List.take_of_length_le (by omega)] at a
   have C:=u.out.st
   rw[List.take_of_length_le (by omega)] at C
   have ai:(0:Int)≤(k:Int):=by omega
   have aj:(k:Int)≤(s:Int):=by omega
   have HF:=zdG r
   have HS:=zdG a
   have a9:=zdG C
   clear a C r u
   go_wp2_with fail
   go_ret
   refine⟨_,h0,rfl,?_,HF.out,a9.out⟩
   rw[P]
   exact HS.out.tight
theorem xR (id:Int)(l:List yg):decide (yx id l < 0)=!zu l id:=by
 have h:=ZJ (fun b:yg=>decide (b.id=id)) l
 have c:zu l id=decide (0≤yx id l):=h
 rw[c]
 by_cases a:yx id l < 0
 ·rw[decide_eq_true a,decide_eq_false (by omega)]
  rfl
 ·rw[decide_eq_false a,decide_eq_true (by omega)]
  rfl
theorem QF (w:World)(g:Nat)(q:zl)(x:Acc)(h:zh w g q x)(hn:x.boxes.length≤1099511627776)(B:Nat)(hB:w.cell? ⟨B,0,none⟩=some (.pointer (some ⟨g,0,none⟩)))(W:World)(hb:Below w.heap.size w W)(id:Int) :
  Calls Tryz.prog 167 (#[.int .i64 id]++#[.pointer (some ⟨B,0,none⟩)]) W fun e w'=>e=.returned (.bool (!zu x.boxes id))∧Below w.heap.size w w':=by
 show Calls Tryz.prog 167 #[.int .i64 id,.pointer (some ⟨B,0,none⟩)] W _
 have c:=World.block_lt_of_cell? _ _ hB
 have i:=(hb.cell (p:=⟨B,0,none⟩) c).trans hB
 have a:=h.later hb
 have b:=y9 g q.vb [] x.boxes id W a.zQ (a.boxes.reads [] (by simp)) hn
 rw[←xR]
 generalize yx id x.boxes=r at b
 have f:=zdG hb
 clear hB a h hb
 go_enter Tryz.func167,Tryz.ntmps167
 go_wp2_with (first
  |(go_at_call 110;refine b.mono ?_;rintro e j ⟨rfl,d⟩)
  |fail)
 go_ret
 exact⟨rfl,za f.out d⟩
theorem uQ (w:World)(g:Nat)(q:zl)(x:Acc)(h:zh w g q x)(hn:x.boxes.length≤1099511627776)(is:List Int)(v:Value)(S:List Nat)(hr:RdS w S 1 v is.length (is.map encI))(hin:is.length≤1099511627776) :
  Calls Tryz.prog 91 #[.pointer (some ⟨g,0,none⟩),v] w fun e w'=>∃v' hh,e=.returned (.tuple #[v',.bool (!(rise is).any (fun id=>!zu x.boxes id))])∧Sl w' 3 1 v' hh (rise is).length ((rise is).map encI)∧(∀b,hh=some b→w.heap.size≤b)∧Below w.heap.size w w':=by
 have i:=below_alloc1 w (.cells #[.pointer (some ⟨g,0,none⟩)] 25)
 have n:=xK (w.alloc (.cells #[.pointer (some ⟨g,0,none⟩)] 25)) v is S (hr.below i) hin
 have o:(w.alloc (.cells #[.pointer (some ⟨g,0,none⟩)] 25)).cell? ⟨w.heap.size,0,none⟩=some (.pointer (some ⟨g,0,none⟩)):=(World.cell?_alloc_at _ _ _ _ rfl).trans rfl
 have p:=zY is
 have r:=Y3 is
 generalize rise is=l at p r ⊢
 have M:∀args W,(callFunc 167 args).run Tryz.prog W=.ok (.enter 167 args) W:=enters_of Tryz.func167 (by kernel_rfl) rfl
 have a:∀(f:World) m h3,Below (w.alloc (.cells #[.pointer (some ⟨g,0,none⟩)] 25)).heap.size (w.alloc (.cells #[.pointer (some ⟨g,0,none⟩)] 25)) f→Sl f 3 1 m h3 l.length (l.map encI)→
   Calls Tryz.prog 93 #[m,.func (.func 167) #[] #[.pointer (some ⟨w.heap.size,0,none⟩)]] f fun e w'=>e=.returned (.bool (l.any fun id=>!zu x.boxes id))∧Below f.heap.size f w':=fun f m h3 c d=>
  hasI_any m [] l (fun id=>!zu x.boxes id) _ _ M f (d.reads [] (by simp)) (by omega) (fun W hb id _=>QF f g q x (h.later (za i c)) hn _ ((c.cell (by simp)).trans o) W hb id)
 generalize (l.any fun id=>!zu x.boxes id)=ans at a
 have s:=zdG i
 have K:=zdG a
 clear hr i o M a h
 go_enter Tryz.func91,Tryz.ntmps91
 go_wp2_with (first
  |(go_at_call 135;refine n.mono ?_;rintro e O ⟨N,J,rfl,C,D,E⟩;have t:=JA O N J is.length is C (by omega);have u:=zdG D;have j:=zdG E;clear n C D E)
  |(go_at_call 165;refine t.mono ?_;rintro e P ⟨rfl,F,G⟩;have y:=Xx P N J is.length (Xr is) F (by omega);have z:=zdG (u.out.trans (G.below u.out.size (fun k hk=>j.out k (by simpa using hk))));clear t F G)
  |(go_at_call 166;refine y.mono ?_;rintro e f ⟨m,rfl,d,H⟩;rw[r] at d;have c:=z.out.trans (H.below z.out.size (fun k hk=>j.out k (by simpa using hk)));have a:=K.out f m J c d;have A:=zdG d;have L:=zdG c;clear y d H c)
  |(go_at_call 93;refine a.mono ?_;rintro e Q ⟨rfl,I⟩;have B:=zdG I;clear I a)
  |fail)
 go_ret2
 exact⟨m,J,rfl,A.out.keep (fun b hb=>B.out.block b (A.out.lt b hb)),fun b hb=>Nat.le_trans s.out.size (j.out b hb),za (za s.out L.out) B.out⟩
end Go.Proofs.YtfhlhdmhgheonaaGreatDoor
namespace Go.Proofs.YtfhlhdmhgheonaaGreatDoor
open Go.RowKit
attribute [local go_sem ↓] Go.wp_at_zero Go.wp_at_succ
theorem Q8 (g o:Nat)(x y:Int)(w:World)(hc:w.cell? ⟨g,o,none⟩=some (.int .i64 x))(hf:w.frozen? ⟨g,o,none⟩=false)(hs:-9223372036854775808≤x+y∧x+y≤9223372036854775807) :
  Calls Tryz.prog 169 #[.pointer (some ⟨g,o,none⟩),.int .i64 y] w fun e w'=>e=.returned (.int .i64 (x+y))∧w'=w.setCell ⟨g,o,none⟩ (.int .i64 (x+y)):=by
 have b:IntKind.i64.wrap (x+y)=x+y:=IntWalk.i64_in _ hs
 have c:=run_call_add (P:=Tryz.prog) (f:=202) Tryz.func202 rfl rfl rfl .i64 rfl (a:=⟨g,o,none⟩) (x:=x) (y:=y) (s:=x+y) (w:=w) hc hf (by simp[Op.intArith,b])
 go_enter Tryz.func169,Tryz.ntmps169
 go_wp2
 go_ret
 exact⟨rfl,rfl⟩
theorem Xz (g o:Nat)(x:Int)(w:World)(hc:w.cell? ⟨g,o,none⟩=some (.int .i64 x)) :
  Calls Tryz.prog 57 #[.pointer (some ⟨g,o,none⟩)] w fun e w'=>e=.returned (.int .i64 x)∧w=w':=by
 have b:=run_call_load (P:=Tryz.prog) (f:=149) Tryz.func149 rfl rfl rfl .i64 rfl (a:=⟨g,o,none⟩) (x:=x) (w:=w) hc
 go_enter Tryz.func57,Tryz.ntmps57
 go_wp2
 go_ret
 exact⟨rfl,rfl⟩
theorem Ym (g:Nat)(x:Int)(w:World)(hc:w.cell? ⟨g,9,none⟩=some (.int .i64 x)) :
  Calls Tryz.prog 14 #[.pointer (some ⟨g,0,none⟩)] w fun e w'=>e=.returned (.int .i64 x)∧w=w':=by
 have a:=Xz g 9 x w hc
 go_enter Tryz.func14,Tryz.ntmps14
 go_wp2_with (first
  |(go_at_call 57;refine a.mono ?_;rintro e w' ⟨rfl,rfl⟩)
  |fail)
 go_ret
 exact⟨rfl,rfl⟩
theorem uo (g:Nat)(x:Int)(w:World)(hc:w.cell? ⟨g,9,none⟩=some (.int .i64 x))(hf:w.frozen? ⟨g,9,none⟩=false)(hx:0≤x∧x≤4294967296) :
  Calls Tryz.prog 95 #[.pointer (some ⟨g,0,none⟩)] w fun e w'=>e=.returned (.int .i64 (x+1))∧w'=w.setCell ⟨g,9,none⟩ (.int .i64 (x+1)):=by
 have a:=Q8 g 9 x 1 w hc hf (by omega)
 go_enter Tryz.func95,Tryz.ntmps95
 go_wp2_with (first
  |(go_at_call 169;refine a.mono ?_;rintro e w' ⟨rfl,rfl⟩)
  |fail)
 go_ret
 exact⟨rfl,rfl⟩
theorem yQ (g:Nat)(x m:Int)(w:World)(hc:w.cell? ⟨g,9,none⟩=some (.int .i64 x))(hm:w.cell? ⟨g,6,none⟩=some (.int .i64 m)) :
  Calls Tryz.prog 92 #[.pointer (some ⟨g,0,none⟩)] w fun e w'=>e=.returned (.bool (decide (m≤x)))∧∃n,w'=w.drewN n:=by
 have a:=fun W (h:W.heap=w.heap)=>Ym g x W (by rw[show W.cell? ⟨g,9,none⟩=w.cell? ⟨g,9,none⟩ from World.cell?_of_block (by rw[h])];exact hc)
 go_enter Tryz.func92,Tryz.ntmps92
 go_wp2_with fail
 go_region_with (first
  |(go_at_call 14;refine(a _ (by rfl)).mono ?_;rintro e b ⟨rfl,rfl⟩)
  |fail)
 all_goals
  go_wp2
  go_ret
  exact⟨rfl,1,rfl⟩
end Go.Proofs.YtfhlhdmhgheonaaGreatDoor
namespace Go.Proofs.YtfhlhdmhgheonaaGreatDoor
open Go.Shelf Go.RowKit Go.Lib
attribute [local go_sem ↓] Go.wp_at_zero Go.wp_at_succ
theorem ZM (g o:Nat)(x y:Int)(w:World)(hc:w.cell? ⟨g,o,none⟩=some (.int .i64 x))(hf:w.frozen? ⟨g,o,none⟩=false) :
  Calls Tryz.prog 42 #[.pointer (some ⟨g,o,none⟩),.int .i64 y] w fun e w'=>e=.returned (.tuple #[])∧w'=w.setCell ⟨g,o,none⟩ (.int .i64 y):=by
 have b:=run_call_store (P:=Tryz.prog) (f:=102) Tryz.func102 rfl rfl rfl rfl (a:=⟨g,o,none⟩) (k:=.i64) (y:=y) (u:=.int .i64 x) (w:=w) hc hf
 go_enter Tryz.func42,Tryz.ntmps42
 go_wp2
 go_end0
 exact⟨rfl,rfl⟩
theorem zdy (w:World):Calls Tryz.prog 40 #[.string ⟨#[117]⟩] w fun e w'=>e=.returned (.bool true)∧w=w':=by
 have h:=XZ ⟨#[117]⟩ w (by decide)
 rw[show Zn (⟨#[117]⟩:ByteArray).data.toList=true from by decide] at h
 exact h
theorem zcx (w:World):Calls Tryz.prog 40 #[.string ⟨#[112]⟩] w fun e w'=>e=.returned (.bool true)∧w=w':=by
 have h:=XZ ⟨#[112]⟩ w (by decide)
 rw[show Zn (⟨#[112]⟩:ByteArray).data.toList=true from by decide] at h
 exact h
theorem ZV (w:World)(o:Obj)(t:TypeId)(cs:Array Value):Blk ((w.alloc o).alloc (.cells cs t)) (w.heap.size+1) t cs:=by
 have h:=Blk.new (w.alloc o) t cs
 rw[show (w.alloc o).heap.size=w.heap.size+1 from by simp] at h
 exact h
def Jv (m1 m2 m3 m4 m5 m6 m7:Int):Xv:=⟨[117],[112],m1,m2,m3,m4,m5,m6,m7⟩
def lim (m:Int):Prop:=1≤m∧m≤2147483647
theorem U3 (m1 m2 m3 m4 m5 m6 m7:Int)(h1:lim m1)(h2:lim m2)(h3:lim m3)(h4:lim m4)(h5:lim m5)(h6:lim m6)(h7:lim m7)(w:World) :
  Calls Tryz.prog 9 #[.agg #[.string ⟨#[117]⟩,.string ⟨#[112]⟩,.int .i64 m1,.int .i64 m2,.int .i64 m3,.int .i64 m4,.int .i64 m5,.int .i64 m6,.int .i64 m7]] w fun e w'=>∃g q,e=.returned (.tuple #[.pointer (some ⟨g,0,none⟩),.int .i64 0])∧xI w w' g q (newP (Jv m1 m2 m3 m4 m5 m6 m7)):=by
 have u:=fun W=>zdy W
 have v:=fun W=>zcx W
 have x:=fun W=>new_ok m6 W (by unfold lim at h6;omega)
 have c:∀k,k < 7→∃m,lim m∧((w.alloc (.cells #[.string ⟨#[117]⟩,.string ⟨#[112]⟩,.int .i64 m1,.int .i64 m2,.int .i64 m3,.int .i64 m4,.int .i64 m5,.int .i64 m6,.int .i64 m7] 30)).alloc (.cells #[.int .i64 m1,.int .i64 m2,.int .i64 m3,.int .i64 m4,.int .i64 m5,.int .i64 m6,.int .i64 m7] 3)).cell? ⟨w.heap.size+1,k,none⟩=some (.int .i64 m):=by
  intro k j
  have B:=Blk.new (w.alloc (.cells #[.string ⟨#[117]⟩,.string ⟨#[112]⟩,.int .i64 m1,.int .i64 m2,.int .i64 m3,.int .i64 m4,.int .i64 m5,.int .i64 m6,.int .i64 m7] 30)) 3 #[.int .i64 m1,.int .i64 m2,.int .i64 m3,.int .i64 m4,.int .i64 m5,.int .i64 m6,.int .i64 m7]
  have l:=B.cell k
  rw[show (w.alloc (.cells #[.string ⟨#[117]⟩,.string ⟨#[112]⟩,.int .i64 m1,.int .i64 m2,.int .i64 m3,.int .i64 m4,.int .i64 m5,.int .i64 m6,.int .i64 m7] 30)).heap.size=w.heap.size+1 from by simp] at l
  rw[l]
  rcases k with _|_|_|_|_|_|_|k
  ·exact⟨m1,h1,rfl⟩
  ·exact⟨m2,h2,rfl⟩
  ·exact⟨m3,h3,rfl⟩
  ·exact⟨m4,h4,rfl⟩
  ·exact⟨m5,h5,rfl⟩
  ·exact⟨m6,h6,rfl⟩
  ·exact⟨m7,h7,rfl⟩
  ·omega
 have y:=zdG c
 clear c h1 h2 h3 h4 h5 h6 h7
 go_enter Tryz.func9,Tryz.ntmps9
 go_wp2_with (first
  |(go_at_call 40;(with_reducible refine(u _).mono ?_);rintro e E ⟨rfl,rfl⟩;clear u)
  |(go_at_call 40;(with_reducible refine(v _).mono ?_);rintro e E ⟨rfl,rfl⟩;clear v)
  |fail)
 go_loop [35] (fun i=>∃k:Nat,k≤7∧i=.int .i64 k) (fun i=>7 - (intOf i).toNat)
 case atStart=>exact⟨0,Nat.zero_le _,rfl⟩
 case round=>
  obtain⟨k,j,rfl⟩:=hrel
  by_cases s:k < 7
  ·obtain⟨m,⟨F,G⟩,l⟩:=y.out k s
   have C:(k:Int) < 7:=by omega
   have H:¬m < 1:=by omega
   have I:¬2147483647 < m:=by omega
   go_wp2_with fail
   refine⟨?_,by simp[intOf];omega⟩
   first|exact⟨k+1,by omega,by go_num⟩|((repeat apply Exists.intro);exact⟨⟨k+1,by omega,by go_num⟩,rfl⟩)
  ·have n:k=7:=by omega
   subst n
   have D:=zdG ((Blk.new w 30 #[.string ⟨#[117]⟩,.string ⟨#[112]⟩,.int .i64 m1,.int .i64 m2,.int .i64 m3,.int .i64 m4,.int .i64 m5,.int .i64 m6,.int .i64 m7]).alloc (.cells #[.int .i64 m1,.int .i64 m2,.int .i64 m3,.int .i64 m4,.int .i64 m5,.int .i64 m6,.int .i64 m7] 3))
   have o:=zdG (za (below_alloc1 w (.cells #[.string ⟨#[117]⟩,.string ⟨#[112]⟩,.int .i64 m1,.int .i64 m2,.int .i64 m3,.int .i64 m4,.int .i64 m5,.int .i64 m6,.int .i64 m7] 30)) (below_alloc1 _ (.cells #[.int .i64 m1,.int .i64 m2,.int .i64 m3,.int .i64 m4,.int .i64 m5,.int .i64 m6,.int .i64 m7] 3)))
   clear y
   go_wp2_with (first
    |(go_at_call 41;refine(x _).mono ?_;rintro e b ⟨rfl,A,t,h⟩;have a:=D.out.below t (by simp;omega);have J:b.cell? ⟨w.heap.size,0,none⟩=some (.string ⟨#[117]⟩):=a.cell 0;have K:b.cell? ⟨w.heap.size,1,none⟩=some (.string ⟨#[112]⟩):=a.cell 1;have L:b.cell? ⟨w.heap.size,2,none⟩=some (.int .i64 m1):=a.cell 2;have M:b.cell? ⟨w.heap.size,3,none⟩=some (.int .i64 m2):=a.cell 3;have N:b.cell? ⟨w.heap.size,4,none⟩=some (.int .i64 m3):=a.cell 4;have O:b.cell? ⟨w.heap.size,5,none⟩=some (.int .i64 m4):=a.cell 5;have P:b.cell? ⟨w.heap.size,6,none⟩=some (.int .i64 m5):=a.cell 6;have Q:b.cell? ⟨w.heap.size,7,none⟩=some (.int .i64 m6):=a.cell 7;have R:b.cell? ⟨w.heap.size,8,none⟩=some (.int .i64 m7):=a.cell 8;have d:=zdG (za o.out t);have p:=zdG A;clear t A x a)
    |(go_at_call 42;(refine(ZM (b.heap.size+1) 9 0 1 _ ((ZV b _ _ _).cell 9) ((ZV b _ _ _).frozen 9)).mono ?_;rintro e S ⟨rfl,rfl⟩))
    |fail)
   go_ret2
   have f:=p.out
   simp only[World.size_alloc] at f
   have z:w.heap.size+1+1 < b.heap.size:=by simpa using h
   have r:=d.out.size
   refine⟨b.heap.size+1,⟨w.heap.size+1+1,none,some b.heap.size,none,.slice (some ⟨b.heap.size,0,none⟩) 1 1,.slice none 0 0,[]⟩,rfl,⟨VG (ZV b _ _ _) (f.chg (((Chg.refl [] b).alloc _).alloc _) (by simp) (by simp)) ((Blk.new b _ _).alloc _),(d.out.alloc r _).alloc (by simp;omega) _,fun k j=>?_⟩⟩
   simp only[zl.own,Option.toList,List.mem_cons,List.mem_append,List.not_mem_nil,or_false,false_or] at j
   rcases j with rfl|rfl|rfl <;> omega
end Go.Proofs.YtfhlhdmhgheonaaGreatDoor
namespace Go.Proofs.YtfhlhdmhgheonaaGreatDoor
open Go.Shelf Go.RowKit
attribute [local go_sem ↓] Go.wp_at_zero Go.wp_at_succ
theorem vU (w:World)(n:Int):Calls Tryz.prog 12 #[.int .i64 n] w fun e w'=>e=.returned (.int .i64 n)∧w=w':=by
 go_enter Tryz.func12,Tryz.ntmps12
 go_wp2
 go_ret
 exact⟨rfl,rfl⟩
theorem Vi (w:World)(g:Nat)(q:zl)(x:Acc)(h:zh w g q x)(hn:x.boxes.length≤1099511627776) :
  Calls Tryz.prog 39 #[.pointer (some ⟨g,0,none⟩)] w fun e w'=>∃v hh,e=.returned v∧Sl w' 89 6 v hh x.boxes.length (zk xQ x.boxes)∧(∀b,hh=some b→w.heap.size≤b)∧Below w.heap.size w w':=by
 have a:=zbX w q.vb x.boxes.length (zk xQ x.boxes) (h.boxes.reads [] (by simp)) (ZI U7 x.boxes) hn
 have c:=h.zQ
 clear h
 go_enter Tryz.func39,Tryz.ntmps39
 go_wp2_with (first
  |(go_at_call 100;refine a.mono ?_;rintro e j ⟨v,hh,rfl,d,f,i⟩)
  |fail)
 go_ret
 exact⟨v,hh,rfl,d,i,f⟩
theorem wide_any (w:World):Calls Tryz.prog 37 #[] w fun e w'=>e=.returned (.agg #[.string ⟨#[117]⟩,.string ⟨#[112]⟩,.int .i64 1000,.int .i64 100,.int .i64 1048576,.int .i64 1073741824,.int .i64 1073741824,.int .i64 10000,.int .i64 200])∧Below w.heap.size w w':=by
 go_enter Tryz.func37,Tryz.ntmps37
 go_wp2
 refine bodyPost_ret (v:=.agg #[.string ⟨#[117]⟩,.string ⟨#[112]⟩,.int .i64 1000,.int .i64 100,.int .i64 1048576,.int .i64 1073741824,.int .i64 1073741824,.int .i64 10000,.int .i64 200]) ?_ rfl ⟨rfl,?_⟩
 ·simp[results,Tryz.results37,go_sem]
 ·exact below_alloc1 w _
end Go.Proofs.YtfhlhdmhgheonaaGreatDoor
namespace Go.Proofs.YtfhlhdmhgheonaaGreatDoor
open Go.Shelf Go.RowKit
def baOf (s:Text):ByteArray:=⟨s.toArray⟩
theorem za6 {a b:Text}(h:baOf a=baOf b):a=b:=by
 have c:=congrArg (fun x=>x.data.toList) h
 simpa[baOf] using c
theorem Jg {w:World}{S:List Nat}{v:Value}{ss:zN}(h:RdS w S 1 v ss.length (ss.map encStr))(hn:0 < ss.length) :
  ∃b off cap,v=.slice (some ⟨b,off,none⟩) ss.length cap∧∀j,j < (ss.map baOf).length→w.cell? ⟨b,off+j,none⟩=some (.string ((ss.map baOf).getD j ByteArray.empty)):=by
 obtain⟨b,off,cap,d,_,_,_,_,c⟩:=h.at_ hn
 refine⟨b,off,cap,d,fun j hj=>?_⟩
 have a:j < ss.length:=by simpa using hj
 rw[c j (by omega)]
 simp[List.getD,a,encStr,baOf]
theorem Xj (w:World)(v1 v2:Value)(S1 S2:List Nat)(xs ys:zN)(h1:RdS w S1 1 v1 xs.length (xs.map encStr))(h2:RdS w S2 1 v2 ys.length (ys.map encStr))(hn1:xs.length≤1099511627776)(hn2:ys.length≤1099511627776) :
  Calls Tryz.prog 127 #[v1,v2] w fun e w'=>e=.returned (.bool (decide (xs=ys)))∧Below w.heap.size w w':=by
 by_cases f:xs.length=ys.length
 case neg=>
  have j:decide (xs=ys)=false:=decide_eq_false (fun e=>f (by rw[e]))
  rw[j]
  obtain⟨g,c,rfl,_,_⟩:=h1.form
  obtain⟨i,d,rfl,_,_⟩:=h2.form
  refine(Tryz.slices_Equal_string_lens g i xs.length c ys.length d w f).mono ?_
  rintro e w' ⟨rfl,rfl⟩
  exact⟨rfl,Below.refl _ _⟩
 by_cases k:xs.length=0
 ·obtain rfl:xs=[]:=List.eq_nil_of_length_eq_zero k
  obtain rfl:ys=[]:=List.eq_nil_of_length_eq_zero (by rw[←f];rfl)
  obtain⟨g,c,rfl,_,_⟩:=h1.form
  obtain⟨i,d,rfl,_,_⟩:=h2.form
  refine(Tryz.slices_Equal_string_empty g i c 0 d w (by omega)).mono ?_
  rintro e w' ⟨rfl,rfl⟩
  exact⟨rfl,Below.refl _ _⟩
 ·obtain⟨l,m,c,rfl,o⟩:=Jg h1 (by omega)
  obtain⟨p,q,d,rfl,r⟩:=Jg h2 (by omega)
  refine(Tryz.slices_Equal_string l m xs.length c p q ys.length d (xs.map baOf) (ys.map baOf) w (by simp) (by simp) (by omega) (by omega) o r).mono ?_
  rintro e w' ⟨rfl,n,rfl⟩
  refine⟨zH ?_,⟨rfl,rfl,rfl,Nat.le_refl _,fun _ _=>rfl⟩⟩
  rw[List.take_of_length_le (by simp),List.take_of_length_le (by simp)]
  refine decide_eq_decide.2 ⟨fun h=>?_,fun h=>by rw[h]⟩
  exact(List.map_inj_right (fun a b hab=>za6 hab)).1 h
theorem zaQ (w:World)(v:Value)(S:List Nat)(ss:zN)(c:Text)(h:RdS w S 1 v ss.length (ss.map encStr))(hn:ss.length≤1099511627776) :
  Calls Tryz.prog 128 #[v,.string ⟨c.toArray⟩] w fun e w'=>e=.returned (.bool (decide (c∈ss)))∧w=w':=by
 by_cases g:ss.length=0
 ·obtain rfl:ss=[]:=List.eq_nil_of_length_eq_zero g
  obtain⟨i,d,rfl,_,_⟩:=h.form
  refine(Tryz.slices_Contains_string_empty i d ⟨c.toArray⟩ w).mono ?_
  rintro e w' ⟨rfl,rfl⟩
  exact⟨by simp,rfl⟩
 ·obtain⟨j,k,d,rfl,l⟩:=Jg h (by omega)
  refine(Tryz.slices_Contains_string j k ss.length d (ss.map baOf) ⟨c.toArray⟩ w (by simp) (by omega) l).mono ?_
  rintro e w' ⟨rfl,rfl⟩
  refine⟨zH ?_,rfl⟩
  rw[List.take_of_length_le (by simp),Bool.eq_iff_iff,Lib.containsS_iff,decide_eq_true_iff]
  constructor
  ·intro f
   obtain⟨a,m,e⟩:=List.mem_map.1 f
   rw[←za6 (a:=a) (b:=c) e]
   exact m
  ·intro f
   exact List.mem_map.2 ⟨c,f,rfl⟩
end Go.Proofs.YtfhlhdmhgheonaaGreatDoor
