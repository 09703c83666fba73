/-
  Small laws over any program, for the walks of this seat: an append of what a literal has just laid. Memory in words of this seat: a block known whole, what a step has turned, a slice that the call's own memory holds (at any offset), and append onto it. Over any program. The log in plain words, with no program in sight: entries, what is added, what is told since a state, in the program's own order 
-/
import Derived.WalkKit
import Derived.WalkSpells
import Derived.WalkLawsBesides
import Derived.Lib.Hide
import Derived.RegionTactic
import Derived.Deep.Draws
import Derived.Below
import Derived.Test.YtfhlhdmhgheonaaGreatDoorProg
import Derived.Deep.QuietTactic
import Derived.BigQuiet
import Derived.Deep.RegionLaw
import Derived.Deep.DrawnRows
import Derived.Deep.DeepCutAuto
import Derived.Deep.CutBlock
import Derived.RangeFuncFrom
set_option maxRecDepth 100000
set_option maxHeartbeats 8000000
namespace Go.Proofs.YtfhlhdmhgheonaaGreatDoor
theorem zdG {p : Prop} (h : p) : Go.RowKit.Hid p := Go.Lib.hid h
open Go.RowKit
theorem zH {a b:Bool}(h:a=b):Ending.returned (.bool a)=.returned (.bool b):=by rw[h]
theorem zaI {k:IntKind}{a b:Int}(h:a=b):Ending.returned (.int k a)=.returned (.int k b):=by rw[h]
theorem Addr.uy (g j:Nat):(⟨g,0,none⟩:Addr).add j=⟨g,j,none⟩:=by
 unfold Addr.add
 split <;> simp_all
theorem Xl {P:Program}{W:World}{cs:Array Value}{e':TypeId}{ops:Array Oper}{rest:List Oper}{o:Oper}{a:Act}{Q:Exit→Act→World→Prop}(hgd:o.guard=none)(s x:Operand)(t:TypeId)(ho:o.op=.call {callee:=.builtin .append,args:=#[s,x],argTypes:=#[t,t]}){base:Nat}{e:TypeId}{i:TypeInfo}{z:Value}{size bytes:Nat}(ht:P.underlying t=some (.slice e))(hi:P.info? e=some i)(hz:i.zero=some z)(hsize:i.size=size)(hby:i.bytes=bytes)(hzs:z.cells.size=size)(hsz:0 < size){v:Value}{n:Nat}{xs:List Value}(hown:W.ownsRow base e size v n xs)(hs:a.eval s=v)(m c:Nat)(hx:a.eval x=.slice (some ⟨W.heap.size,0,none⟩) m c)(hl:cs.toList.length=m * size)(h1:∀u∈cs.toList,u.oneCell'=true)(h63:n+m≤maxLen)(hbytes:(n+m) * bytes≤140737488355328)(hbase:base≤W.heap.size)(h:∀v' w',w'.ownsRow base e size v' (n+m) (xs++cs.toList)→W.grownBy w' v.ownBlock→(v'=.slice none 0 0↔v=.slice none 0 0∧m=0)→wpList P ops Q rest (a.put o.dst v') w') :
  wpList P ops Q (o :: rest) a (W.alloc (.cells cs e')):=by
 refine wpList_append_own _ hgd s x t ho base e i z size bytes ht hi hz hsize hby hzs hsz v n xs hs (hown.alloc _) ⟨W.heap.size,0,none⟩ m c cs.toList hx hl ?_ h1 h63 hbytes (by simp;omega) ?_
 ·intro j u d
  rw[Addr.uy,World.cell?_alloc_at _ _ _ _ rfl]
  simpa using d
 ·intro v' w' f b g
  refine h v' w' f ?_ g
  refine⟨b.os,b.tape,b.output,Nat.le_trans (by simp) b.size,fun k hk hne=>?_⟩
  rw[b.block k (by simp;omega) hne]
  exact Below.heap_alloc _ _ _ hk
theorem V5 {P:Program}{w:World}{src e base n:Nat}{v:Value}{xs:List Int}(hs:P.underlying src=some (.slice e))(he:P.underlying e=some (.int .u8))(h:w.ownsRow base e 1 v n (xs.map (Value.int .u8)))(dst:TypeId)(hd:P.underlying dst=some .string) :
  (convert src dst v).run P w=.ok (.string (strOfNums xs)) w:=by
 have a:xs.length=n:=by have:=h.1;simpa using this
 rcases h.2 with⟨rfl,rfl⟩|⟨g,cap,cur,rfl,_,hg,hnc,_,hcs,htake⟩
 ·have:xs=[]:=List.eq_nil_of_length_eq_zero a
  subst this
  exact run_convert_bytes_nil w src e hs he 0 0 dst hd
 ·refine run_convert_bytes_arg w src e hs he g 0 n cap xs a (fun i hi=>?_) dst hd
  have b:=h.cellAt i (by omega)
  rw[Nat.zero_add,b]
  simp[List.getD,List.getElem?_eq_getElem (show i < xs.length by omega)]
end Go.Proofs.YtfhlhdmhgheonaaGreatDoor
namespace Go.Proofs.YtfhlhdmhgheonaaGreatDoor
open Go.RowKit
def Blk (w:World)(g:Nat)(t:TypeId)(cs:Array Value):Prop:=w.heap[g]?=some (.cells cs t (0,0))
structure Chg (S:List Nat)(w w':World):Prop where
 os:w'.os=w.os
 tape:w'.tape=w.tape
 output:w'.output=w.output
 size:w.heap.size≤w'.heap.size
 block:∀k,k < w.heap.size→k∉S→w'.heap[k]?=w.heap[k]?
section
variable {w w' w'':World} {g:Nat} {t:TypeId} {cs:Array Value} {S T:List Nat}
theorem Blk.lt (h:Blk w g t cs):g < w.heap.size:=by
 rcases Nat.lt_or_ge g w.heap.size with hlt|hge
 ·exact hlt
 ·unfold Blk at h
  rw[Array.getElem?_eq_none hge] at h
  cases h
theorem Blk.cell (h:Blk w g t cs)(i:Nat):w.cell? ⟨g,i,none⟩=cs[i]?:=cell_of_row w g i cs t (0,0) h
theorem Blk.frozen (h:Blk w g t cs)(i:Nat):w.frozen? ⟨g,i,none⟩=false:=by
 unfold Blk at h
 simp[World.frozen?,h]
theorem Blk.new (w:World)(t:TypeId)(cs:Array Value):Blk (w.alloc (.cells cs t)) w.heap.size t cs:=heap_alloc_new w _
theorem Blk.heap (h:Blk w g t cs)(e:w'.heap=w.heap):Blk w' g t cs:=by
 unfold Blk at h ⊢
 rw[e]
 exact h
theorem Blk.alloc (h:Blk w g t cs)(o:Obj):Blk (w.alloc o) g t cs:=(Below.heap_alloc w o g h.lt).trans h
theorem Blk.chg (h:Blk w g t cs)(hc:Chg S w w')(hg:g∉S):Blk w' g t cs:=(hc.block g h.lt hg).trans h
theorem Blk.below {B:Nat}(h:Blk w g t cs)(hb:Below B w w')(hg:g < B):Blk w' g t cs:=(hb.block g hg).trans h
theorem Blk.set (h:Blk w g t cs)(i:Nat)(u:Value):Blk (w.setCell ⟨g,i,none⟩ u) g t (cs.setIfInBounds i u):=by
 unfold Blk at h ⊢
 simp[World.setCell,Array.getElem?_modify,h]
theorem Blk.far (h:Blk w g t cs){p:Addr}(hp:g≠p.block)(u:Value):Blk (w.setCell p u) g t cs:=(Below.heap_setCell w p u g hp).trans h
theorem Blk.inj {t':TypeId}{cs':Array Value}(h:Blk w g t cs)(h':Blk w g t' cs'):t=t'∧cs=cs':=by
 unfold Blk at h h'
 rw[h] at h'
 simp only[Option.some.injEq,Obj.cells.injEq,and_true] at h'
 exact⟨h'.2,h'.1⟩
theorem Blk.ne {g':Nat}{t':TypeId}{cs':Array Value}(h:Blk w g t cs)(h':Blk w g' t' cs')(hne:t≠t'):g≠g':=by
 rintro rfl
 exact hne (h.inj h').1
theorem Chg.refl (S:List Nat)(w:World):Chg S w w:=⟨rfl,rfl,rfl,Nat.le_refl _,fun _ _ _=>rfl⟩
theorem Chg.mono (h:Chg S w w')(hs:∀k∈S,k∈T∨w.heap.size≤k):Chg T w w':=
 ⟨h.os,h.tape,h.output,h.size,fun k hk hn=>h.block k hk (fun hm=>by
  rcases hs k hm with h1|h1
  ·exact hn h1
  ·omega)⟩
theorem Chg.trans (h:Chg S w w')(k:Chg T w' w'')(hs:∀i∈T,i∈S∨w.heap.size≤i):Chg S w w'':=
 ⟨k.os.trans h.os,k.tape.trans h.tape,k.output.trans h.output,Nat.le_trans h.size k.size,fun i hi hn=>
  (k.block i (Nat.lt_of_lt_of_le hi h.size) (fun hm=>by
   rcases hs i hm with h1|h1
   ·exact hn h1
   ·omega)).trans (h.block i hi hn)⟩
theorem Chg.alloc (h:Chg S w w')(o:Obj):Chg S w (w'.alloc o):=
 ⟨h.os,h.tape,h.output,Nat.le_trans h.size (by simp),fun k hk hn=>(Below.heap_alloc w' o k (Nat.lt_of_lt_of_le hk h.size)).trans (h.block k hk hn)⟩
theorem Chg.heap (h:Chg S w w')(e:w''.heap=w'.heap)(e1:w''.os=w'.os)(e2:w''.tape=w'.tape)(e3:w''.output=w'.output):Chg S w w'':=
 ⟨e1.trans h.os,e2.trans h.tape,e3.trans h.output,by rw[e];exact h.size,fun k hk hn=>by rw[e];exact h.block k hk hn⟩
theorem Chg.drewN (h:Chg S w w')(n:Nat):Chg S w (w'.drewN n):=h.heap rfl rfl rfl rfl
theorem Chg.drew (h:Chg S w w'):Chg S w w'.drew:=h.heap rfl rfl rfl rfl
theorem Chg.set (h:Chg S w w'){p:Addr}(hp:p.block∈S∨w.heap.size≤p.block)(u:Value):Chg S w (w'.setCell p u):=
 ⟨h.os,h.tape,h.output,by simpa[World.setCell] using h.size,fun k hk hn=>(Below.heap_setCell w' p u k (by
  rintro rfl
  rcases hp with hp|hp
  ·exact hn hp
  ·omega)).trans (h.block k hk hn)⟩
theorem Chg.of_below (h:Below w.heap.size w w')(S:List Nat):Chg S w w':=⟨h.os,h.tape,h.output,h.size,fun k hk _=>h.block k hk⟩
theorem Chg.XW {row:Option Nat}(h:w.grownBy w' row):Chg row.toList w w':=
 ⟨h.os,h.tape,h.output,h.size,fun k hk hn=>h.block k hk (fun e=>hn (by rw[←e];simp))⟩
theorem Chg.cell (h:Chg S w w'){p:Addr}(hlt:p.block < w.heap.size)(hp:p.block∉S):w'.cell? p=w.cell? p:=World.cell?_of_block (h.block p.block hlt hp)
theorem Chg.frozen (h:Chg S w w'){p:Addr}(hlt:p.block < w.heap.size)(hp:p.block∉S):w'.frozen? p=w.frozen? p:=World.frozen?_of_block (h.block p.block hlt hp)
theorem Chg.below {B:Nat}(h:Chg S w w')(hb:B≤w.heap.size)(hs:∀k∈S,B≤k):Below B w w':=
 ⟨h.os,h.tape,h.output,h.size,fun k hk=>h.block k (by omega) (fun hm=>by have:=hs k hm;omega)⟩
def Sl (w:World)(e:TypeId)(size:Nat)(v:Value)(h:Option Nat)(n:Nat)(xs:List Value):Prop:=
 xs.length=n * size∧
 ((h=none∧v=.slice none 0 0∧n=0)∨
  ∃b off cap cur,h=some b∧v=.slice (some ⟨b,off,none⟩) n cap∧Blk w b e cur∧n≤cap∧cap≤maxLen∧off+cap * size≤cur.size∧(cur.toList.drop off).take (n * size)=xs)
variable {e:TypeId} {size n:Nat} {v:Value} {h:Option Nat} {xs:List Value}
theorem Sl.nil (w:World)(e:TypeId)(size:Nat):Sl w e size (.slice none 0 0) none 0 []:=⟨by simp,.inl ⟨rfl,rfl,rfl⟩⟩
theorem Sl.za9 {base:Nat}(ho:w.ownsRow base e size v n xs):Sl w e size v v.ownBlock n xs:=by
 refine⟨ho.1,?_⟩
 rcases ho.2 with⟨rfl,rfl⟩|⟨g,cap,cur,rfl,_,hg,hn,hc,hs,ht⟩
 ·exact .inl ⟨rfl,rfl,rfl⟩
 ·exact .inr ⟨g,0,cap,cur,rfl,rfl,hg,hn,hc,by omega,by simpa using ht⟩
theorem Sl.keep (hs:Sl w e size v h n xs)(hk:∀b,h=some b→w'.heap[b]?=w.heap[b]?):Sl w' e size v h n xs:=by
 refine⟨hs.1,?_⟩
 rcases hs.2 with hn|⟨b,off,cap,cur,hh,hv,hb,r⟩
 ·exact .inl hn
 ·exact .inr ⟨b,off,cap,cur,hh,hv,(hk b hh).trans hb,r⟩
theorem Sl.lt (hs:Sl w e size v h n xs):∀b,h=some b→b < w.heap.size:=by
 intro b a
 rcases hs.2 with⟨hn,_⟩|⟨b',off,cap,cur,hh,hv,hB,_⟩
 ·rw[a] at hn
  cases hn
 ·rw[a] at hh
  obtain rfl:=Option.some.inj hh
  exact hB.lt
theorem Sl.chg (hs:Sl w e size v h n xs)(hc:Chg S w w')(hn:∀b,h=some b→b∉S):Sl w' e size v h n xs:=
 hs.keep fun b hb=>hc.block b (hs.lt b hb) (hn b hb)
theorem Sl.heap (hs:Sl w e size v h n xs)(he:w'.heap=w.heap):Sl w' e size v h n xs:=hs.keep fun b _=>by rw[he]
theorem Sl.alloc (hs:Sl w e size v h n xs)(o:Obj):Sl (w.alloc o) e size v h n xs:=hs.keep fun b hb=>Below.heap_alloc w o b (hs.lt b hb)
theorem Sl.far (hs:Sl w e size v h n xs){p:Addr}(hp:h≠some p.block)(u:Value):Sl (w.setCell p u) e size v h n xs:=
 hs.keep fun b hb=>Below.heap_setCell w p u b (fun e=>hp (by rw[hb,e]))
theorem Sl.yN {g':Nat}{t':TypeId}{cs':Array Value}(hs:Sl w e size v h n xs)(hb:Blk w g' t' cs')(hne:e≠t'):∀b,h=some b→b≠g':=by
 intro b a
 rcases hs.2 with⟨hn,_⟩|⟨b',off,cap,cur,hh',hv,hB,_⟩
 ·rw[a] at hn
  cases hn
 ·rw[a] at hh'
  obtain rfl:=Option.some.inj hh'
  exact hB.ne hb hne
theorem Sl.at_ (hs:Sl w e size v h n xs)(hn:0 < n):∃b off cap,h=some b∧v=.slice (some ⟨b,off,none⟩) n cap∧n≤cap∧cap≤maxLen∧b < w.heap.size∧
  ∀j,j < n * size→w.cell? ⟨b,off+j,none⟩=xs[j]?∧w.frozen? ⟨b,off+j,none⟩=false:=by
 rcases hs.2 with⟨_,_,rfl⟩|⟨b,off,cap,cur,hh,hv,hB,hnc,hcm,hcs,ht⟩
 ·omega
 ·refine⟨b,off,cap,hh,hv,hnc,hcm,hB.lt,fun j hj=>⟨?_,hB.frozen _⟩⟩
  rw[hB.cell,←ht,List.getElem?_take,if_pos hj,List.getElem?_drop]
  simp
theorem Sl.form (hs:Sl w e size v h n xs):∃A cap,v=.slice A n cap∧n≤cap∧cap≤maxLen:=by
 rcases hs.2 with⟨_,rfl,rfl⟩|⟨b,off,cap,cur,_,hv,_,hnc,hcm,_⟩
 ·exact⟨none,0,rfl,Nat.le_refl _,Nat.zero_le _⟩
 ·exact⟨_,cap,hv,hnc,hcm⟩
theorem Sl.store {b off cap:Nat}(hs:Sl w e size (.slice (some ⟨b,off,none⟩) n cap) h n xs)(j:Nat)(u:Value) :
  Sl (w.setCell ⟨b,off+j,none⟩ u) e size (.slice (some ⟨b,off,none⟩) n cap) h n (xs.set j u):=by
 refine⟨by simpa using hs.1,?_⟩
 rcases hs.2 with⟨_,hv,_⟩|⟨b',off',cap',cur,hh,hv,hB,hnc,hcm,hcs,ht⟩
 ·cases hv
 ·simp only[Value.slice.injEq,Option.some.injEq,Addr.mk.injEq,and_true,true_and] at hv
  obtain⟨⟨rfl,rfl⟩,rfl⟩:=hv
  refine .inr ⟨b,off,cap,cur.setIfInBounds (off+j) u,hh,rfl,hB.set _ u,hnc,hcm,by simpa using hcs,?_⟩
  rw[Array.toList_setIfInBounds,←ht,←List.take_set,List.drop_set,if_neg (by omega),Nat.add_sub_cancel_left]
theorem Sl.cut {b off cap:Nat}(hs:Sl w e size (.slice (some ⟨b,off,none⟩) n cap) h n xs)(k:Nat)(hk:k < n) :
  Sl w e size (.slice (some ⟨b,off+k * size,none⟩) (n - k) (cap - k)) h (n - k) (xs.drop (k * size)):=by
 refine⟨by rw[List.length_drop,hs.1,Nat.sub_mul],?_⟩
 rcases hs.2 with⟨_,hv,_⟩|⟨b',off',cap',cur,hh,hv,hB,hnc,hcm,hcs,ht⟩
 ·cases hv
 ·simp only[Value.slice.injEq,Option.some.injEq,Addr.mk.injEq,and_true,true_and] at hv
  obtain⟨⟨rfl,rfl⟩,rfl⟩:=hv
  refine .inr ⟨b,off+k * size,cap - k,cur,hh,rfl,hB,by omega,by omega,?_,?_⟩
  ·have:(cap - k) * size=cap * size - k * size:=Nat.sub_mul _ _ _
   have a:k * size≤cap * size:=Nat.mul_le_mul_right _ (by omega)
   omega
  ·rw[←ht,List.drop_take,List.drop_drop,Nat.sub_mul]
end
def RdS (w:World)(S:List Nat)(size:Nat)(v:Value)(n:Nat)(xs:List Value):Prop:=
 xs.length=n * size∧((v=.slice none 0 0∧n=0)∨
  ∃(a:Addr) (cap:Nat),v=.slice (some a) n cap∧n≤cap∧cap≤maxLen∧(0 < n→a.spot=none∧a.block < w.heap.size∧a.block∉S∧∀j,j < n * size→w.cell? ⟨a.block,a.off+j,none⟩=xs[j]?))
theorem Sl.reads {w:World}{e:TypeId}{size n:Nat}{v:Value}{h:Option Nat}{xs:List Value}(hs:Sl w e size v h n xs)(S:List Nat)(hS:∀b,h=some b→b∉S):RdS w S size v n xs:=by
 refine⟨hs.1,?_⟩
 rcases hs.2 with⟨_,rfl,rfl⟩|⟨b,off,cap,cur,hh,rfl,hB,hnc,hcm,hcs,ht⟩
 ·exact .inl ⟨rfl,rfl⟩
 ·refine .inr ⟨_,cap,rfl,hnc,hcm,fun hn=>⟨rfl,hB.lt,hS b hh,fun j hj=>?_⟩⟩
  obtain⟨g,c,d,_,f,_,_,_,a⟩:=hs.at_ hn
  injection f with hv1
  injection hv1 with hv2
  injection hv2 with hv3 hv4
  subst hv3
  subst hv4
  exact(a j hj).1
theorem RdS.keep {w w':World}{S T:List Nat}{size n:Nat}{v:Value}{xs:List Value}(h:RdS w S size v n xs)(hsz:w.heap.size≤w'.heap.size)(hk:∀b,b < w.heap.size→b∉S→w'.heap[b]?=w.heap[b]?)(hT:∀b,b < w.heap.size→b∉S→b∉T):RdS w' T size v n xs:=by
 refine⟨h.1,?_⟩
 rcases h.2 with h0|⟨a,cap,hv,h1,h2,h3⟩
 ·exact .inl h0
 ·refine .inr ⟨a,cap,hv,h1,h2,fun hn=>?_⟩
  obtain⟨e,c,d,f⟩:=h3 hn
  refine⟨e,by omega,hT _ c d,fun j hj=>?_⟩
  rw[←f j hj]
  exact World.cell?_of_block (hk a.block c d)
theorem RdS.chg {w w':World}{S:List Nat}{size n:Nat}{v:Value}{xs:List Value}(h:RdS w S size v n xs)(hc:Chg S w w'):RdS w' S size v n xs:=
 h.keep hc.size hc.block (fun _ _ h=>h)
theorem RdS.below {w w':World}{S:List Nat}{size n:Nat}{v:Value}{xs:List Value}(h:RdS w S size v n xs)(hc:Below w.heap.size w w'):RdS w' S size v n xs:=
 h.keep hc.size (fun b hb _=>hc.block b hb) (fun _ _ h=>h)
theorem RdS.sub {w:World}{S T:List Nat}{size n:Nat}{v:Value}{xs:List Value}(h:RdS w S size v n xs)(hT:∀b,b < w.heap.size→b∉S→b∉T):RdS w T size v n xs:=
 h.keep (Nat.le_refl _) (fun _ _ _=>rfl) hT
theorem RdS.at_ {w:World}{S:List Nat}{size n:Nat}{v:Value}{xs:List Value}(h:RdS w S size v n xs)(hn:0 < n) :
  ∃b off cap,v=.slice (some ⟨b,off,none⟩) n cap∧n≤cap∧cap≤maxLen∧b < w.heap.size∧b∉S∧∀j,j < n * size→w.cell? ⟨b,off+j,none⟩=xs[j]?:=by
 rcases h.2 with⟨_,h0⟩|⟨⟨b,off,sp⟩,cap,hv,h1,h2,h3⟩
 ·omega
 ·obtain⟨a,c,d,e⟩:=h3 hn
  simp only at a c d e
  subst a
  exact⟨b,off,cap,hv,h1,h2,c,d,e⟩
theorem RdS.form {w:World}{S:List Nat}{size n:Nat}{v:Value}{xs:List Value}(h:RdS w S size v n xs):∃A cap,v=.slice A n cap∧n≤cap∧cap≤maxLen:=by
 rcases h.2 with⟨rfl,rfl⟩|⟨a,cap,hv,h1,h2,_⟩
 ·exact⟨none,0,rfl,Nat.le_refl _,Nat.zero_le _⟩
 ·exact⟨some a,cap,hv,h1,h2⟩
section
variable {P:Program} (w:World)
theorem yZ (b:Nat)(e:TypeId):∀(vs:List Value) (o:Nat) (w:World) (cur:Array Value),Blk w b e cur→o+vs.length≤cur.size→
  Blk (w.setCells b o vs) b e ((cur.toList.take o++vs++cur.toList.drop (o+vs.length)).toArray)
 |[],o,w,cur,h,_=>by
  simp only[World.setCells,List.append_nil,List.length_nil,Nat.add_zero,List.take_append_drop]
  exact h
 |v :: r,o,w,cur,h,hl=>by
  simp only[List.length_cons] at hl
  have ih:=yZ b e r (o+1) (w.setCell ⟨b,o,none⟩ v) (cur.setIfInBounds o v) (h.set o v) (by simp;omega)
  have he:(cur.setIfInBounds o v).toList.take (o+1)++r++(cur.setIfInBounds o v).toList.drop (o+1+r.length)=cur.toList.take o++(v :: r)++cur.toList.drop (o+(v :: r).length):=by
   rw[Array.toList_setIfInBounds,List.drop_set_of_lt (by omega)]
   have a:o < cur.toList.length:=by simp;omega
   have c:(cur.toList.set o v).take (o+1)=cur.toList.take o++[v]:=by
    rw[List.take_succ_eq_append_getElem (by simpa using a),List.take_set_of_le (Nat.le_refl _)]
    simp
   rw[c]
   simp only[List.append_assoc,List.cons_append,List.nil_append,List.length_cons]
   rw[show o+1+r.length=o+(r.length+1) from by omega]
  rw[he] at ih
  exact ih
theorem xD (b:Nat):∀(vs:List Value) (o:Nat) (w:World) (k:Nat),k≠b→(w.setCells b o vs).heap[k]?=w.heap[k]?
 |[],_,_,_,_=>rfl
 |v :: r,o,w,k,hk=>by
  rw[World.setCells,xD b r (o+1) _ k hk]
  exact Below.heap_setCell w ⟨b,o,none⟩ v k hk
theorem yY (b:Nat):∀(vs:List Value) (o:Nat) (w:World),(w.setCells b o vs).os=w.os∧(w.setCells b o vs).tape=w.tape∧(w.setCells b o vs).output=w.output∧(w.setCells b o vs).heap.size=w.heap.size
 |[],_,_=>⟨rfl,rfl,rfl,rfl⟩
 |v :: r,o,w=>by
  obtain⟨h1,h2,h3,h4⟩:=yY b r (o+1) (w.setCell ⟨b,o,none⟩ v)
  exact⟨h1,h2,h3,h4.trans (by simp[World.setCell])⟩
theorem xG {t ty e:TypeId}{i:TypeInfo}{z:Value}{size bytes:Nat}(ht:P.underlying t=some (.slice e))(hi:P.info? e=some i)(hz:i.zero=some z)(hsize:i.size=size)(hby:i.bytes=bytes)(hzs:z.cells.size=size)(hsz:0 < size){v:Value}{h:Option Nat}{n:Nat}{xs:List Value}(hs:Sl w e size v h n xs)(a:Addr)(m c:Nat)(news:List Value)(hl:news.length=m * size)(hnews:∀j u,news[j]?=some u→w.cell? (a.add j)=some u)(h1:∀u∈news,u.oneCell'=true)(h63:n+m≤maxLen)(hbytes:(n+m) * bytes≤140737488355328) :
  ∃v' h' w',(Builtin.append_ #[t,t] ty #[v,.slice (some a) m c]).run P w=.ok v' w'∧Sl w' e size v' h' (n+m) (xs++news)∧Chg h.toList w w'∧(h'=h∨∃g,h'=some g∧w.heap.size≤g):=by
 rcases hs.2 with⟨rfl,rfl,rfl⟩|⟨b,off,cap,cur,rfl,rfl,hB,hnc,hcm,hcs,htake⟩
 ·have A:xs=[]:=List.eq_nil_of_length_eq_zero (by simpa using hs.1)
  subst A
  obtain⟨v',w',o,d,r,_⟩:=run_append_own (P:=P) w w.heap.size t ty e i z size bytes ht hi hz hsize hby hzs hsz (.slice none 0 0) 0 [] (World.ownsRow_nil w _ e size) a m c news hl hnews h1 (by omega) (by simpa using hbytes) (Nat.le_refl _)
  refine⟨v',v'.ownBlock,w',o,Sl.za9 d,Chg.XW r,?_⟩
  cases p:v'.ownBlock with
  |none=>exact .inl rfl
  |some k=>exact .inr ⟨k,rfl,(d.lt k p).1⟩
 ·by_cases f:n+m≤cap
  ·have s:(n+m) * size≤cap * size:=Nat.mul_le_mul_right _ f
   have l:(n+m) * size=n * size+m * size:=Nat.add_mul _ _ _
   subst hsize
   have o:=run_append_room_cells (P:=P) w t ty e i ht hi b off n cap a m c news hl hnews h1 f (fun j y=>by
     rw[hB.cell]
     rw[Array.getElem?_eq_getElem (show off+n * i.size+j < cur.size by omega)]
     rfl) (fun j _=>hB.frozen _)
   have q:=yZ b e news (off+n * i.size) w cur hB (by omega)
   obtain⟨B,C,D,E⟩:=yY b news (off+n * i.size) w
   refine⟨_,some b,_,o,⟨by rw[List.length_append,hs.1,hl,l],.inr ⟨b,off,cap,_,rfl,rfl,q,f,hcm,?_,?_⟩⟩,⟨B,C,D,by rw[E];exact Nat.le_refl _,fun k _ hk=>xD b news _ w k (by simpa using hk)⟩,.inl rfl⟩
   ·simp only[List.size_toArray,List.length_append,List.length_take,List.length_drop,Array.length_toList]
    omega
   ·have x:(cur.toList.take (off+n * i.size)).length=off+n * i.size:=by
     rw[List.length_take,Array.length_toList]
     omega
    show (List.drop off (cur.toList.take (off+n * i.size)++news++cur.toList.drop (off+n * i.size+news.length))).take ((n+m) * i.size)=xs++news
    rw[List.append_assoc,List.drop_append_of_le_length (by omega),List.drop_take,Nat.add_sub_cancel_left,htake,←List.append_assoc]
    rw[List.take_append_of_le_length (by rw[List.length_append,hs.1,hl];omega)]
    exact List.take_of_length_le (by rw[List.length_append,hs.1,hl];omega)
  ·obtain⟨v',w',o,d,r⟩:=run_append_arg_grows (P:=P) w t ty e i z size bytes ht hi hz hsize hby hzs hsz ⟨b,off,none⟩ n cap xs hs.1 (fun j u hu=>by
     have y:j < n * size:=by have:=(List.getElem?_eq_some_iff.1 hu).1;rw[hs.1] at this;exact this
     rw[Addr.add_lit,hB.cell]
     rw[←htake,List.getElem?_take,if_pos y,List.getElem?_drop] at hu
     simpa using hu) a m c news hl hnews (by omega) h63 hbytes
   refine⟨v',v'.ownBlock,w',o,Sl.za9 d,(Chg.XW r).mono (by simp),?_⟩
   cases p:v'.ownBlock with
   |none=>
    rcases d.2 with⟨_,h0⟩|⟨g,cap',cur',hv',_⟩
    ·omega
    ·rw[hv'] at p
     simp[Value.ownBlock] at p
   |some k=>exact .inr ⟨k,rfl,(d.lt k p).1⟩
theorem zC {W:World}{cs:Array Value}{e':TypeId}{ops:Array Oper}{rest:List Oper}{o:Oper}{a:Act}{Q:Exit→Act→World→Prop}(hgd:o.guard=none)(s x:Operand)(t:TypeId)(ho:o.op=.call {callee:=.builtin .append,args:=#[s,x],argTypes:=#[t,t]}){e:TypeId}{i:TypeInfo}{z:Value}{size bytes:Nat}(ht:P.underlying t=some (.slice e))(hi:P.info? e=some i)(hz:i.zero=some z)(hsize:i.size=size)(hby:i.bytes=bytes)(hzs:z.cells.size=size)(hsz:0 < size){v:Value}{h:Option Nat}{n:Nat}{xs:List Value}(hsl:Sl W e size v h n xs)(hs:a.eval s=v)(m c:Nat)(hx:a.eval x=.slice (some ⟨W.heap.size,0,none⟩) m c)(hl:cs.toList.length=m * size)(h1:∀u∈cs.toList,u.oneCell'=true)(h63:n+m≤maxLen)(hbytes:(n+m) * bytes≤140737488355328)(hk:∀v' h' w',Sl w' e size v' h' (n+m) (xs++cs.toList)→Chg h.toList W w'→(h'=h∨∃g,h'=some g∧W.heap.size≤g)→wpList P ops Q rest (a.put o.dst v') w') :
  wpList P ops Q (o :: rest) a (W.alloc (.cells cs e')):=by
 refine wpList_plain hgd fun K hK'=>?_
 obtain⟨v',h',w',d,f,b,l⟩:=xG (P:=P) (W.alloc (.cells cs e')) (ty:=o.type) ht hi hz hsize hby hzs hsz (hsl.alloc _) ⟨W.heap.size,0,none⟩ m c cs.toList hl (fun j u hj=>by
  rw[Addr.uy,World.cell?_alloc_at _ _ _ _ rfl]
  simpa using hj) h1 h63 hbytes
 unfold Oper.wp execOp
 simp only[ho,resolve,invoke,builtin,Sem.run_bind,Sem.run_pure,Result.andThen_ok,List.map_toArray,List.map_cons,List.map_nil,hs,hx,d]
 refine hK' _ _ (hk v' h' w' f ⟨b.os,b.tape,b.output,Nat.le_trans (by simp) b.size,fun k hk hn=>(b.block k (by simp;omega) hn).trans (Below.heap_alloc _ _ _ hk)⟩ ?_)
 rcases l with h2|⟨g,h2,h3⟩
 ·exact .inl h2
 ·exact .inr ⟨g,h2,by simp at h3;omega⟩
theorem UZ {o:Oper}{a:Act}{K:Act→World→Prop}{Q:Exit→Act→World→Prop}(s x:Operand)(t:TypeId)(ho:o.op=.call {callee:=.builtin .append,args:=#[s,x],argTypes:=#[t,t]}){e:TypeId}{i:TypeInfo}{z:Value}{size bytes:Nat}(ht:P.underlying t=some (.slice e))(hi:P.info? e=some i)(hz:i.zero=some z)(hsize:i.size=size)(hby:i.bytes=bytes)(hzs:z.cells.size=size)(hsz:0 < size){v:Value}{h:Option Nat}{n:Nat}{xs:List Value}(hsl:Sl w e size v h n xs)(hs:a.eval s=v)(gB:Nat)(cs:Array Value){e':TypeId}{fr:Nat×Nat}(hB:w.heap[gB]?=some (.cells cs e' fr))(m c:Nat)(hx:a.eval x=.slice (some ⟨gB,0,none⟩) m c)(hl:cs.toList.length=m * size)(h1:∀u∈cs.toList,u.oneCell'=true)(h63:n+m≤maxLen)(hbytes:(n+m) * bytes≤140737488355328)(hk:∀v' h' w',Sl w' e size v' h' (n+m) (xs++cs.toList)→Chg h.toList w w'→(h'=h∨∃g,h'=some g∧w.heap.size≤g)→K (a.put o.dst v') w') :
  o.wp P a w K Q:=by
 obtain⟨v',h',w',b,d,f,k⟩:=xG (P:=P) w (ty:=o.type) ht hi hz hsize hby hzs hsz hsl ⟨gB,0,none⟩ m c cs.toList hl (fun j u hj=>by
  rw[Addr.uy,cell_of_row w gB j cs e' fr hB]
  simpa using hj) h1 h63 hbytes
 unfold Oper.wp execOp
 simp only[ho,resolve,invoke,builtin,Sem.run_bind,Sem.run_pure,Result.andThen_ok,List.map_toArray,List.map_cons,List.map_nil,hs,hx,b]
 exact hk v' h' w' d f k
theorem zx {ops:Array Oper}{o:Oper}{a:Act}{K:Act→World→Prop}{Q:Exit→Act→World→Prop}{E:Prop}(hgd:o.guard=none)(s x:Operand)(t:TypeId)(ho:o.op=.call {callee:=.builtin .append,args:=#[s,x],argTypes:=#[t,t]}){e:TypeId}{i:TypeInfo}{z:Value}{size bytes:Nat}(ht:P.underlying t=some (.slice e))(hi:P.info? e=some i)(hz:i.zero=some z)(hsize:i.size=size)(hby:i.bytes=bytes)(hzs:z.cells.size=size)(hsz:0 < size){v:Value}{h:Option Nat}{n:Nat}{xs:List Value}(hsl:Sl w e size v h n xs)(hs:a.eval s=v)(gB:Nat)(cs:Array Value){e':TypeId}{fr:Nat×Nat}(hB:w.heap[gB]?=some (.cells cs e' fr))(m c:Nat)(hx:a.eval x=.slice (some ⟨gB,0,none⟩) m c)(hl:cs.toList.length=m * size)(h1:∀u∈cs.toList,u.oneCell'=true)(h63:n+m≤maxLen)(hbytes:(n+m) * bytes≤140737488355328)(hk:∀v' h' w',Sl w' e size v' h' (n+m) (xs++cs.toList)→Chg h.toList w w'→(h'=h∨∃g,h'=some g∧w.heap.size≤g)→K (a.put o.dst v') w') :
  if Region.wanted o (yielded ops a.tmps)=true then Oper.wp P o a w K Q else E:=by
 have b:Region.wanted o (yielded ops a.tmps)=true:=by simp[Region.wanted,hgd]
 rw[if_pos b]
 exact UZ w s x t ho ht hi hz hsize hby hzs hsz hsl hs gB cs hB m c hx hl h1 h63 hbytes hk
theorem yA {ops:Array Oper}{rest:List Oper}{o:Oper}{a:Act}{Q:Exit→Act→World→Prop}(hgd:o.guard=none)(s x:Operand)(t:TypeId)(ho:o.op=.call {callee:=.builtin .append,args:=#[s,x],argTypes:=#[t,t]}){e:TypeId}{i:TypeInfo}{z:Value}{size bytes:Nat}(ht:P.underlying t=some (.slice e))(hi:P.info? e=some i)(hz:i.zero=some z)(hsize:i.size=size)(hby:i.bytes=bytes)(hzs:z.cells.size=size)(hsz:0 < size){v:Value}{h:Option Nat}{n:Nat}{xs:List Value}(hsl:Sl w e size v h n xs)(hs:a.eval s=v)(ad:Addr)(m c:Nat)(news:List Value)(hx:a.eval x=.slice (some ad) m c)(hl:news.length=m * size)(hnews:∀j u,news[j]?=some u→w.cell? (ad.add j)=some u)(h1:∀u∈news,u.oneCell'=true)(h63:n+m≤maxLen)(hbytes:(n+m) * bytes≤140737488355328)(hk:∀v' h' w',Sl w' e size v' h' (n+m) (xs++news)→Chg h.toList w w'→(h'=h∨∃g,h'=some g∧w.heap.size≤g)→wpList P ops Q rest (a.put o.dst v') w') :
  wpList P ops Q (o :: rest) a w:=by
 refine wpList_plain hgd fun K hK=>?_
 obtain⟨v',h',w',b,d,f,k⟩:=xG (P:=P) w (ty:=o.type) ht hi hz hsize hby hzs hsz hsl ad m c news hl hnews h1 h63 hbytes
 unfold Oper.wp execOp
 simp only[ho,resolve,invoke,builtin,Sem.run_bind,Sem.run_pure,Result.andThen_ok,List.map_toArray,List.map_cons,List.map_nil,hs,hx,b]
 exact hK _ _ (hk v' h' w' d f k)
theorem yI {W:World}{cs:Array Value}{e':TypeId}{ops:Array Oper}{rest:List Oper}{o:Oper}{a:Act}{Q:Exit→Act→World→Prop}(hgd:o.guard=none)(s x:Operand)(t:TypeId)(ho:o.op=.call {callee:=.builtin .append,args:=#[s,x],argTypes:=#[t,t]}){e:TypeId}{i:TypeInfo}{z:Value}{size bytes:Nat}(ht:P.underlying t=some (.slice e))(hi:P.info? e=some i)(hz:i.zero=some z)(hsize:i.size=size)(hby:i.bytes=bytes)(hzs:z.cells.size=size)(hsz:0 < size){v:Value}{h:Option Nat}{n:Nat}{xs:List Value}(hsl:Sl W e size v h n xs)(hs:a.eval s=v)(X:Nat)(hX:W.heap.size=X)(m c:Nat)(hx:a.eval x=.slice (some ⟨X,0,none⟩) m c)(hl:cs.toList.length=m * size)(h1:∀u∈cs.toList,u.oneCell'=true)(h63:n+m≤maxLen)(hbytes:(n+m) * bytes≤140737488355328)(hk:∀v' h' w',Sl w' e size v' h' (n+m) (xs++cs.toList)→Chg h.toList W w'→(h'=h∨∃g,h'=some g∧W.heap.size≤g)→wpList P ops Q rest (a.put o.dst v') w') :
  wpList P ops Q (o :: rest) a (W.alloc (.cells cs e')):=by
 subst hX
 exact zC hgd s x t ho ht hi hz hsize hby hzs hsz hsl hs m c hx hl h1 h63 hbytes hk
end
structure E4 where
 m:Int
 k:Int
 i:Int
 h:Int
 deriving DecidableEq,Inhabited
def QH (e:E4):List Value:=[.int .i64 e.m,.int .i64 e.k,.int .i64 e.i,.int .i64 e.h]
def zM (l:List E4):List Value:=l.flatMap QH
theorem Zv (e:E4)(l:List E4):zM (e :: l)=QH e++zM l:=by simp[zM]
theorem zP (a b:List E4):zM (a++b)=zM a++zM b:=by simp[zM]
theorem uw:∀l:List E4,(zM l).length=l.length * 4
 |[]=>rfl
 |e :: l=>by rw[Zv,List.length_append,uw l,List.length_cons];simp[QH];omega
theorem Yu:∀(l:List E4) (k j:Nat) (hk:k < l.length),j < 4→(zM l)[k * 4+j]?=(QH l[k])[j]?
 |e :: l,0,j,_,hj=>by
  rw[Zv,Nat.zero_mul,Nat.zero_add,List.getElem?_append_left (by simp[QH];omega)]
  rfl
 |e :: l,k+1,j,hk,hj=>by
  rw[Zv,List.getElem?_append_right (by simp[QH];omega)]
  have:(k+1) * 4+j - (QH e).length=k * 4+j:=by simp[QH];omega
  rw[this,Yu l k j (by simpa using hk) hj]
  rfl
theorem ZU (l:List E4)(k:Nat)(hk:k < l.length) :
  (zM l)[k * 4]?=some (.int .i64 l[k].m)∧(zM l)[k * 4+1]?=some (.int .i64 l[k].k)∧(zM l)[k * 4+2]?=some (.int .i64 l[k].i)∧(zM l)[k * 4+3]?=some (.int .i64 l[k].h):=
 ⟨Yu l k 0 hk (by omega),Yu l k 1 hk (by omega),Yu l k 2 hk (by omega),Yu l k 3 hk (by omega)⟩
theorem zbU (l:List E4)(k:Nat):(zM l).drop (k * 4)=zM (l.drop k):=by
 induction k generalizing l with
 |zero=>simp
 |succ k ih=>
  cases l with
  |nil=>simp[zM]
  |cons e l=>
   rw[Zv,List.drop_succ_cons,←ih l,show (k+1) * 4=(QH e).length+k * 4 from by simp[QH];omega,List.drop_append,Nat.add_sub_cancel_left,List.drop_of_length_le (Nat.le_add_right _ _),List.nil_append]
theorem encE_one (e:E4):∀u∈QH e,u.oneCell'=true:=by
 intro u a
 simp only[QH,List.mem_cons,List.not_mem_nil,or_false] at a
 rcases a with rfl|rfl|rfl|rfl <;> rfl
def yT:List E4→List E4→List E4
 |es,[]=>es
 |es,x :: r=>if ∃y∈es.getLast?,x.m < y.m then es else yT (es++[x]) r
structure Yc where
 most:Int
 es:List E4
 floor:Int
def Yc.add (x:Yc)(e:List E4):Yc:=
 if ((yT x.es e).length:Int) - x.most > 0 then
  ⟨x.most,(yT x.es e).drop (((yT x.es e).length:Int) - x.most).toNat,((yT x.es e)[(((yT x.es e).length:Int) - x.most).toNat - 1]?.getD default).m⟩
 else ⟨x.most,yT x.es e,x.floor⟩
theorem Yc.zbu (x:Yc)(e:List E4)(hm:1≤x.most):((x.add e).es.length:Int)≤x.most∧(x.add e).most=x.most:=by
 unfold Yc.add
 split
 ·refine⟨?_,rfl⟩
  simp only[List.length_drop]
  omega
 ·refine⟨?_,rfl⟩
  simp only
  omega
end Go.Proofs.YtfhlhdmhgheonaaGreatDoor
namespace Go.Proofs.YtfhlhdmhgheonaaGreatDoor
open Go.RowKit
attribute [local go_sem ↓] Go.wp_at_zero Go.wp_at_succ
theorem Try.infoEntry:(Tryz.prog.info? 177).map (fun i=>(i.zero,i.size,i.bytes))=some (some (.agg #[.int .i64 0,.int .i64 0,.int .i64 0,.int .i64 0]),4,32):=by kernel_rfl
def uF (w:World)(g:Nat)(h:Option Nat)(x:Yc):Prop:=
 ∃v,Blk w g 181 #[.int .i64 x.most,v,.int .i64 x.floor]∧Sl w 177 4 v h x.es.length (zM x.es)
theorem uF.chg {w w':World}{g:Nat}{h:Option Nat}{x:Yc}{S:List Nat}(hl:uF w g h x)(hc:Chg S w w')(hg:g∉S)(hh:∀b,h=some b→b∉S):uF w' g h x:=by
 obtain⟨v,a,c⟩:=hl
 exact⟨v,a.chg hc hg,c.chg hc hh⟩
theorem uF.heap {w w':World}{g:Nat}{h:Option Nat}{x:Yc}(hl:uF w g h x)(he:w'.heap=w.heap):uF w' g h x:=by
 obtain⟨v,a,b⟩:=hl
 exact⟨v,a.heap he,b.heap he⟩
theorem uF.moved {w w':World}{g:Nat}{h:Option Nat}{x:Yc}(hl:uF w g h x){o:Obj}{n:Nat}(he:w'=(w.alloc o).drewN n):uF w' g h x:=by
 subst he
 obtain⟨v,a,b⟩:=hl
 exact⟨v,(a.alloc o).heap rfl,(b.alloc o).heap rfl⟩
def RdE (w:World)(A:Option Addr)(S:List Nat)(e:List E4):Prop:=
 e≠[]→∃b off,A=some ⟨b,off,none⟩∧b < w.heap.size∧b∉S∧∀j,j < e.length * 4→w.cell? ⟨b,off+j,none⟩=(zM e)[j]?
theorem new_ok (n:Int)(w:World)(hn:¬n < 1) :
  Calls Tryz.prog 41 #[.int .i64 n] w fun e w'=>e=.returned (.tuple #[.pointer (some ⟨w.heap.size,0,none⟩),.int .i64 0])∧uF w' w.heap.size none ⟨n,[],0⟩∧Below w.heap.size w w'∧w.heap.size < w'.heap.size:=by
 go_enter Tryz.func41,Tryz.ntmps41
 go_wp2
 go_ret2
 exact⟨rfl,⟨_,Blk.new _ _ _,(Sl.nil _ _ _)⟩,(Below.refl _ _).alloc (Nat.le_refl _) _,by simp⟩
structure za8 (w:World)(g:Nat)(h:Option Nat)(x:Yc)(e:List E4)(k:Nat)(es:List E4)(h':Option Nat)(wr:World):Prop where
 loop:yT x.es e=yT es (e.drop k)
 len:es.length≤x.es.length+k
 log:uF wr g h' ⟨x.most,es,x.floor⟩
 chg:Chg (g :: h.toList) w wr
 own:h'=h∨∃k,h'=some k∧w.heap.size≤k
theorem za4 {w wr W1 w2:World}{g:Nat}{h h' h2:Option Nat}{x:Yc}{e es:List E4}{k:Nat}{y:E4}{A' A2:Option Addr}{n m cap' cap2:Nat}{o:Obj}(hu:za8 w g h x e k es h' wr)(hk:k < e.length)(hy:e[k]=y)(hno:¬∃z∈es.getLast?,y.m < z.m)(q2:Blk W1 g 181 #[.int .i64 x.most,.slice A' n cap',.int .i64 x.floor])(q1:Sl W1 177 4 (.slice A' n cap') h' n (zM es))(q4:Chg (g :: h.toList) w W1)(hs2:Sl w2 177 4 (.slice A2 m cap2) h2 (n+1) (zM es++(#[.int .i64 y.m,.int .i64 y.k,.int .i64 y.i,.int .i64 y.h]:Array Value).toList))(hc2:Chg h'.toList (W1.alloc o).drew w2)(ho2:h2=h'∨∃g,h2=some g∧(W1.alloc o).drew.heap.size≤g) :
  za8 w g h x e (k+1) (es++[y]) h2 (w2.setCell ⟨g,1,none⟩ (.slice A2 m cap2)):=by
 have s:(W1.alloc o).drew.heap.size=W1.heap.size+1:=by simp
 have l:g∉h'.toList:=fun f=>by
  simp at f
  exact q1.yN q2 (by decide) g f rfl
 have t:w.heap.size≤W1.heap.size:=q4.size
 have c:Blk w2 g 181 #[.int .i64 x.most,.slice A' n cap',.int .i64 x.floor]:=((q2.alloc o).heap rfl:Blk (W1.alloc o).drew g _ _).chg hc2 l
 have q:zM es++(#[.int .i64 y.m,.int .i64 y.k,.int .i64 y.i,.int .i64 y.h]:Array Value).toList=zM (es++[y]):=by rw[zP];rfl
 rw[q] at hs2
 have a:h2≠some g:=by
  intro A
  exact hs2.yN c (by decide) g A rfl
 have r:∀b,h2=some b→b≠g:=fun b hb hg=>a (by rw[hb,hg])
 have u:n=es.length:=by have:=q1.1;rw[uw] at this;omega
 have f:m=n+1:=by
  obtain⟨C,D,B,_⟩:=hs2.form
  injection B
 subst f
 subst u
 have d:Chg (g :: h.toList) w w2:=by
  refine(((q4.alloc o).drew).trans hc2 fun i hi=>?_)
  simp at hi
  rcases hu.own with h1|⟨k1,h1,j⟩
  ·rw[h1] at hi
   exact .inl (by simp[hi])
  ·rw[h1] at hi
   simp at hi
   subst hi
   exact .inr j
 refine⟨?_,?_,⟨_,c.set 1 _,?_⟩,d.set (.inl (by simp)) _,?_⟩
 ·rw[hu.loop,List.drop_eq_getElem_cons hk,hy,yT,if_neg hno]
 ·have:=hu.len
  simp only[List.length_append,List.length_cons,List.length_nil]
  omega
 ·have j:=hs2.far (p:=⟨g,1,none⟩) a (.slice A2 (es.length+1) cap2)
  have v:(es++[y]).length=es.length+1:=by simp
  rw[v]
  exact j
 ·rcases ho2 with h1|⟨k1,h1,j⟩
  ·rw[h1]
   exact hu.own
  ·exact .inr ⟨k1,h1,by omega⟩
theorem add_trim {W1:World}{g:Nat}{h':Option Nat}{x:Yc}{e es:List E4}{b off n N cap':Nat}(q2:Blk W1 g 181 #[.int .i64 x.most,.slice (some ⟨b,off,none⟩) N cap',.int .i64 x.floor])(q1:Sl W1 177 4 (.slice (some ⟨b,off,none⟩) N cap') h' N (zM es))(hN:es.length=N)(hn:n+1 < N)(hadd:x.add e=⟨x.most,es.drop (n+1),(es[n]'(by omega)).m⟩) :
  uF ((W1.setCell ⟨g,2,none⟩ (.int .i64 (es[n]'(by omega)).m)).setCell ⟨g,1,none⟩ (.slice (some ⟨b,off+(n+1) * 4,none⟩) (N - (n+1)) (cap' - (n+1)))) g h' (x.add e):=by
 have a:h'≠some g:=fun hh=>q1.yN q2 (by decide) g hh rfl
 rw[hadd]
 refine⟨.slice (some ⟨b,off+(n+1) * 4,none⟩) (N - (n+1)) (cap' - (n+1)),?_,?_⟩
 ·exact(q2.set 2 _).set 1 _
 ·have c:=((q1.cut (n+1) hn).far (p:=⟨g,2,none⟩) a (.int .i64 (es[n]'(by omega)).m)).far (p:=⟨g,1,none⟩) a (.slice (some ⟨b,off+(n+1) * 4,none⟩) (N - (n+1)) (cap' - (n+1)))
  rw[zbU] at c
  have d:(es.drop (n+1)).length=N - (n+1):=by simp[hN]
  rw[d]
  exact c
theorem add_any (w:World)(g:Nat)(h:Option Nat)(x:Yc)(A:Option Addr)(cap:Nat)(e:List E4)(hl:uF w g h x)(hm1:1≤x.most)(hm2:x.most≤1099511627776)(hn1:x.es.length≤1099511627776)(hn2:e.length≤1099511627776)(hr:RdE w A (g :: h.toList) e) :
  Calls Tryz.prog 98 #[.pointer (some ⟨g,0,none⟩),.slice A e.length cap] w fun e' w'=>e'=.returned (.tuple #[])∧
   ∃h',uF w' g h' (x.add e)∧Chg (g :: h.toList) w w'∧(h'=h∨∃k,h'=some k∧w.heap.size≤k):=by
 obtain⟨i0,hi,a9,aa,ac⟩:=info_parts Try.infoEntry
 have F:za8 w g h x e 0 x.es h w:=⟨rfl,by omega,hl,Chg.refl _ _,.inl rfl⟩
 have HS:=zdG F
 clear F hl
 have HR:=zdG hr
 clear hr
 obtain⟨L,hL⟩:∃L,e.length=L:=⟨_,rfl⟩
 rw[hL]
 rw[hL] at hn2
 have HL:=zdG hL
 clear hL
 go_enter Tryz.func98,Tryz.ntmps98
 go_upto_block 0 with(fail)
 go_cut [] (fun wx=>∃(es:List E4) (h':Option Nat),Hid (yT x.es e=es)∧uF wx g h' ⟨x.most,es,x.floor⟩∧Chg (g :: h.toList) w wx∧(h'=h∨∃k,h'=some k∧w.heap.size≤k)∧es.length≤2199023255552)
 case first=>
  go_wp2_with fail
  go_loopw [12] (fun i wr=>∃(k:Nat) (es:List E4) (h':Option Nat),k≤L∧i=.int .i64 k∧Hid (za8 w g h x e k es h' wr)) (fun i _=>L - (intOf i).toNat)
  case atStart=>exact⟨0,_,_,Nat.zero_le _,rfl,HS⟩
  case round=>
   obtain⟨k,es,h',hk,rfl,t⟩:=hrel
   by_cases ao:k < L
   ·have I:k < e.length:=by rw[HL.out];exact ao
    obtain⟨b,l,rfl,a2,aq,P⟩:=HR.out (by rintro rfl;simp at I)
    have J:∀j,j < e.length * 4→wr.cell? ⟨b,l+j,none⟩=(zM e)[j]?:=fun j hj=>(t.out.chg.cell (p:=⟨b,l+j,none⟩) a2 aq).trans (P j hj)
    obtain⟨f0,f1,f2,f3⟩:=ZU e k I
    have d0:wr.cell? ⟨b,l+k * 4,none⟩=some (.int .i64 e[k].m):=(J (k * 4) (by omega)).trans f0
    have d1:wr.cell? ⟨b,l+k * 4+1,none⟩=some (.int .i64 e[k].k):=(J (k * 4+1) (by omega)).trans f1
    have d2:wr.cell? ⟨b,l+k * 4+2,none⟩=some (.int .i64 e[k].i):=(J (k * 4+2) (by omega)).trans f2
    have d3:wr.cell? ⟨b,l+k * 4+3,none⟩=some (.int .i64 e[k].h):=(J (k * 4+3) (by omega)).trans f3
    clear J P f0 f1 f2 f3
    obtain⟨v,hB,a3⟩:=t.out.log
    obtain⟨A',a,rfl,S,ar⟩:=a3.form
    have c1:wr.cell? ⟨g,1,none⟩=some (.slice A' es.length a):=hB.cell 1
    have ay:g < wr.heap.size:=hB.lt
    have au:b < wr.heap.size:=Nat.lt_of_lt_of_le a2 t.out.chg.size
    generalize he:e[k]=y at d0 d1 d2 d3
    have HE:=zdG he
    clear he
    have HB:=zdG hB
    have C:=zdG a3
    have Y:es.length≤2199023255552:=by have:=t.out.len;omega
    clear hB a3
    by_cases hz:es.length=0
    ·have ai:es=[]:=List.eq_nil_of_length_eq_zero hz
     subst ai
     simp only[List.length_nil] at c1 S Y
     have Z:¬∃z∈([]:List E4).getLast?,y.m < z.m:=by simp
     clear hz
     go_wp2_with fail
     go_quiet (fail)
     go_wp2_with fail
     have H:Sl ((wr.alloc (.cells #[.int .i64 y.m,.int .i64 y.k,.int .i64 y.i,.int .i64 y.h] 177)).drewN nq) 177 4 (.slice A' 0 a) h' 0 (zM []):=(C.out.alloc _).heap rfl
     have f:Blk ((wr.alloc (.cells #[.int .i64 y.m,.int .i64 y.k,.int .i64 y.i,.int .i64 y.h] 177)).drewN nq) g 181 #[.int .i64 x.most,.slice A' 0 a,.int .i64 x.floor]:=(HB.out.alloc _).heap rfl
     have D:Blk ((wr.alloc (.cells #[.int .i64 y.m,.int .i64 y.k,.int .i64 y.i,.int .i64 y.h] 177)).drewN nq) wr.heap.size 177 #[.int .i64 y.m,.int .i64 y.k,.int .i64 y.i,.int .i64 y.h]:=(Blk.new wr _ _).heap rfl
     have q4:Chg (g :: h.toList) w ((wr.alloc (.cells #[.int .i64 y.m,.int .i64 y.k,.int .i64 y.i,.int .i64 y.h] 177)).drewN nq):=(t.out.chg.alloc _).drewN _
     have q5:∀b,h'=some b→b≠wr.heap.size:=fun b hb=>by have:=C.out.lt b hb;omega
     generalize (wr.alloc (.cells #[.int .i64 y.m,.int .i64 y.k,.int .i64 y.i,.int .i64 y.h] 177)).drewN nq=W1 at H f D q4 ⊢
     have hX:wr.heap.size < W1.heap.size:=D.lt
     generalize wr.heap.size=X at D q5 hX ⊢
     have e1:W1.cell? ⟨g,1,none⟩=some (.slice A' 0 a):=f.cell 1
     have e2:W1.frozen? ⟨g,1,none⟩=false:=f.frozen 1
     have e3:W1.cell? ⟨X,0,none⟩=some (.int .i64 y.m):=D.cell 0
     have e4:W1.cell? ⟨X,1,none⟩=some (.int .i64 y.k):=D.cell 1
     have e5:W1.cell? ⟨X,2,none⟩=some (.int .i64 y.i):=D.cell 2
     have e6:W1.cell? ⟨X,3,none⟩=some (.int .i64 y.h):=D.cell 3
     have q:g < W1.heap.size:=f.lt
     have K:g∉h'.toList:=fun hm=>by
      simp at hm
      exact H.yN f (by decide) g hm rfl
     go_region_law (refine zx _ (by rfl) (.tmp 41) (.tmp 43) _ (by rfl) Tryz.underlying102 hi a9 aa ac rfl (by omega) ((H.alloc _).heap (by rfl)) (by simp[Act.eval]) W1.heap.size #[.int .i64 y.m,.int .i64 y.k,.int .i64 y.i,.int .i64 y.h] (e':=177) (fr:=(0,0)) (heap_alloc_new W1 _) 1 1 (by simp[Act.eval]) (by rfl) (by simp[Value.oneCell']) (by unfold maxLen;omega) (by omega) ?_;intro v2 h2 w2 E o Q;obtain⟨A2,ad,rfl,_,_⟩:=E.form;have aj:w2.frozen? ⟨g,1,none⟩=false:=(o.frozen (p:=⟨g,1,none⟩) (by simp;omega) K).trans ((World.frozen?_alloc_past _ _ _ q).trans e2);have ak:w2.cell? ⟨g,1,none⟩=some (.slice A' 0 a):=(o.cell (p:=⟨g,1,none⟩) (by simp;omega) K).trans ((World.cell?_alloc_past _ _ _ q).trans e1))
     all_goals
      have hrel:=za4 t.out I HE.out Z f H q4 E o Q
      have r:=zdG hrel
      clear hrel E o Q
      go_wp2
      refine⟨?_,by simp[intOf];omega⟩
      first|exact⟨k+1,_,_,by omega,by go_num,r⟩|((repeat apply Exists.intro);exact⟨⟨k+1,_,_,by omega,by go_num,r⟩,rfl⟩)
    ·obtain⟨c,z,rfl⟩:∃c z,es=c++[z]:=⟨es.dropLast,es.getLast (by rintro rfl;simp at hz),(List.dropLast_concat_getLast _).symm⟩
     have hN:(c++[z]).length=c.length+1:=by simp
     rw[hN] at c1 S Y HB C
     obtain⟨ab,B,ae,b1,a4,_,_,aw,R⟩:=C.out.at_ (by omega)
     injection a4 with hva1 hva2 hva3
     subst hva1
     subst hva3
     have a0:wr.cell? ⟨ab,B+c.length * 4,none⟩=some (.int .i64 z.m):=by
      have h1:=(R (c.length * 4) (by omega)).1
      rw[h1]
      have h2:=(ZU (c++[z]) c.length (by simp)).1
      rw[h2]
      simp
     clear R
     have O:(c++[z]).getLast?=some z:=by simp
     generalize a7:c.length=N at c1 S Y HB C a0
     have al:=zdG a7
     clear a7 hN hz
     have w1:IntKind.i64.wrap ((N:Int)+1 - 1)=(N:Int):=by rw[show (N:Int)+1 - 1=N from by omega];exact IntWalk.i64_in _ (by omega)
     by_cases a8:y.m < z.m
     ·have d:yT x.es e=c++[z]:=by
       rw[t.out.loop,List.drop_eq_getElem_cons I,HE.out,yT,if_pos]
       rw[O]
       simpa using a8
      have HF:=zdG d
      clear d
      go_wp2_with fail
      go_quiet (fail)
      go_wp2_with fail
      go_meet
      exact⟨_,h',HF,t.out.log.moved rfl,((t.out.chg.alloc _).drewN _),t.out.own,by simp[al.out];omega⟩
     ·have Z:¬∃u∈(c++[z]).getLast?,y.m < u.m:=by
       rw[O]
       simpa using a8
      go_wp2_with fail
      go_quiet (fail)
      go_wp2_with fail
      have H:Sl ((wr.alloc (.cells #[.int .i64 y.m,.int .i64 y.k,.int .i64 y.i,.int .i64 y.h] 177)).drewN nq) 177 4 (.slice (some ⟨ab,B,none⟩) (N+1) a) h' (N+1) (zM (c++[z])):=(C.out.alloc _).heap rfl
      have f:Blk ((wr.alloc (.cells #[.int .i64 y.m,.int .i64 y.k,.int .i64 y.i,.int .i64 y.h] 177)).drewN nq) g 181 #[.int .i64 x.most,.slice (some ⟨ab,B,none⟩) (N+1) a,.int .i64 x.floor]:=(HB.out.alloc _).heap rfl
      have D:Blk ((wr.alloc (.cells #[.int .i64 y.m,.int .i64 y.k,.int .i64 y.i,.int .i64 y.h] 177)).drewN nq) wr.heap.size 177 #[.int .i64 y.m,.int .i64 y.k,.int .i64 y.i,.int .i64 y.h]:=(Blk.new wr _ _).heap rfl
      have q4:Chg (g :: h.toList) w ((wr.alloc (.cells #[.int .i64 y.m,.int .i64 y.k,.int .i64 y.i,.int .i64 y.h] 177)).drewN nq):=(t.out.chg.alloc _).drewN _
      have q5:∀b,h'=some b→b≠wr.heap.size:=fun b hb=>by have:=C.out.lt b hb;omega
      generalize (wr.alloc (.cells #[.int .i64 y.m,.int .i64 y.k,.int .i64 y.i,.int .i64 y.h] 177)).drewN nq=W1 at H f D q4 ⊢
      have hX:wr.heap.size < W1.heap.size:=D.lt
      generalize wr.heap.size=X at D q5 hX ⊢
      have e1:W1.cell? ⟨g,1,none⟩=some (.slice (some ⟨ab,B,none⟩) (N+1) a):=f.cell 1
      have e2:W1.frozen? ⟨g,1,none⟩=false:=f.frozen 1
      have e3:W1.cell? ⟨X,0,none⟩=some (.int .i64 y.m):=D.cell 0
      have e4:W1.cell? ⟨X,1,none⟩=some (.int .i64 y.k):=D.cell 1
      have e5:W1.cell? ⟨X,2,none⟩=some (.int .i64 y.i):=D.cell 2
      have e6:W1.cell? ⟨X,3,none⟩=some (.int .i64 y.h):=D.cell 3
      have q:g < W1.heap.size:=f.lt
      have K:g∉h'.toList:=fun hm=>by
       simp at hm
       exact H.yN f (by decide) g hm rfl
      go_region_law (refine zx _ (by rfl) (.tmp 41) (.tmp 43) _ (by rfl) Tryz.underlying102 hi a9 aa ac rfl (by omega) ((H.alloc _).heap (by rfl)) (by simp[Act.eval]) W1.heap.size #[.int .i64 y.m,.int .i64 y.k,.int .i64 y.i,.int .i64 y.h] (e':=177) (fr:=(0,0)) (heap_alloc_new W1 _) 1 1 (by simp[Act.eval]) (by rfl) (by simp[Value.oneCell']) (by unfold maxLen;omega) (by omega) ?_;intro v2 h2 w2 E o Q;obtain⟨A2,ad,rfl,_,_⟩:=E.form;have aj:w2.frozen? ⟨g,1,none⟩=false:=(o.frozen (p:=⟨g,1,none⟩) (by simp;omega) K).trans ((World.frozen?_alloc_past _ _ _ q).trans e2);have ak:w2.cell? ⟨g,1,none⟩=some (.slice (some ⟨ab,B,none⟩) (N+1) a):=(o.cell (p:=⟨g,1,none⟩) (by simp;omega) K).trans ((World.cell?_alloc_past _ _ _ q).trans e1))
      all_goals
       have hrel:=za4 t.out I HE.out Z f H q4 E o Q
       have r:=zdG hrel
       clear hrel E o Q
       go_wp2
       refine⟨?_,by simp[intOf];omega⟩
       first|exact⟨k+1,_,_,by omega,by go_num,r⟩|((repeat apply Exists.intro);exact⟨⟨k+1,_,_,by omega,by go_num,r⟩,rfl⟩)
   ·have am:k=L:=by omega
    subst am
    have d:yT x.es e=es:=by
     rw[t.out.loop,List.drop_of_length_le (by rw[HL.out];exact Nat.le_refl _)]
     rfl
    have HF:=zdG d
    clear d
    go_wp2_with fail
    go_meet
    exact⟨_,h',HF,t.out.log,t.out.chg,t.out.own,by have:=t.out.len;omega⟩
 case rest=>
  obtain⟨es,h',HF,af,V,W,ax⟩:=hcut
  obtain⟨v,ag,ah⟩:=af
  have f:Blk wc g 181 #[.int .i64 x.most,v,.int .i64 x.floor]:=ag
  have H:Sl wc 177 4 v h' es.length (zM es):=ah
  clear ah ag
  obtain⟨A',a,rfl,S,ar⟩:=H.form
  obtain⟨M,hM⟩:∃M:Nat,x.most=(M:Int):=⟨x.most.toNat,by omega⟩
  have c0:wc.cell? ⟨g,0,none⟩=some (.int .i64 (M:Int)):=by rw[←hM];exact f.cell 0
  have c1:wc.cell? ⟨g,1,none⟩=some (.slice A' es.length a):=f.cell 1
  have c2:wc.cell? ⟨g,2,none⟩=some (.int .i64 x.floor):=f.cell 2
  have f1:wc.frozen? ⟨g,1,none⟩=false:=f.frozen 1
  have f2:wc.frozen? ⟨g,2,none⟩=false:=f.frozen 2
  have a5:=zdG f
  have a1:=zdG H
  have HC:=zdG V
  have HO:=zdG W
  clear f H V W HR HS
  by_cases ap:M < es.length
  ·obtain⟨n,hn⟩:∃n,es.length=M+(n+1):=⟨es.length - M - 1,by omega⟩
   have an:IntKind.i64.wrap ((es.length:Int) - (M:Int))=(n:Int)+1:=by
    rw[show (es.length:Int) - (M:Int)=(n:Int)+1 from by omega]
    exact IntWalk.i64_in _ (by omega)
   obtain⟨b,l,ae,hh,a4,_,_,a2,R⟩:=a1.out.at_ (by omega)
   injection a4 with hva1 _ hva3
   subst hva1
   subst hva3
   have T:n < es.length:=by omega
   have a0:wc.cell? ⟨b,l+n * 4,none⟩=some (.int .i64 es[n].m):=by
    have h1:=(R (n * 4) (by omega)).1
    rw[h1]
    exact(ZU es n T).1
   clear R
   have s:x.add e=⟨x.most,es.drop (n+1),es[n].m⟩:=by
    unfold Yc.add
    rw[HF.out,hM,if_pos (by omega),show ((es.length:Int) - (M:Int)).toNat=n+1 from by omega]
    simp[List.getElem?_eq_getElem T]
   have av:¬a=n+1:=by omega
   have U:=add_trim (e:=e) (x:=x) a5.out a1.out rfl (show n+1 < es.length by omega) s
   have G:=zdG U
   have az:n+1≤es.length:=by omega
   have HN:=zdG hn
   have a6:Hid (Chg (g :: h.toList) w ((wc.setCell ⟨g,2,none⟩ (.int .i64 es[n].m)).setCell ⟨g,1,none⟩ (.slice (some ⟨b,l+(n+1) * 4,none⟩) (es.length - (n+1)) (a - (n+1))))):=
    (HC.out.set (p:=⟨g,2,none⟩) (.inl (by simp)) _).set (p:=⟨g,1,none⟩) (.inl (by simp)) _
   have a':1≤(M:Int):=by omega
   generalize es[n].m=zm at a0 G a6
   clear U s hm1 hm2 hn hM
   go_wp2_with fail
   go_quiet (fail)
   go_wp2
   go_end0
   exact⟨rfl,h',G.out.heap rfl,a6.out.heap rfl rfl rfl rfl,HO.out⟩
  ·have an:IntKind.i64.wrap ((es.length:Int) - (M:Int))=(es.length:Int) - (M:Int):=IntWalk.i64_in _ (by omega)
   have s:x.add e=⟨x.most,es,x.floor⟩:=by
    unfold Yc.add
    rw[HF.out,hM,if_neg (by omega)]
   have G:Hid (uF wc g h' (x.add e)):=by
    rw[s]
    exact⟨_,a5.out,a1.out⟩
   have b0:(es.length:Int) - (M:Int)≤0:=by omega
   clear s hM
   go_wp2_with fail
   go_quiet (fail)
   go_wp2
   go_end0
   exact⟨rfl,h',G.out.heap rfl,HC.out.heap rfl rfl rfl rfl,HO.out⟩
end Go.Proofs.YtfhlhdmhgheonaaGreatDoor
namespace Go.Proofs.YtfhlhdmhgheonaaGreatDoor
open Go.RowKit
theorem uD {w:World}{size n:Nat}{xs:List Value}(a:Addr)(hlen:xs.length=n * size)(h:0 < n→a.spot=none∧a.block < w.heap.size∧a.block∉([]:List Nat)∧∀j,j < n * size→w.cell? ⟨a.block,a.off+j,none⟩=xs[j]?) :
  ∀j u,xs[j]?=some u→w.cell? (a.add j)=some u:=by
 intro j u c
 have f:j < n * size:=by
  have:=(List.getElem?_eq_some_iff.1 c).1
  omega
 have g:0 < n:=by
  rcases Nat.eq_zero_or_pos n with h0|h0
  ·subst h0
   omega
  ·exact h0
 obtain⟨d,_,_,e⟩:=h g
 obtain⟨b,off,i⟩:=a
 simp only at d e
 subst d
 rw[Addr.add_lit,e j f,c]
theorem xg (w:World)(e:TypeId)(size:Nat):Sl (w.alloc (.cells #[] e)) e size (.slice (some ⟨w.heap.size,0,none⟩) 0 0) (some w.heap.size) 0 []:=
 ⟨by simp,.inr ⟨w.heap.size,0,0,#[],rfl,rfl,Blk.new _ _ _,Nat.le_refl _,Nat.zero_le _,by simp,by simp⟩⟩
theorem Y0 (l:List E4):∀u∈zM l,u.oneCell'=true:=by
 intro u a
 obtain⟨e,_,b⟩:=List.mem_flatMap.1 a
 exact encE_one e u b
theorem Uo (w:World)(v:Value)(n:Nat)(xs:List Value)(hr:RdS w [] 4 v n xs)(h1:∀u∈xs,u.oneCell'=true)(hn:n≤2199023255552) :
  Calls Tryz.prog 150 #[v] w fun e w'=>∃v' h',e=.returned v'∧Sl w' 177 4 v' h' n xs∧Below w.heap.size w w'∧∀b,h'=some b→w.heap.size≤b:=by
 obtain⟨B,y,o,p,q⟩:=info_parts Try.infoEntry
 rcases hr with⟨hlen,⟨rfl,rfl⟩|⟨a,cap,rfl,hnc,hcm,hcell⟩⟩
 ·have x:xs=[]:=List.eq_nil_of_length_eq_zero (by simpa using hlen)
  subst x
  have l:=fun W=>Lib.run_eql_slice_nil (P:=Tryz.prog) W 102 177 none 0 0 0 0 Tryz.underlying102
  go_enter Tryz.func150,Tryz.ntmps150
  go_wp2
  go_ret
  exact⟨_,none,rfl,Sl.nil _ _ _,Below.refl _ _,fun b d=>by cases d⟩
 ·have l:=fun W=>Lib.run_eql_slice_nil (P:=Tryz.prog) W 102 177 (some a) n cap 0 0 Tryz.underlying102
  have f:=uD a hlen hcell
  go_enter Tryz.func150,Tryz.ntmps150
  go_wp2_with (at_builtin;refine yA _ rfl _ _ 102 rfl Tryz.underlying102 y o p q rfl (by decide) (xg w 177 4) rfl a n cap xs rfl hlen ?_ h1 ?_ ?_ ?_)
  ·intro j u s
   have d:=World.block_lt_of_cell? w _ (f j u s)
   rw[World.cell?_alloc_lt w _ _ d]
   exact f j u s
  ·unfold maxLen
   omega
  ·omega
  ·intro z t A r c i
   have h:Below w.heap.size w A:=⟨c.os,c.tape,c.output,Nat.le_trans (by simp) c.size,fun k hk=>(c.block k (by simp;omega) (by simp;omega)).trans (Below.heap_alloc w _ k hk)⟩
   have m:∀b,t=some b→w.heap.size≤b:=by
    intro b d
    rcases i with h3|⟨g,h3,h4⟩
    ·rw[d] at h3
     injection h3 with h3
     omega
    ·rw[d] at h3
     injection h3 with h3
     omega
   clear c i
   go_wp2
   go_ret
   exact⟨z,t,rfl,r,h,m⟩
theorem all_any (w:World)(g:Nat)(h:Option Nat)(x:Yc)(hl:uF w g h x)(hn:x.es.length≤2199023255552) :
  Calls Tryz.prog 62 #[.pointer (some ⟨g,0,none⟩)] w fun e w'=>∃v' h',e=.returned v'∧Sl w' 177 4 v' h' x.es.length (zM x.es)∧Below w.heap.size w w'∧∀b,h'=some b→w.heap.size≤b:=by
 obtain⟨v,f,c⟩:=hl
 have n:w.cell? ⟨g,1,none⟩=some v:=f.cell 1
 have a:=Uo w v x.es.length (zM x.es) (c.reads [] (by simp)) (Y0 x.es) hn
 obtain⟨A,i,rfl,_,_⟩:=c.form
 clear f c
 go_enter Tryz.func62,Tryz.ntmps62
 go_wp2_with (go_at_call 150;refine a.mono ?_;rintro e w' ⟨j,k,rfl,d,l,m⟩)
 go_ret
 exact⟨j,k,rfl,d,l,m⟩
theorem za1 (w:World)(g:Nat)(h:Option Nat)(x:Yc)(hl:uF w g h x)(hn:x.es.length≤2199023255552) :
  Calls Tryz.prog 64 #[.pointer (some ⟨g,0,none⟩)] w fun e w'=>∃g2 h2,e=.returned (.pointer (some ⟨g2,0,none⟩))∧uF w' g2 h2 x∧Below w.heap.size w w'∧w.heap.size≤g2∧∀b,h2=some b→w.heap.size≤b:=by
 obtain⟨v,f,m⟩:=hl
 obtain⟨A,a,rfl,_,_⟩:=m.form
 have t:w.cell? ⟨g,0,none⟩=some (.int .i64 x.most):=f.cell 0
 have u:w.cell? ⟨g,1,none⟩=some (.slice A x.es.length a):=f.cell 1
 have y:w.cell? ⟨g,2,none⟩=some (.int .i64 x.floor):=f.cell 2
 have s:=f.lt
 have i:=Uo (w.alloc (.cells #[.int .i64 x.most,.slice A x.es.length a,.int .i64 x.floor] 181)) (.slice A x.es.length a) x.es.length (zM x.es) ((m.alloc _).reads [] (by simp)) (Y0 x.es) hn
 clear f m
 go_enter Tryz.func64,Tryz.ntmps64
 go_wp2_with (go_at_call 150;refine i.mono ?_;rintro e n ⟨C,h2,rfl,d,o,q⟩;obtain⟨D,r,rfl,_,_⟩:=d.form;have c:Blk n w.heap.size 181 #[.int .i64 x.most,.slice A x.es.length a,.int .i64 x.floor]:=(Blk.new w _ _).below o (by simp);have z:n.cell? ⟨w.heap.size,1,none⟩=some (.slice A x.es.length a):=c.cell 1;have B:n.frozen? ⟨w.heap.size,1,none⟩=false:=c.frozen 1;have j:=zdG c;clear c;have k:=zdG d;clear d)
 go_ret
 have l:h2≠some w.heap.size:=fun hh=>by
  have:=q _ hh
  simp at this
  omega
 refine⟨w.heap.size,h2,rfl,⟨_,j.out.set 1 _,k.out.far (p:=⟨w.heap.size,1,none⟩) l _⟩,?_,Nat.le_refl _,fun b hb2=>by have:=q b hb2;simp at this;omega⟩
 exact(((Below.refl _ _).alloc (Nat.le_refl _) _).trans (o.mono (by simp))).setCell (Nat.le_refl _) _
section
variable {α:Type} {k:Nat} {enc:α→List Value}
def zk (enc:α→List Value)(l:List α):List Value:=l.flatMap enc
theorem vG (x:α)(l:List α):zk enc (x :: l)=enc x++zk enc l:=by simp[zk]
theorem Zf (a b:List α):zk enc (a++b)=zk enc a++zk enc b:=by simp[zk]
theorem vJ (a:List α)(x:α):zk enc (a++[x])=zk enc a++enc x:=by simp[zk]
theorem yX (he:∀x,(enc x).length=k):∀l:List α,(zk enc l).length=l.length * k
 |[]=>by simp[zk]
 |x :: l=>by
  rw[vG,List.length_append,yX he l,List.length_cons,he,Nat.add_mul,Nat.one_mul,Nat.add_comm]
theorem zy (he:∀x,(enc x).length=k):∀(l:List α) (i j:Nat) (hi:i < l.length),j < k→(zk enc l)[i * k+j]?=(enc l[i])[j]?
 |x :: l,0,j,_,hj=>by
  rw[vG,Nat.zero_mul,Nat.zero_add,List.getElem?_append_left (by rw[he];exact hj)]
  rfl
 |x :: l,i+1,j,hi,hj=>by
  rw[vG,List.getElem?_append_right (by rw[he,Nat.add_mul];omega)]
  have:(i+1) * k+j - (enc x).length=i * k+j:=by rw[he,Nat.add_mul];omega
  rw[this,zy he l i j (by simpa using hi) hj]
  rfl
theorem ZI (h1:∀x,∀u∈enc x,u.oneCell'=true)(l:List α):∀u∈zk enc l,u.oneCell'=true:=by
 intro u a
 obtain⟨x,_,b⟩:=List.mem_flatMap.1 a
 exact h1 x u b
theorem vo (he:∀x,(enc x).length=k):∀(l:List α) (i j:Nat) (hi:i < l.length),j < k→∀(u:Value) (y:α),enc y=(enc l[i]).set j u→(zk enc l).set (i * k+j) u=zk enc (l.set i y)
 |x :: l,0,j,_,hj,u,y,hy=>by
  rw[vG,Nat.zero_mul,Nat.zero_add,List.set_append_left _ _ (by rw[he];exact hj),List.set_cons_zero,vG,hy]
  rfl
 |x :: l,i+1,j,hi,hj,u,y,hy=>by
  rw[vG,List.set_append_right _ _ (by rw[he,Nat.add_mul];omega),List.set_cons_succ,vG]
  have:(i+1) * k+j - (enc x).length=i * k+j:=by rw[he,Nat.add_mul];omega
  rw[this,vo he l i j (by simpa using hi) hj u y hy]
end
end Go.Proofs.YtfhlhdmhgheonaaGreatDoor
namespace Go.Proofs.YtfhlhdmhgheonaaGreatDoor
open Go Go.RowKit
def JQ {α:Type}(F:Fence)(n:Nat)(P:Program)(g:Nat)(lb:Array Value)(encs:α→Array Value)(Kp:World→World→Prop)(B:Nat)(S Sp:List α→Prop)(N:Nat)(w:World):Prop:=
 ∀(l:Nat) (J Jx:List α→World→Prop) (W:World),Below w.heap.size w W→(∀pre A A',J pre A→Chg [B] A A'→J pre A')→(∀pre A A',Jx pre A→Chg [B] A A'→Jx pre A')→
  (∀pre x W1,J pre W1→pre.length < N→YieldAt F (n - 1) P l (encs x) W1 fun e W'=>
   (e=.returned (.bool true)∧J (pre++[x]) W'∧Kp W1 W')∨(e=.returned (.bool false)∧Jx (pre++[x]) W'))→
  J [] W→
  CallsIn F n P g (#[.func (.yield l) #[] #[]]++lb) W fun e W'=>(∃v,e=.returned v)∧((∃xs,S xs∧J xs W')∨(∃pre,Sp pre∧Jx pre W'))
variable {F:Fence} {n:Nat} {P:Program}
theorem YL {α:Type}{g:Operand}{ps:Array Tmp}{assign body:Code}{Q:Exit→Act→World→Prop}{a:Act}{w:World}(hro:F.round=none)(h1:1≤n){gf:Nat}{lb:Array Value}(hg:a.eval g=.func (.func gf) #[] lb)(hFg:F.fn gf)(eg:∀args w,(callFunc gf args).run P w=.ok (.enter gf args) w){encs:α→Array Value}{Kp:World→World→Prop}{B:Nat}{S Sp:List α→Prop}{N:Nat}(hseq:JQ F (n - 1) P gf lb encs Kp B S Sp N w)(hB:B < w.heap.size)(hKt:∀{A B C:World},Kp A B→Kp B C→Kp A C)(hKb:∀(W:World) (l:Nat) (o o':Obj),w.heap.size≤l→W.heap[l]?=some o→o.isCells=false→o.isWalk=false→Kp W (W.putObj l o'))(hps:∀x,(encs x).size=ps.size)(I:List α→World→Prop)(Ix:Code→List α→World→Prop)(hI:OwnFrom w.heap.size I)(hIx:∀c,OwnFrom w.heap.size (Ix c))(hIB:∀pre A A',I pre A→Chg [B] A A'→I pre A')(hIxB:∀c pre A A',Ix c pre A→Chg [B] A A'→Ix c pre A')(h0:I [] w)(a₁:α→Act)(hassign:∀(l:Nat) (x:α) (W:World) (K:Act→World→Prop),K (a₁ x) W→
   assign.wpIn (F.inRound l) (n - 1 - 1) P (Exit.then K (fun _ _ _=>False)) {tmps:=(ps.zip (encs x)).foldl (fun t (p,v)=>t.setIfInBounds p v) a.tmps,defers:=[]} W)(hbody:∀(l:Nat) (pre:List α) (x:α) (W:World),I pre W→pre.length < N→body.wpIn (F.inRound l) (n - 1 - 1) P (ownPostK Kp I Ix (pre++[x]) W) (a₁ x) W)(hdone:∀(D:Nat) (xs:List α) (W:World),w.heap.size≤D→S xs→I xs W→W.heap[D]?=some (.deferred (some []))→Q .normal {a with defers:={target:=.collected D,args:=#[]} :: a.defers} W)(hstop:∀(D:Nat) (c:Code) (pre:List α) (W:World),w.heap.size≤D→Sp pre→Ix c pre W→W.heap[D]?=some (.deferred (some []))→c.wpIn F n P Q {a with defers:={target:=.collected D,args:=#[]} :: a.defers} W) :
  (Code.rangeFunc g ps assign body).wpIn F n P Q a w:=by
 refine wpIn_rangeFunc ?_
 intro fn Z
 rw[hro]
 obtain⟨b,d⟩:∃b:LoopState→Option Code→Loop,b=fun st pe=>{state:=st,pending:=pe,fn,tmps:=a.tmps,params:=ps,assign,body,defers:=w.heap.size}:=⟨_,rfl⟩
 obtain⟨s,q⟩:∃s,(w.alloc (.deferred (some []))).alloc (.loop (b .ready none))=s:=⟨_,rfl⟩
 have M:s.heap[w.heap.size+1]?=some (.loop (b .ready none)):=by
  rw[←q];have:=World.alloc_heap_new (w.alloc (.deferred (some []))) (.loop (b .ready none));rwa [World.size_alloc] at this
 have O:s.heap[w.heap.size]?=some (.deferred (some [])):=by
  rw[←q];exact(Below.heap_alloc _ _ _ (by simp)).trans (World.alloc_heap_new w _)
 have R:I [] s:=by rw[←q];exact hI.alloc _ (hI.alloc _ h0)
 have T:Below w.heap.size w s:=by
  rw[←q];exact((Below.refl _ w).alloc (Nat.le_refl _) _).alloc (by simp) _
 refine⟨w.heap.size+1,[{target:=.collected w.heap.size,args:=#[]}],s,{target:=.fn (.func gf) lb,args:=#[.func (.yield (w.heap.size+1)) #[] #[]]},s,gf,
  #[.func (.yield (w.heap.size+1)) #[] #[]]++lb,s,?_,?_,?_,?_,fun _=>h1,?_⟩
 ·rw[←q,d];exact run_enterLoop_outer _ _ _ _ _
 ·simp only[resolve,hg]
  simp[go_sem]
 ·intro f' E;simp[Target.leads] at E;subst E;exact hFg
 ·simp[invoke,go_sem,eg]
 ·refine(hseq (w.heap.size+1)
   (fun pre W=>I pre W∧W.heap[w.heap.size+1]?=some (.loop (b .ready none))∧W.heap[w.heap.size]?=some (.deferred (some [])))
   (fun pre W=>∃c,Ix c pre W∧W.heap[w.heap.size+1]?=some (.loop (b .done (some c)))∧W.heap[w.heap.size]?=some (.deferred (some [])))
   s T
   (fun pre A A' hs hc=>⟨hIB pre A A' hs.1 hc,(hc.block _ (Array.getElem?_eq_some_iff.1 hs.2.1).1 (by simp;omega)).trans hs.2.1,(hc.block _ (Array.getElem?_eq_some_iff.1 hs.2.2).1 (by simp;omega)).trans hs.2.2⟩)
   (fun pre A A' hs hc=>by
    obtain⟨c,h1,h2,h3⟩:=hs
    exact⟨c,hIxB c pre A A' h1 hc,(hc.block _ (Array.getElem?_eq_some_iff.1 h2).1 (by simp;omega)).trans h2,(hc.block _ (Array.getElem?_eq_some_iff.1 h3).1 (by simp;omega)).trans h3⟩)
   ?_ ⟨R,M,O⟩).mono ?_
  ·rintro pre x W ⟨G,r,H⟩ J
   have U:w.heap.size+1 < W.heap.size:=(Array.getElem?_eq_some_iff.1 r).1
   have hy:=run_yield (P:=P) (args:=encs x) r (by rw[d];exact hps x)
   rw[d] at hy
   refine⟨fn,_,assign,body,hy,roundIn_of_wpIn Z (hassign _ x W _ ⟨_,run_beginRound r (by rw[d]),?_⟩)⟩
   have V:(W.putObj (w.heap.size+1) (.loop {b .ready none with state:=.busy})).heap[w.heap.size+1]?=some (.loop {b .ready none with state:=.busy}):=World.putObj_heap_same U
   have X:(W.putObj (w.heap.size+1) (.loop {b .ready none with state:=.busy})).heap[w.heap.size]?=some (.deferred (some [])):=(World.putObj_heap_other (by omega)).trans H
   have Y:Kp W (W.putObj (w.heap.size+1) (.loop {b .ready none with state:=.busy})):=hKb _ _ _ _ (by omega) r rfl rfl
   refine wpIn_mono (hbody _ pre x _ (hI.putObj _ G (by omega) r rfl) J) ?_
   have u:∀(jump:Option Code) (m:World),KeepsOthers (W.putObj (w.heap.size+1) (.loop {b .ready none with state:=.busy})) m→
     (Instr.endRound (w.heap.size+1) jump).run P m=.ok (.bool jump.isNone) (m.putObj (w.heap.size+1) (.loop (b (if jump.isNone then .ready else .done) jump)))∧
     m.heap[w.heap.size+1]?=some (.loop {b .ready none with state:=.busy})∧
     (m.putObj (w.heap.size+1) (.loop (b (if jump.isNone then .ready else .done) jump))).heap[w.heap.size+1]?=some (.loop (b (if jump.isNone then .ready else .done) jump))∧
     (m.putObj (w.heap.size+1) (.loop (b (if jump.isNone then .ready else .done) jump))).heap[w.heap.size]?=some (.deferred (some [])):=fun jump m h=>by
    have f:=h.same _ _ V rfl
    have:=run_endRound (P:=P) jump f
    rw[d] at this ⊢
    exact⟨this,by rw[d] at f;exact f,World.putObj_heap_same (Array.getElem?_eq_some_iff.1 f).1,(World.putObj_heap_other (by omega)).trans (h.same _ _ X rfl)⟩
   rintro e a3 m z
   cases e with
   |normal=>
    obtain⟨h,L,i⟩:=z
    obtain⟨y,f,j,k⟩:=u none m h
    exact⟨_,_,y,.inl ⟨rfl,⟨hI.putObj _ i (by omega) f rfl,j,k⟩,hKt (hKt Y L) (hKb _ _ _ _ (by omega) f rfl rfl)⟩⟩
   |ret=>
    obtain⟨h,i⟩:=z
    obtain⟨y,f,j,k⟩:=u (some .ret) m h
    exact⟨_,_,y,.inr ⟨rfl,.ret,(hIx _).putObj _ i (by omega) f rfl,j,k⟩⟩
   |exit id=>
    obtain⟨h,i⟩:=z
    obtain⟨y,f,j,k⟩:=u (some (.exit id)) m h
    exact⟨_,_,y,.inr ⟨rfl,.exit id,(hIx _).putObj _ i (by omega) f rfl,j,k⟩⟩
   |goto t=>
    obtain⟨h,i⟩:=z
    obtain⟨y,f,j,k⟩:=u (some (.goto t)) m h
    exact⟨_,_,y,.inr ⟨rfl,.goto t,(hIx _).putObj _ i (by omega) f rfl,j,k⟩⟩
   |panic ch=>exact z.elim
   |outgrown=>exact z.elim
  ·rintro e W2 ⟨⟨v,rfl⟩,(⟨xs,hS,G,r,H⟩|⟨pre,a0,c,G,r,H⟩)⟩
   ·exact⟨none,_,by have:=run_endLoop (P:=P) r (by rw[d];simp);rw[d] at this;exact this,hdone _ xs _ (Nat.le_refl _) hS (hI.putObj _ G (by omega) r rfl) ((World.putObj_heap_other (by omega)).trans H)⟩
   ·exact⟨some c,_,by have:=run_endLoop (P:=P) r (by rw[d];simp);rw[d] at this;exact this,hstop _ c pre _ (Nat.le_refl _) a0 ((hIx c).putObj _ G (by omega) r rfl) ((World.putObj_heap_other (by omega)).trans H)⟩
end Go.Proofs.YtfhlhdmhgheonaaGreatDoor
