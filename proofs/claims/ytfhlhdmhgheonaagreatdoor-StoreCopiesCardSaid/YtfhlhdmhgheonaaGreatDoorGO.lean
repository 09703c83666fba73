/-
  The walk of the store's Drop: what it hands back, and the account behind it, are dropP's. The walk of the store's Drop, way by way. The walks of the tree's search for a mailbox, and of whether one lies beneath another. The walk of the store's Rename, way by way.
-/
import Derived.Test.YtfhlhdmhgheonaaGreatDoorGN
import Derived.Test.YtfhlhdmhgheonaaGreatDoorGU
set_option maxRecDepth 100000
set_option maxHeartbeats 8000000
namespace Go.Proofs.YtfhlhdmhgheonaaGreatDoor
open Go.Shelf Go.RowKit
attribute [local go_sem ↓] Go.wp_at_zero Go.wp_at_succ
theorem ZQ (id:Int)(B:Nat)(w W:World)(x:yg)(hB:w.cell? ⟨B,0,none⟩=some (.int .i64 id))(hb:Below w.heap.size w W) :
  Calls Tryz.prog 113 (#[.agg (xQ x).toArray]++#[.pointer (some ⟨B,0,none⟩)]) W fun e w'=>e=.returned (.bool (decide (x.parent=id)))∧Below w.heap.size w w':=by
 have a:=World.block_lt_of_cell? _ _ hB
 have g:=(hb.cell (p:=⟨B,0,none⟩) a).trans hB
 have b:B < W.heap.size:=Nat.lt_of_lt_of_le a hb.size
 obtain⟨i,j,c,k,l,m⟩:=x
 show Calls Tryz.prog 113 #[.agg #[.int .i64 i,.string ⟨j.toArray⟩,.int .i64 c,.int .i64 k,.int .i64 l,.int .i64 m],.pointer (some ⟨B,0,none⟩)] W _
 have n:(W.alloc (.cells #[.int .i64 i,.string ⟨j.toArray⟩,.int .i64 c,.int .i64 k,.int .i64 l,.int .i64 m] 89)).cell? ⟨B,0,none⟩=some (.int .i64 id):=(World.cell?_alloc_lt W _ _ b).trans g
 have d:=zdG hb
 clear hb g hB
 by_cases f:c=id
 ·subst f
  simp only[decide_true]
  go_enter Tryz.func113,Tryz.ntmps113
  go_wp2
  go_ret
  exact⟨rfl,d.out.alloc d.out.size _⟩
 ·have e:(c==id)=false:=by simpa using f
  have h:decide (c=id)=false:=decide_eq_false f
  simp only[h]
  clear h f
  go_enter Tryz.func113,Tryz.ntmps113
  go_wp2
  go_ret
  exact⟨rfl,d.out.alloc d.out.size _⟩
theorem zaK (id:Int)(B:Nat)(w W:World)(x:Int×Int)(hB:w.cell? ⟨B,0,none⟩=some (.int .i64 id))(hb:Below w.heap.size w W) :
  Calls Tryz.prog 182 (#[.agg (zA x).toArray]++#[.pointer (some ⟨B,0,none⟩)]) W fun e w'=>e=.returned (.bool (decide (x.1=id)))∧Below w.heap.size w w':=by
 have a:=World.block_lt_of_cell? _ _ hB
 have f:=(hb.cell (p:=⟨B,0,none⟩) a).trans hB
 have b:B < W.heap.size:=Nat.lt_of_lt_of_le a hb.size
 obtain⟨i,u⟩:=x
 show Calls Tryz.prog 182 #[.agg #[.int .i64 i,.int .i64 u],.pointer (some ⟨B,0,none⟩)] W _
 have h:(W.alloc (.cells #[.int .i64 i,.int .i64 u] 56)).cell? ⟨B,0,none⟩=some (.int .i64 id):=(World.cell?_alloc_lt W _ _ b).trans f
 have c:=zdG hb
 clear hb f hB
 by_cases d:i=id
 ·subst d
  simp only[decide_true]
  go_enter Tryz.func182,Tryz.ntmps182
  go_wp2
  go_ret
  exact⟨rfl,c.out.alloc c.out.size _⟩
 ·have e:(i==id)=false:=by simpa using d
  have g:decide (i=id)=false:=decide_eq_false d
  simp only[g]
  clear g d
  go_enter Tryz.func182,Tryz.ntmps182
  go_wp2
  go_ret
  exact⟨rfl,c.out.alloc c.out.size _⟩
theorem zda (w:World)(a0 a1 a3 a6 a7 id:Int)(s2:ByteArray)(vk vm:Value)(l:List (Int×Int))(hm:RdS w [] 2 vm l.length (zk zA l))(hn:l.length≤1099511627776) :
  Calls Tryz.prog 116 #[.agg #[.int .i64 a0,.int .i64 a1,.string s2,.int .i64 a3,vk,vm,.int .i64 a6,.int .i64 a7],.int .i64 id] w fun e w'=>e=.returned (.bool (l.any fun p=>decide (p.1=id)))∧Below w.heap.size w w':=by
 obtain⟨b,a⟩:∃b:World,b=(w.alloc (.cells #[.int .i64 a0,.int .i64 a1,.string s2,.int .i64 a3,vk,vm,.int .i64 a6,.int .i64 a7] 54)).alloc (.cells #[.int .i64 id] 3):=⟨_,rfl⟩
 have c:Below w.heap.size w b:=by
  rw[a]
  exact za (below_alloc1 _ _) (below_alloc1 _ _)
 have g:b.cell? ⟨w.heap.size+1,0,none⟩=some (.int .i64 id):=by
  rw[a]
  have k:=(Blk.new (w.alloc (.cells #[.int .i64 a0,.int .i64 a1,.string s2,.int .i64 a3,vk,vm,.int .i64 a6,.int .i64 a7] 54)) 3 #[.int .i64 id]).cell 0
  rw[World.size_alloc] at k
  exact k
 have n:b.cell? ⟨w.heap.size,5,none⟩=some vm:=by
  rw[a]
  exact((Blk.new w 54 #[.int .i64 a0,.int .i64 a1,.string s2,.int .i64 a3,vk,vm,.int .i64 a6,.int .i64 a7]).alloc (.cells #[.int .i64 id] 3)).cell 5
 have m:=hasP_any vm [] l (fun p=>decide (p.1=id)) 182 #[.pointer (some ⟨w.heap.size+1,0,none⟩)] (enters_of Tryz.func182 (by kernel_rfl) rfl) b (hm.below c) hn (fun W hb x _=>zaK id _ b W x g hb)
 have d:Calls Tryz.prog 181 #[vm,.func (.func 182) #[] #[.pointer (some ⟨w.heap.size+1,0,none⟩)]] b fun e w'=>e=.returned (.bool (l.any fun p=>decide (p.1=id)))∧Below b.heap.size b w':=m
 generalize (l.any fun p=>decide (p.1=id))=r at d
 have o:=zdG d
 have h:=zdG c
 have i:=zdG a
 clear m d hm c
 go_enter Tryz.func116,Tryz.ntmps116
 go_upto_region 1 with(fail)
 rw[←i.out]
 clear a
 go_wp2_with (first
  |(go_at_call 181;refine o.out.mono ?_;rintro e q ⟨rfl,f⟩;have j:=zdG (za h.out f);clear f)
  |fail)
 go_ret
 exact⟨rfl,j.out⟩
theorem Jh (id:Int)(B:Nat)(w W:World)(x:zR)(hB:w.cell? ⟨B,0,none⟩=some (.int .i64 id))(hb:Below w.heap.size w W)(hm:RdS W [] 2 x.mv x.p.members.length (zk zA x.p.members))(hn:x.p.members.length≤1099511627776) :
  Calls Tryz.prog 115 (#[.agg (xP x).toArray]++#[.pointer (some ⟨B,0,none⟩)]) W fun e w'=>e=.returned (.bool (xZ x.p id))∧Below w.heap.size w w':=by
 have a:=World.block_lt_of_cell? _ _ hB
 have o:=(hb.cell (p:=⟨B,0,none⟩) a).trans hB
 have b:B < W.heap.size:=Nat.lt_of_lt_of_le a hb.size
 obtain⟨⟨i,d,f,g,u,n,h,j⟩,k,mv⟩:=x
 show Calls Tryz.prog 115 #[.agg #[.int .i64 i,.int .i64 d,.string ⟨f.toArray⟩,.int .i64 g,k,mv,.int .i64 h,.int .i64 j],.pointer (some ⟨B,0,none⟩)] W _
 have q:(W.alloc (.cells #[.int .i64 i,.int .i64 d,.string ⟨f.toArray⟩,.int .i64 g,k,mv,.int .i64 h,.int .i64 j] 54)).cell? ⟨B,0,none⟩=some (.int .i64 id):=(World.cell?_alloc_lt W _ _ b).trans o
 have l:=zda (W.alloc (.cells #[.int .i64 i,.int .i64 d,.string ⟨f.toArray⟩,.int .i64 g,k,mv,.int .i64 h,.int .i64 j] 54)) i d g h j id ⟨f.toArray⟩ k mv n (hm.below (below_alloc1 _ _)) hn
 show Calls _ _ _ _ fun e w'=>e=.returned (.bool (n.any fun p=>decide (p.1=id)))∧_
 generalize (n.any fun p=>decide (p.1=id))=r at l
 have s:=zdG l
 have t:=zdG hb
 clear hb o hB l hm
 go_enter Tryz.func115,Tryz.ntmps115
 go_wp2_with (first
  |(go_at_call 116;refine s.out.mono ?_;rintro e v ⟨rfl,c⟩;have m:=zdG c;clear c)
  |fail)
 go_ret
 exact⟨rfl,za t.out (za (below_alloc1 _ _) m.out)⟩
theorem cell_far (w:World)(p a:Addr)(v:Value)(h:a.block≠p.block):(w.setCell p v).cell? a=w.cell? a:=World.cell?_of_block (Below.heap_setCell w p v a.block h)
theorem zcD (w:World)(g:Nat)(q:zl)(x:Acc)(id:Int)(h:zh w g q x)(hf:Fit x)(hno:zu x.boxes id=false) :
  Calls Tryz.prog 48 #[.pointer (some ⟨g,0,none⟩),.int .i64 id] w (yu w g q (xW x id)):=by
 have c:xW x id=(x,6):=by
  unfold xW
  rw[if_pos hno]
 rw[c]
 obtain⟨l,b⟩:∃l:World,l=w.alloc (.cells #[.int .i64 id] 3):=⟨_,rfl⟩
 have d:Below w.heap.size w l:=by rw[b];exact below_alloc1 _ _
 have z:l.cell? ⟨w.heap.size,0,none⟩=some (.int .i64 id):=by rw[b];exact(Blk.new w 3 #[.int .i64 id]).cell 0
 have m:w.heap.size < l.heap.size:=by rw[b,World.size_alloc];omega
 obtain⟨B,j⟩:∃B,B=w.heap.size:=⟨_,rfl⟩
 rw[←j] at z m
 have o:x.boxes.length≤1099511627776:=by have:=hf.nb;have:=hf.clock;have:=hf.cfg.mod;omega
 have s:=h.later d
 have f:=y9 g q.vb [] x.boxes id l s.zQ (s.boxes.reads [] (by simp)) o
 have t:=zdG d
 have u:=zdG b
 have H:=zdG h
 have A:=zdG hf
 have v:=zdG j
 have i:=xR id x.boxes
 rw[hno] at i
 have n:yx id x.boxes < 0:=by simpa using i
 generalize yx id x.boxes=r at f n
 clear c d i j h hf s hno
 go_enter Tryz.func48,Tryz.ntmps48
 go_upto_region 1 with(fail)
 rw[←u.out,←v.out]
 clear b
 go_wp2_with (first
  |(go_at_call 110;refine f.mono ?_;rintro e E ⟨rfl,k⟩;have F:=(k.cell (p:=⟨B,0,none⟩) m).trans z;have a:=za t.out k;have C:=(H.out.later a).zQ;have D:=(H.out.later a).zU;have G:E.cell? ⟨g,6,none⟩=some (.int .i64 x.cfg.maxMod):=(H.out.later a).cells 6;have I:=(H.out.later a).yo;have y:=zdG a;clear k f a)
  |fail)
 go_ret
 exact⟨rfl,q,Turned.of_below H.out y.out⟩
theorem drop_one (w:World)(g:Nat)(q:zl)(x:Acc)(id:Int)(h:zh w g q x)(hf:Fit x)(i:Nat)(_:i < x.boxes.length)(hpl:yx id x.boxes=(i:Int))(hhas:zu x.boxes id=true)(h1:id=1) :
  Calls Tryz.prog 48 #[.pointer (some ⟨g,0,none⟩),.int .i64 id] w (yu w g q (xW x id)):=by
 have c:xW x id=(x,1):=by
  unfold xW
  rw[if_neg (by rw[hhas];decide),if_pos h1]
 rw[c]
 obtain⟨l,b⟩:∃l:World,l=w.alloc (.cells #[.int .i64 id] 3):=⟨_,rfl⟩
 have d:Below w.heap.size w l:=by rw[b];exact below_alloc1 _ _
 have v:l.cell? ⟨w.heap.size,0,none⟩=some (.int .i64 id):=by rw[b];exact(Blk.new w 3 #[.int .i64 id]).cell 0
 have m:w.heap.size < l.heap.size:=by rw[b,World.size_alloc];omega
 obtain⟨B,j⟩:∃B,B=w.heap.size:=⟨_,rfl⟩
 rw[←j] at v m
 have n:x.boxes.length≤1099511627776:=by have:=hf.nb;have:=hf.clock;have:=hf.cfg.mod;omega
 have o:=h.later d
 have f:=y9 g q.vb [] x.boxes id l o.zQ (o.boxes.reads [] (by simp)) n
 have r:=zdG d
 have s:=zdG b
 have H:=zdG h
 have y:=zdG hf
 have t:=zdG j
 rw[hpl] at f
 have z:¬(i:Int) < 0:=by omega
 have E:(id==1)=true:=by simpa using h1
 clear c d j h hf o h1 hhas hpl
 go_enter Tryz.func48,Tryz.ntmps48
 go_upto_region 1 with(fail)
 rw[←s.out,←t.out]
 clear b
 go_wp2_with (first
  |(go_at_call 110;refine f.mono ?_;rintro e D ⟨rfl,k⟩;have F:=(k.cell (p:=⟨B,0,none⟩) m).trans v;have a:=za r.out k;have A:=(H.out.later a).zQ;have C:=(H.out.later a).zU;have G:D.cell? ⟨g,6,none⟩=some (.int .i64 x.cfg.maxMod):=(H.out.later a).cells 6;have I:=(H.out.later a).yo;have u:=zdG a;clear k f a)
  |fail)
 go_ret
 exact⟨rfl,q,Turned.of_below H.out u.out⟩
theorem zbh (w:World)(g:Nat)(q:zl)(x:Acc)(id:Int)(h:zh w g q x)(hf:Fit x)(i:Nat)(_:i < x.boxes.length)(hpl:yx id x.boxes=(i:Int))(hhas:zu x.boxes id=true)(h1:¬id=1)(hb:x.boxes.any (fun b=>decide (b.parent=id))=true) :
  Calls Tryz.prog 48 #[.pointer (some ⟨g,0,none⟩),.int .i64 id] w (yu w g q (xW x id)):=by
 have f:xW x id=(x,10):=by
  unfold xW
  rw[if_neg (by rw[hhas];decide),if_neg h1,if_pos (by rw[hb];rfl)]
 rw[f]
 obtain⟨n,c⟩:∃n:World,n=w.alloc (.cells #[.int .i64 id] 3):=⟨_,rfl⟩
 have j:Below w.heap.size w n:=by rw[c];exact below_alloc1 _ _
 have L:n.cell? ⟨w.heap.size,0,none⟩=some (.int .i64 id):=by rw[c];exact(Blk.new w 3 #[.int .i64 id]).cell 0
 have o:w.heap.size < n.heap.size:=by rw[c,World.size_alloc];omega
 obtain⟨B,l⟩:∃B,B=w.heap.size:=⟨_,rfl⟩
 rw[←l] at L o
 have r:x.boxes.length≤1099511627776:=by have:=hf.nb;have:=hf.clock;have:=hf.cfg.mod;omega
 have z:=h.later j
 have k:=y9 g q.vb [] x.boxes id n z.zQ (z.boxes.reads [] (by simp)) r
 have A:=zdG j
 have C:=zdG c
 have H:=zdG h
 have M:=zdG hf
 have D:=zdG l
 rw[hpl] at k
 have N:¬(i:Int) < 0:=by omega
 obtain⟨S,T,t,_,_⟩:=h.boxes.form
 have E:=zdG t
 obtain⟨U,V,u,_,_⟩:=h.mails.form
 have F:=zdG u
 have P:(id==1)=false:=by simpa using h1
 clear f j l h hf z h1 hhas hpl t u
 go_enter Tryz.func48,Tryz.ntmps48
 go_upto_region 1 with(fail)
 rw[←C.out,←D.out]
 clear c
 go_wp2_with (first
  |(go_at_call 110;refine k.mono ?_;rintro e K ⟨rfl,m⟩;have O:=(m.cell (p:=⟨B,0,none⟩) o).trans L;have a:=za A.out m;have G:=(H.out.later a).zQ;have I:=(H.out.later a).zU;have Q:K.cell? ⟨g,6,none⟩=some (.int .i64 x.cfg.maxMod):=(H.out.later a).cells 6;have R:=(H.out.later a).yo;have s:=zdG a;clear m k a;have d:=XY q.vb [] x.boxes (fun b=>decide (b.parent=id)) 113 #[.pointer (some ⟨B,0,none⟩)] (enters_of Tryz.func113 (by kernel_rfl) rfl) K ((H.out.later s.out).boxes.reads [] (by simp)) r (fun W hb y _=>ZQ id B K W y O hb);rw[hb] at d;rw[E.out] at d G;rw[F.out] at I)
  |(go_at_call 68;refine d.mono ?_;rintro e X ⟨rfl,v⟩;have J:=zdG (za s.out v);clear d v)
  |fail)
 go_ret
 exact⟨rfl,q,Turned.of_below H.out J.out⟩
theorem Z6 {w:World}{g:Nat}{q:zl}{x:Acc}(h:zh w g q x)(hf:Fit x)(id:Int)(B:Nat)(hB:w.cell? ⟨B,0,none⟩=some (.int .i64 id)) :
  Calls Tryz.prog 114 #[q.vm,.func (.func 115) #[] #[.pointer (some ⟨B,0,none⟩)]] w fun e w'=>e=.returned (.bool (x.mails.any fun m=>xZ m id))∧Below w.heap.size w w':=by
 have a:=h.Za
 have b:=za2 q.vm [] q.ms (fun y=>xZ y.p id) 115 #[.pointer (some ⟨B,0,none⟩)] (enters_of Tryz.func115 (by kernel_rfl) rfl) w (by
  rw[a]
  exact h.mails.reads [] (by simp)) (by rw[a];have:=hf.nm;have:=hf.clock;have:=hf.cfg.mod;omega) (fun W hb y hy=>Jh id B w W y hB hb (((h.parts y hy).mem.below hb).sub (fun _ _ _ hm=>by cases hm)) (by have:=hf.Jp (m:=y.p) (by rw[←h.same];exact List.mem_map_of_mem hy);omega))
 have c:q.ms.any (fun y=>xZ y.p id)=x.mails.any fun m=>xZ m id:=by
  have d:x.mails.any (fun y=>xZ y id)=(q.ms.map (·.p)).any (fun y=>xZ y id):=by rw[h.same]
  rw[d,List.any_map]
  rfl
 rw[c] at b
 exact b
theorem zbH (w:World)(g:Nat)(q:zl)(x:Acc)(id:Int)(h:zh w g q x)(hf:Fit x)(i:Nat)(_:i < x.boxes.length)(hpl:yx id x.boxes=(i:Int))(hhas:zu x.boxes id=true)(h1:¬id=1)(hb:x.boxes.any (fun b=>decide (b.parent=id))=false)(hm:(x.mails.any fun m=>xZ m id)=true) :
  Calls Tryz.prog 48 #[.pointer (some ⟨g,0,none⟩),.int .i64 id] w (yu w g q (xW x id)):=by
 have j:xW x id=(x,10):=by
  unfold xW
  rw[if_neg (by rw[hhas];decide),if_neg h1,if_pos (by rw[hb,hm];rfl)]
 rw[j]
 obtain⟨u,d⟩:∃u:World,u=w.alloc (.cells #[.int .i64 id] 3):=⟨_,rfl⟩
 have k:Below w.heap.size w u:=by rw[d];exact below_alloc1 _ _
 have S:u.cell? ⟨w.heap.size,0,none⟩=some (.int .i64 id):=by rw[d];exact(Blk.new w 3 #[.int .i64 id]).cell 0
 have v:w.heap.size < u.heap.size:=by rw[d,World.size_alloc];omega
 obtain⟨B,r⟩:∃B,B=w.heap.size:=⟨_,rfl⟩
 rw[←r] at S v
 have z:x.boxes.length≤1099511627776:=by have:=hf.nb;have:=hf.clock;have:=hf.cfg.mod;omega
 have F:=h.later k
 have l:=y9 g q.vb [] x.boxes id u F.zQ (F.boxes.reads [] (by simp)) z
 have G:=zdG k
 have I:=zdG d
 have H:=zdG h
 have J:=zdG hf
 have K:=zdG r
 rw[hpl] at l
 have T:¬(i:Int) < 0:=by omega
 obtain⟨Ab,cb,C,_,_⟩:=h.boxes.form
 have L:=zdG C
 obtain⟨Am,cm,D,_,_⟩:=h.mails.form
 have n:=zdG D
 have X:(id==1)=false:=by simpa using h1
 clear j k r h hf F h1 hhas hpl C D
 go_enter Tryz.func48,Tryz.ntmps48
 go_upto_region 1 with(fail)
 rw[←I.out,←K.out]
 clear d
 go_wp2_with (first
  |(go_at_call 110;refine l.mono ?_;rintro e R ⟨rfl,s⟩;have M:=(s.cell (p:=⟨B,0,none⟩) v).trans S;have a:=za G.out s;have N:=(H.out.later a).zQ;have O:=(H.out.later a).zU;have Y:R.cell? ⟨g,6,none⟩=some (.int .i64 x.cfg.maxMod):=(H.out.later a).cells 6;have Z:=(H.out.later a).yo;have A:=zdG a;clear s l a;have f:=XY q.vb [] x.boxes (fun b=>decide (b.parent=id)) 113 #[.pointer (some ⟨B,0,none⟩)] (enters_of Tryz.func113 (by kernel_rfl) rfl) R ((H.out.later A.out).boxes.reads [] (by simp)) z (fun W hb y _=>ZQ id B R W y M hb);rw[hb] at f;rw[L.out] at f N;rw[n.out] at O)
  |(go_at_call 68;refine f.mono ?_;rintro e V ⟨rfl,t⟩;have c:=zdG (za A.out t);have U:=(t.cell (p:=⟨B,0,none⟩) (World.block_lt_of_cell? _ _ M)).trans M;have P:=(H.out.later c.out).zU;rw[n.out] at P;have n6:V.cell? ⟨g,6,none⟩=some (.int .i64 x.cfg.maxMod):=(H.out.later c.out).cells 6;have n9:=(H.out.later c.out).yo;have o:=Z6 (H.out.later c.out) J.out id B U;rw[hm,n.out] at o;clear f t)
  |(go_at_call 114;refine o.mono ?_;rintro e w3 ⟨rfl,E⟩;have Q:=zdG (za c.out E);clear o E)
  |fail)
 go_ret
 exact⟨rfl,q,Turned.of_below H.out Q.out⟩
theorem zdp (w:World)(g:Nat)(q:zl)(x:Acc)(id:Int)(h:zh w g q x)(hf:Fit x)(i:Nat)(_:i < x.boxes.length)(hpl:yx id x.boxes=(i:Int))(hhas:zu x.boxes id=true)(h1:¬id=1)(hb:x.boxes.any (fun b=>decide (b.parent=id))=false)(hm:(x.mails.any fun m=>xZ m id)=false)(hen:x.cfg.maxMod≤x.clock) :
  Calls Tryz.prog 48 #[.pointer (some ⟨g,0,none⟩),.int .i64 id] w (yu w g q (xW x id)):=by
 have j:xW x id=(x,11):=by
  unfold xW
  rw[if_neg (by rw[hhas];decide),if_neg h1,if_neg (by rw[hb,hm];decide),if_pos (by simp[Acc.ends,hen])]
 rw[j]
 obtain⟨z,d⟩:∃z:World,z=w.alloc (.cells #[.int .i64 id] 3):=⟨_,rfl⟩
 have k:Below w.heap.size w z:=by rw[d];exact below_alloc1 _ _
 have U:z.cell? ⟨w.heap.size,0,none⟩=some (.int .i64 id):=by rw[d];exact(Blk.new w 3 #[.int .i64 id]).cell 0
 have A:w.heap.size < z.heap.size:=by rw[d,World.size_alloc];omega
 obtain⟨B,s⟩:∃B,B=w.heap.size:=⟨_,rfl⟩
 rw[←s] at U A
 have C:x.boxes.length≤1099511627776:=by have:=hf.nb;have:=hf.clock;have:=hf.cfg.mod;omega
 have G:=h.later k
 have l:=y9 g q.vb [] x.boxes id z G.zQ (G.boxes.reads [] (by simp)) C
 have I:=zdG k
 have J:=zdG d
 have H:=zdG h
 have K:=zdG hf
 have L:=zdG s
 rw[hpl] at l
 have V:¬(i:Int) < 0:=by omega
 obtain⟨Ab,cb,E,_,_⟩:=h.boxes.form
 have M:=zdG E
 obtain⟨Am,cm,F,_,_⟩:=h.mails.form
 have n:=zdG F
 have hq:(id==1)=false:=by simpa using h1
 clear j k s h hf G h1 hhas hpl E F
 go_enter Tryz.func48,Tryz.ntmps48
 go_upto_region 1 with(fail)
 rw[←J.out,←L.out]
 clear d
 go_wp2_with (first
  |(go_at_call 110;refine l.mono ?_;rintro e S ⟨rfl,t⟩;have N:=(t.cell (p:=⟨B,0,none⟩) A).trans U;have a:=za I.out t;have O:=(H.out.later a).zQ;have P:=(H.out.later a).zU;have c6:S.cell? ⟨g,6,none⟩=some (.int .i64 x.cfg.maxMod):=(H.out.later a).cells 6;have c9:=(H.out.later a).yo;have D:=zdG a;clear t l a;have f:=XY q.vb [] x.boxes (fun b=>decide (b.parent=id)) 113 #[.pointer (some ⟨B,0,none⟩)] (enters_of Tryz.func113 (by kernel_rfl) rfl) S ((H.out.later D.out).boxes.reads [] (by simp)) C (fun W hb y _=>ZQ id B S W y N hb);rw[hb] at f;rw[M.out] at f O;rw[n.out] at P)
  |(go_at_call 68;refine f.mono ?_;rintro e Z ⟨rfl,u⟩;have c:=zdG (za D.out u);have Q:=(u.cell (p:=⟨B,0,none⟩) (World.block_lt_of_cell? _ _ N)).trans N;have R:=(H.out.later c.out).zU;rw[n.out] at R;have n6:Z.cell? ⟨g,6,none⟩=some (.int .i64 x.cfg.maxMod):=(H.out.later c.out).cells 6;have n9:=(H.out.later c.out).yo;have o:=Z6 (H.out.later c.out) K.out id B Q;rw[hm,n.out] at o;clear f u)
  |(go_at_call 114;refine o.mono ?_;rintro e T ⟨rfl,v⟩;have r:=zdG (za c.out v);have X:T.cell? ⟨g,6,none⟩=some (.int .i64 x.cfg.maxMod):=(H.out.later r.out).cells 6;have Y:=(H.out.later r.out).yo;have d3:=(v.cell (p:=⟨B,0,none⟩) (World.block_lt_of_cell? _ _ Q)).trans Q;  clear o v)
  |(go_at_call 92;refine(yQ g x.clock x.cfg.maxMod _ ((zB (w:=T) (by rfl) _).trans Y) ((zB (w:=T) (by rfl) _).trans X)).mono ?_;rintro e w4 ⟨rfl,ne,rfl⟩)
  |fail)
 go_ret
 exact⟨rfl,q,(Turned.of_below H.out r.out).zL (below_drewN' (Below.refl _ _) _)⟩
theorem drop_ok (w:World)(g:Nat)(q:zl)(x:Acc)(id:Int)(h:zh w g q x)(hf:Fit x)(i:Nat)(hi:i < x.boxes.length)(hpl:yx id x.boxes=(i:Int))(hhas:zu x.boxes id=true)(h1:¬id=1)(hb:x.boxes.any (fun b=>decide (b.parent=id))=false)(hm:(x.mails.any fun m=>xZ m id)=false)(hen:¬x.cfg.maxMod≤x.clock) :
  Calls Tryz.prog 48 #[.pointer (some ⟨g,0,none⟩),.int .i64 id] w (yu w g q (xW x id)):=by
 obtain⟨rr,T⟩:∃rr,xW x id=rr:=⟨_,rfl⟩
 have z:rr=({x with clock:=x.clock+1,boxes:=x.boxes.eraseIdx i,log:=x.log.add [⟨x.clock+1,1,id,3⟩]},0):=by
  rw[←T]
  unfold xW
  rw[if_neg (by rw[hhas];decide),if_neg h1,if_neg (by rw[hb,hm];decide),if_neg (by simp[Acc.ends];omega),hpl]
  rfl
 rw[T]
 have a1:=zdG z
 obtain⟨w0,n⟩:∃w0:World,w0=w.alloc (.cells #[.int .i64 id] 3):=⟨_,rfl⟩
 have G:Below w.heap.size w w0:=by rw[n];exact below_alloc1 _ _
 have d0:w0.cell? ⟨w.heap.size,0,none⟩=some (.int .i64 id):=by rw[n];exact(Blk.new w 3 #[.int .i64 id]).cell 0
 have a2:w.heap.size < w0.heap.size:=by rw[n,World.size_alloc];omega
 obtain⟨B,U⟩:∃B,B=w.heap.size:=⟨_,rfl⟩
 rw[←U] at d0 a2
 have I:x.boxes.length≤1099511627776:=by have:=hf.nb;have:=hf.clock;have:=hf.cfg.mod;omega
 have h0:=h.later G
 have J:=y9 g q.vb [] x.boxes id w0 h0.zQ (h0.boxes.reads [] (by simp)) I
 have ah:=zdG G
 have ai:=zdG n
 have H:=zdG h
 have K:=zdG hf
 have s:=zdG U
 rw[hpl] at J
 have ar:¬(i:Int) < 0:=by omega
 obtain⟨Ab,cb,ae,_,_⟩:=h.boxes.form
 have L:=zdG ae
 obtain⟨Am,cm,af,_,_⟩:=h.mails.form
 have M:=zdG af
 have hq:(id==1)=false:=by simpa using h1
 have au:=hf.clock
 have av:=hf.cfg.mod
 have aw:IntKind.i64.wrap ((i:Int)+1)=(i:Int)+1:=IntWalk.i64_in _ (by omega)
 clear z T G U h hf h0 h1 hhas hpl ae af
 go_enter Tryz.func48,Tryz.ntmps48
 go_upto_region 1 with(fail)
 rw[←ai.out,←s.out]
 clear n
 go_upto_region 14 with(first
  |(go_at_call 110;refine J.mono ?_;rintro e w1 ⟨rfl,V⟩;have d1:=(V.cell (p:=⟨B,0,none⟩) a2).trans d0;have c:=za ah.out V;have a3:=(H.out.later c).zQ;have a4:=(H.out.later c).zU;have c6:w1.cell? ⟨g,6,none⟩=some (.int .i64 x.cfg.maxMod):=(H.out.later c).cells 6;have c9:=(H.out.later c).yo;have a5:=zdG c;clear V J c;have t:=XY q.vb [] x.boxes (fun b=>decide (b.parent=id)) 113 #[.pointer (some ⟨B,0,none⟩)] (enters_of Tryz.func113 (by kernel_rfl) rfl) w1 ((H.out.later a5.out).boxes.reads [] (by simp)) I (fun W hb y _=>ZQ id B w1 W y d1 hb);rw[hb] at t;rw[L.out] at t a3;rw[M.out] at a4)
  |(go_at_call 68;refine t.mono ?_;rintro e w2 ⟨rfl,X⟩;have j:=zdG (za a5.out X);have d2:=(X.cell (p:=⟨B,0,none⟩) (World.block_lt_of_cell? _ _ d1)).trans d1;have a6:=(H.out.later j.out).zU;rw[M.out] at a6;have n6:w2.cell? ⟨g,6,none⟩=some (.int .i64 x.cfg.maxMod):=(H.out.later j.out).cells 6;have n9:=(H.out.later j.out).yo;have N:=Z6 (H.out.later j.out) K.out id B d2;rw[hm,M.out] at N;clear t X)
  |(go_at_call 114;refine N.mono ?_;rintro e u ⟨rfl,Y⟩;have O:=zdG (za j.out Y);have o6:u.cell? ⟨g,6,none⟩=some (.int .i64 x.cfg.maxMod):=(H.out.later O.out).cells 6;have o9:=(H.out.later O.out).yo;have d3:=(Y.cell (p:=⟨B,0,none⟩) (World.block_lt_of_cell? _ _ d2)).trans d2;  clear N Y)
  |(go_at_call 92;refine(yQ g x.clock x.cfg.maxMod _ ((zB (w:=u) (by rfl) _).trans o9) ((zB (w:=u) (by rfl) _).trans o6)).mono ?_;rintro e w4 ⟨rfl,ne,rfl⟩;have P:=(za O.out (below_drewN' (Below.refl u.heap.size u) ne));have aj:=zdG P;have d:=zdG (H.out.later P);have Q:=d.out.zQ;rw[L.out] at Q;have pf:=d.out.frozen 10;have A:=delB_any (u.drewN ne) _ q.hb _ _ (by have h1:=d.out.boxes;rw[L.out] at h1;exact h1) (ZI U7 x.boxes) I i hi;have d4:(u.drewN ne).cell? ⟨B,0,none⟩=some (.int .i64 id):=d3;have a7:g∉q.hb.toList:=(fun hm=>d.out.apart.hb (by simpa using hm));have ak:B∉q.hb.toList:=(fun hm=>by have h1:=H.out.lt B (zl.vW (by simpa using hm));rw[s.out] at h1;omega);have k:g < (u.drewN ne).heap.size:=d.out.blk.lt;have C:B < (u.drewN ne).heap.size:=World.block_lt_of_cell? _ _ d4;clear P)
  |(go_at_call 117;refine A.mono ?_;rintro e w8 ⟨v8,rfl,Z,o⟩;have al:w8.cell? ⟨g,10,none⟩=some (.slice Ab x.boxes.length cb):=(o.cell (p:=⟨g,10,none⟩) k a7).trans Q;have ef:w8.frozen? ⟨g,10,none⟩=false:=(o.frozen (p:=⟨g,10,none⟩) k a7).trans pf;have d8:=(o.cell (p:=⟨B,0,none⟩) C ak).trans d4;obtain⟨A8,c8,rfl,_,_⟩:=Z.form;have a8:=zdG Z;have a9:=zdG o;clear A Z o)
  |fail)
 obtain⟨f,v⟩:∃f:World,f=w8.setCell ⟨g,10,none⟩ (.slice A8 (x.boxes.length - 1) c8):=⟨_,rfl⟩
 rw[←v]
 have a:=d.out.cutBox (v':=.slice A8 (x.boxes.length - 1) c8) i hi a8.out a9.out
 rw[←v] at a
 obtain⟨q7,ag⟩:∃q7:zl,q7={q with vb:=.slice A8 (x.boxes.length - 1) c8}:=⟨_,rfl⟩
 rw[←ag] at a
 have aa:Turned w f g q {x with boxes:=x.boxes.eraseIdx i} q7:=(Turned.of_below H.out aj.out).trans a
 have df:f.cell? ⟨B,0,none⟩=some (.int .i64 id):=by
  rw[v,cell_far _ _ _ _ (by
   have h1:=H.out.blk.lt
   have h2:=s.out
   show B≠g
   omega)]
  exact d8
 have R:=zdG aa
 clear v a ag aa al ef d8 d4 d3 d2 d1 d0 Q pf c6 c9 n6 n9 a6 o6 o9 a3 a4 k C a8 a9
 have am:f.cell? ⟨g,12,none⟩=some (.pointer (some ⟨q7.gl,0,none⟩)):=R.out.at_.zV
 have l:∀W:World,W.heap=f.heap→W.os=f.os→W.tape=f.tape→W.output=f.output→Calls Tryz.prog 95 #[.pointer (some ⟨g,0,none⟩)] W fun e w'=>e=.returned (.int .i64 (x.clock+1))∧Turned w w' g q {x with clock:=x.clock+1,boxes:=x.boxes.eraseIdx i} q7∧w'.cell? ⟨B,0,none⟩=some (.int .i64 id):=fun W e0 e1 e2 e3=>by
  have hb:Below f.heap.size f W:=⟨e1,e2,e3,Nat.le_of_eq (by rw[e0]),fun _ _=>by rw[e0]⟩
  have h1:=R.out.at_.later hb
  refine(uo g x.clock W h1.yo (h1.frozen 9) (by omega)).mono ?_
  rintro e w' ⟨rfl,rfl⟩
  refine⟨rfl,(R.out.yL hb).trans (h1.yj 9 (.int .i64 (x.clock+1)) {x with clock:=x.clock+1,boxes:=x.boxes.eraseIdx i} rfl rfl rfl rfl),?_⟩
  rw[cell_far _ _ _ _ (by
   have h1:=H.out.blk.lt
   have h2:=s.out
   show B≠g
   omega),show W.cell? ⟨B,0,none⟩=f.cell? ⟨B,0,none⟩ from World.cell?_of_block (by rw[e0])]
  exact df
 have S:=zdG l
 clear l
 go_cut [] (fun wx=>∃a0,Hid (Turned w wx g q {x with clock:=x.clock+1,boxes:=x.boxes.eraseIdx i,log:=x.log.add [⟨x.clock+1,1,id,3⟩]} a0))
 case first=>
  go_region_law (first
   |(refine zF (by rfl) (by rfl) (enters_of Tryz.func95 (by kernel_rfl) rfl) (by first|(simp[Act.eval];done)|simp[Act.eval,Act.put]) (S.out _ rfl rfl rfl rfl) ?_;rintro e w9 ⟨rfl,r,d9⟩;refine⟨_,rfl,?_⟩;have an:w9.cell? ⟨g,12,none⟩=some (.pointer (some ⟨q7.gl,0,none⟩)):=r.at_.zV;have aq:=(World.cell?_alloc_lt w9 (.cells #[.int .i64 (x.clock+1),.int .i64 1,.int .i64 id,.int .i64 3] 177) ⟨g,12,none⟩ r.at_.blk.lt).trans an;have D:=fun W hb=>addOne (W:=W) r.at_ K.out.log K.out.cfg.log ⟨x.clock+1,1,id,3⟩ hb;have ab:=zdG D;have ao:=zdG r;clear D r)
   |(refine zF (by rfl) (by rfl) (enters_of Tryz.func98 (by kernel_rfl) rfl) (by first|(simp[Act.eval];done)|simp[Act.eval,Act.put]) (ab.out _ ⟨rfl,rfl,rfl,Nat.le_refl _,fun _ _=>rfl⟩) ?_;rintro e ax ⟨rfl,ap,E⟩;refine⟨_,rfl,?_⟩;have ac:=zdG E;clear E)
   |fail)
  all_goals
   go_wp2_with fail
   go_meet
   exact⟨ap,zdG (ao.out.trans ac.out)⟩
 case rest=>
  obtain⟨a0,F⟩:=hcut
  obtain⟨wz,rfl⟩:∃wz:World,wz=wc:=⟨_,rfl⟩
  have ad:Hid (yu w g q rr (.returned (.int .i64 0)) wz):=zdG (by
   rw[a1.out]
   exact⟨rfl,a0,F.out⟩)
  clear F am df
  go_wp2_with fail
  go_ret
  exact ad.out
theorem zcC (w:World)(g:Nat)(q:zl)(x:Acc)(id:Int)(h:zh w g q x)(hf:Fit x) :
  Calls Tryz.prog 48 #[.pointer (some ⟨g,0,none⟩),.int .i64 id] w (yu w g q (xW x id)):=by
 cases c:zu x.boxes id with
 |false=>exact zcD w g q x id h hf c
 |true=>
  obtain⟨i,e,a,_,_,_,_⟩:=Zy ((yU x.boxes id).1 c)
  by_cases d:id=1
  ·exact drop_one w g q x id h hf i e a c d
  cases f:x.boxes.any (fun b=>decide (b.parent=id)) with
  |true=>exact zbh w g q x id h hf i e a c d f
  |false=>
   cases j:(x.mails.any fun m=>xZ m id) with
   |true=>exact zbH w g q x id h hf i e a c d f j
   |false=>
    by_cases k:x.cfg.maxMod≤x.clock
    ·exact zdp w g q x id h hf i e a c d f j k
    ·exact drop_ok w g q x id h hf i e a c d f j k
theorem Qz (id:Int)(B:Nat)(w W:World)(x:yg)(hB:w.cell? ⟨B,0,none⟩=some (.int .i64 id))(hb:Below w.heap.size w W) :
  Calls Tryz.prog 208 (#[.agg (xQ x).toArray]++#[.pointer (some ⟨B,0,none⟩)]) W fun e w'=>e=.returned (.bool (decide (x.id=id)))∧Below w.heap.size w w':=by
 have a:=World.block_lt_of_cell? _ _ hB
 have f:=(hb.cell (p:=⟨B,0,none⟩) a).trans hB
 have b:B < W.heap.size:=Nat.lt_of_lt_of_le a hb.size
 obtain⟨i,h,j,k,l,m⟩:=x
 show Calls Tryz.prog 208 #[.agg #[.int .i64 i,.string ⟨h.toArray⟩,.int .i64 j,.int .i64 k,.int .i64 l,.int .i64 m],.pointer (some ⟨B,0,none⟩)] W _
 have n:(W.alloc (.cells #[.int .i64 i,.string ⟨h.toArray⟩,.int .i64 j,.int .i64 k,.int .i64 l,.int .i64 m] 89)).cell? ⟨B,0,none⟩=some (.int .i64 id):=(World.cell?_alloc_lt W _ _ b).trans f
 have c:=zdG hb
 clear hb f hB
 by_cases d:i=id
 ·subst d
  simp only[decide_true]
  go_enter Tryz.func208,Tryz.ntmps208
  go_wp2
  go_ret
  exact⟨rfl,c.out.alloc c.out.size _⟩
 ·have e:(i==id)=false:=by simpa using d
  have g:decide (i=id)=false:=decide_eq_false d
  simp only[g]
  clear g d
  go_enter Tryz.func208,Tryz.ntmps208
  go_wp2
  go_ret
  exact⟨rfl,c.out.alloc c.out.size _⟩
theorem find_any (v:Value)(S:List Nat)(l:List yg)(id:Int)(w:World)(hr:RdS w S 6 v l.length (zk xQ l))(hn:l.length≤1099511627776) :
  Calls Tryz.prog 179 #[v,.int .i64 id] w fun e w'=>e=.returned (.int .i64 (yx id l))∧Below w.heap.size w w':=by
 have a:(w.alloc (.cells #[.int .i64 id] 3)).cell? ⟨w.heap.size,0,none⟩=some (.int .i64 id):=(World.cell?_alloc_at _ _ _ _ rfl).trans rfl
 have f:∀args W,(callFunc 208 args).run Tryz.prog W=.ok (.enter 208 args) W:=enters_of Tryz.func208 (by kernel_rfl) rfl
 have g:=UK v S l (fun b=>decide (b.id=id)) 208 #[.pointer (some ⟨w.heap.size,0,none⟩)] f (w.alloc (.cells #[.int .i64 id] 3)) (hr.below ((Below.refl _ w).alloc (Nat.le_refl _) _)) hn
  (fun W d x _=>Qz id _ _ W x a d)
 have c:Calls Tryz.prog 152 #[v,.func (.func 208) #[] #[.pointer (some ⟨w.heap.size,0,none⟩)]] (w.alloc (.cells #[.int .i64 id] 3)) fun e w'=>e=.returned (.int .i64 (yx id l))∧Below (w.alloc (.cells #[.int .i64 id] 3)).heap.size (w.alloc (.cells #[.int .i64 id] 3)) w':=g
 generalize yx id l=r at c
 clear g f hr a hn
 go_enter Tryz.func179,Tryz.ntmps179
 go_wp2_with (first
  |(go_at_call 152;refine c.mono ?_;rintro e h ⟨rfl,d⟩)
  |fail)
 go_ret
 exact⟨rfl,((Below.refl _ _).alloc (Nat.le_refl _) _).trans (d.mono (by simp))⟩
theorem Zr (v:Value)(S:List Nat)(l:List yg)(id top:Int)(w:World)(hr:RdS w S 6 v l.length (zk xQ l))(hn:l.length≤1099511627775) :
  Calls Tryz.prog 111 #[v,.int .i64 id,.int .i64 top] w fun e w'=>e=.returned (.bool (xU l top (l.length+1) id))∧Below w.heap.size w w':=by
 obtain⟨b,J⟩:∃b,xU l top (l.length+1) id=b:=⟨_,rfl⟩
 rw[J]
 obtain⟨A,P,K,_,_⟩:=hr.form
 obtain⟨n,u⟩:∃n,l.length=n:=⟨_,rfl⟩
 rw[u] at K J
 have R:=zdG hr
 have L:=zdG J
 have T:=zdG K
 have M:=zdG u
 have Z:IntKind.i64.wrap ((n:Int)+1)=(n:Int)+1:=IntWalk.i64_in _ (by omega)
 rw[K]
 have a0:n≤1099511627775:=by omega
 clear hr J K u
 go_enter Tryz.func111,Tryz.ntmps111
 go_wp2_with fail
 go_loopw [1,11] (fun c i wr=>∃(k:Nat) (a:Int),k≤n+1∧i=.int .i64 k∧c=.int .i64 a∧Hid (Below w.heap.size w wr)∧Hid (xU l top (n+1 - k) a=b)) (fun _ i _=>n+1 - (intOf i).toNat)
 case atStart=>exact⟨0,id,Nat.zero_le _,rfl,rfl,zdG (Below.refl _ _),L⟩
 case round=>
  obtain⟨k,a,hk,rfl,rfl,z,V⟩:=hrel
  by_cases a4:k < n+1
  ·have N:(k:Int) < (n:Int)+1:=by omega
   obtain⟨f,hf⟩:∃f,n+1 - k=f+1:=⟨n - k,by omega⟩
   have d:=V.out
   rw[hf,xU] at d
   by_cases t:a=top
   ·rw[if_pos t] at d
    have hq:(a==top)=true:=by simpa using t
    have s:=zdG d
    clear d t
    go_wp2_with fail
    go_ret
    exact⟨zH s.out,z.out⟩
   ·rw[if_neg t] at d
    have hq:(a==top)=false:=by simpa using t
    have g:=find_any (.slice A n P) [] l a wr (by rw[←T.out];exact(R.out.below z.out).sub (fun _ _ _ hm=>by cases hm)) (by omega)
    by_cases o:a∈ids l
    ·obtain⟨i,W,C,_,_,_,X⟩:=Zy o
     rw[X] at d
     simp only at d
     rw[C] at g
     obtain⟨Q,x,Y,E,_,_,F,_,G⟩:=R.out.at_ (by omega)
     have B:=T.out.symm.trans E
     have hA:A=some ⟨Q,x,none⟩:=(Value.slice.inj B).1
     subst hA
     have O:wr.cell? ⟨Q,x+i * 6+2,none⟩=some (.int .i64 l[i].parent):=by
      refine(z.out.cell F).trans ?_
      have C:=G (i * 6+2) (by omega)
      rw[zy zT l i 2 W (by omega),←Nat.add_assoc] at C
      exact C
     obtain⟨H,I⟩:∃H,l[i].parent=H:=⟨_,rfl⟩
     rw[I] at O d
     have a1:(i:Int) < (n:Int):=by rw[M.out] at W;omega
     have a2:¬(i:Int) < 0:=by omega
     have a3:(0:Int)≤(i:Int):=by omega
     have s:Hid (xU l top (n+1 - (k+1)) H=b):=zdG (by rw[show n+1 - (k+1)=f by omega];exact d)
     clear d C X G E B o t I
     go_wp2_with (first
      |(go_at_call 179;refine g.mono ?_;rintro e w4 ⟨rfl,h⟩;have e3:=(h.cell (p:=⟨Q,x+i * 6+2,none⟩) (World.block_lt_of_cell? _ _ O)).trans O;have q:=zdG (za z.out h);clear h g)
      |fail)
     refine⟨?_,by simp[intOf];omega⟩
     first|exact⟨k+1,H,by omega,by go_num,rfl,q,s⟩|((repeat apply Exists.intro);exact⟨⟨k+1,H,by omega,by go_num,rfl,q,s⟩,rfl⟩)
    ·have j:=xR a l
     have U:zu l a=false:=by
      cases hx:zu l a with
      |false=>rfl
      |true=>exact absurd ((yU l a).1 hx) o
     rw[U] at j
     have D:yx a l < 0:=by simpa using j
     have m:l.find? (fun b=>decide (b.id=a))=none:=by
      rw[List.find?_eq_none]
      intro y hy hd
      exact o (List.mem_map.2 ⟨y,hy,by simpa using hd⟩)
     rw[m] at d
     simp only at d
     generalize yx a l=r at g D
     have s:=zdG d
     clear d j U m o t
     go_wp2_with (first
      |(go_at_call 179;refine g.mono ?_;rintro e w4 ⟨rfl,h⟩;have q:=zdG (za z.out h);clear h g)
      |fail)
     go_ret
     exact⟨zH s.out,q.out⟩
  ·have N:¬(k:Int) < (n:Int)+1:=by omega
   have d:=V.out
   rw[show n+1 - k=0 by omega,xU] at d
   have s:=zdG d
   clear d
   go_wp2_with fail
   go_ret
   exact⟨zH s.out,z.out⟩
theorem zcj {W:World}{B:Nat}{i:Int}(h:Blk W B 3 #[.int .i64 i]):Sl W 3 1 (.slice (some ⟨B,0,none⟩) 1 1) (some B) 1 ([i].map encI):=
 ⟨by simp[encI],.inr ⟨B,0,1,_,rfl,rfl,h,Nat.le_refl _,by unfold maxLen;omega,by simp,by simp[encI]⟩⟩
theorem zck {l:List yg}{i:Nat}(hi:i < l.length){y:yg}(h:y.id=l[i].id):ids (l.set i y)=ids l:=by
 unfold ids
 rw[List.map_set,h]
 have b:(l.map (·.id))[i]?=some l[i].id:=by rw[List.getElem?_map,List.getElem?_eq_getElem hi];rfl
 apply List.ext_getElem?
 intro j
 rw[List.getElem?_set]
 by_cases a:i=j
 ·subst a
  rw[if_pos rfl,b]
  simp[hi]
 ·rw[if_neg a]
theorem zaq (w:World)(g:Nat)(q:zl)(x:Acc)(id:Int)(nl:Text)(parent:Int)(h:zh w g q x)(hf:Fit x)(_:nl.length≤1099511627776)(hno:zu x.boxes id=false) :
  Calls Tryz.prog 46 #[.pointer (some ⟨g,0,none⟩),.int .i64 id,.string ⟨nl.toArray⟩,.int .i64 parent] w (yu w g q (zK zo x id nl parent)):=by
 have a:x.boxes.find? (fun b=>decide (b.id=id))=none:=by
  rw[List.find?_eq_none]
  intro y o p
  have l:zu x.boxes id=true:=(yU x.boxes id).2 (List.mem_map.2 ⟨y,o,by simpa using p⟩)
  rw[hno] at l
  cases l
 have c:zK zo x id nl parent=(x,6):=by
  unfold zK
  rw[a]
 rw[c]
 have m:x.boxes.length≤1099511627775:=by have:=hf.nb;have:=hf.clock;have:=hf.cfg.mod;omega
 have d:=y9 g q.vb [] x.boxes id w h.zQ (h.boxes.reads [] (by simp)) (by omega)
 have H:=zdG h
 have n:=zdG hf
 have f:=xR id x.boxes
 rw[hno] at f
 have i:yx id x.boxes < 0:=by simpa using f
 generalize yx id x.boxes=r at d i
 clear c f h hf hno a
 go_enter Tryz.func46,Tryz.ntmps46
 go_wp2_with (first
  |(go_at_call 110;refine d.mono ?_;rintro e s ⟨rfl,j⟩;have k:=zdG j;clear j d)
  |fail)
 go_ret
 exact⟨rfl,q,Turned.of_below H.out k.out⟩
theorem zbl (w:World)(g:Nat)(q:zl)(x:Acc)(id:Int)(nl:Text)(parent:Int)(h:zh w g q x)(hf:Fit x)(hnl:nl.length≤1099511627776)(i:Nat)(hi:i < x.boxes.length)(hpl:yx id x.boxes=(i:Int))(hfi:x.boxes.find? (fun b=>decide (b.id=id))=some x.boxes[i])(hr:zo nl=false) :
  Calls Tryz.prog 46 #[.pointer (some ⟨g,0,none⟩),.int .i64 id,.string ⟨nl.toArray⟩,.int .i64 parent] w (yu w g q (zK zo x id nl parent)):=by
 have a:zK zo x id nl parent=(x,1):=by
  unfold zK
  rw[hfi]
  simp only
  rw[if_pos (.inl hr)]
 rw[a]
 have m:x.boxes.length≤1099511627775:=by have:=hf.nb;have:=hf.clock;have:=hf.cfg.mod;omega
 have c:=y9 g q.vb [] x.boxes id w h.zQ (h.boxes.reads [] (by simp)) (by omega)
 have H:=zdG h
 have n:=zdG hf
 rw[hpl] at c
 have o:¬(i:Int) < 0:=by omega
 have d:=fun W=>yJ ⟨nl.toArray⟩ (by show nl.toArray.size≤_;simp;omega) W
 rw[show zo (⟨nl.toArray⟩:ByteArray).data.toList=false from hr] at d
 clear a h hf hr hpl hfi
 go_enter Tryz.func46,Tryz.ntmps46
 go_wp2_with (first
  |(go_at_call 110;refine c.mono ?_;rintro e p ⟨rfl,f⟩;have k:=zdG f;clear f c)
  |(go_at_call 103;refine(d p).mono ?_;rintro e r ⟨rfl,j⟩;have l:=zdG (za k.out j);clear j d)
  |fail)
 go_ret
 exact⟨rfl,q,Turned.of_below H.out l.out⟩
theorem zbS (w:World)(g:Nat)(q:zl)(x:Acc)(id:Int)(nl:Text)(parent:Int)(h:zh w g q x)(hf:Fit x)(hnl:nl.length≤1099511627776)(i:Nat)(hi:i < x.boxes.length)(hpl:yx id x.boxes=(i:Int))(hfi:x.boxes.find? (fun b=>decide (b.id=id))=some x.boxes[i])(hr:zo nl=true)(h1:id=1) :
  Calls Tryz.prog 46 #[.pointer (some ⟨g,0,none⟩),.int .i64 id,.string ⟨nl.toArray⟩,.int .i64 parent] w (yu w g q (zK zo x id nl parent)):=by
 have a:zK zo x id nl parent=(x,1):=by
  unfold zK
  rw[hfi]
  simp only
  rw[if_pos (.inr h1)]
 rw[a]
 have m:x.boxes.length≤1099511627775:=by have:=hf.nb;have:=hf.clock;have:=hf.cfg.mod;omega
 have c:=y9 g q.vb [] x.boxes id w h.zQ (h.boxes.reads [] (by simp)) (by omega)
 have H:=zdG h
 have n:=zdG hf
 rw[hpl] at c
 have o:¬(i:Int) < 0:=by omega
 have d:=fun W=>yJ ⟨nl.toArray⟩ (by show nl.toArray.size≤_;simp;omega) W
 rw[show zo (⟨nl.toArray⟩:ByteArray).data.toList=true from hr] at d
 have r:(id==1)=true:=by simpa using h1
 clear a h hf hr hpl hfi h1
 go_enter Tryz.func46,Tryz.ntmps46
 go_wp2_with (first
  |(go_at_call 110;refine c.mono ?_;rintro e p ⟨rfl,f⟩;have k:=zdG f;clear f c)
  |(go_at_call 103;refine(d p).mono ?_;rintro e s ⟨rfl,j⟩;have l:=zdG (za k.out j);clear j d)
  |fail)
 go_ret
 exact⟨rfl,q,Turned.of_below H.out l.out⟩
theorem JX (w:World)(g:Nat)(q:zl)(x:Acc)(id:Int)(nl:Text)(parent:Int)(h:zh w g q x)(hf:Fit x)(hnl:nl.length≤1099511627776)(i:Nat)(hi:i < x.boxes.length)(hpl:yx id x.boxes=(i:Int))(hfi:x.boxes.find? (fun b=>decide (b.id=id))=some x.boxes[i])(hr:zo nl=true)(h1:¬id=1)(hnm:yG x nl parent id≠0) :
  Calls Tryz.prog 46 #[.pointer (some ⟨g,0,none⟩),.int .i64 id,.string ⟨nl.toArray⟩,.int .i64 parent] w (yu w g q (zK zo x id nl parent)):=by
 have a:zK zo x id nl parent=(x,yG x nl parent id):=by
  unfold zK
  rw[hfi]
  simp only
  rw[if_neg (by rw[hr];simp[h1])]
  rw[if_pos hnm]
 rw[a]
 have s:x.boxes.length≤1099511627775:=by have:=hf.nb;have:=hf.clock;have:=hf.cfg.mod;omega
 have c:=y9 g q.vb [] x.boxes id w h.zQ (h.boxes.reads [] (by simp)) (by omega)
 have H:=zdG h
 have t:=zdG hf
 rw[hpl] at c
 have u:¬(i:Int) < 0:=by omega
 have d:=fun W=>yJ ⟨nl.toArray⟩ (by show nl.toArray.size≤_;simp;omega) W
 rw[show zo (⟨nl.toArray⟩:ByteArray).data.toList=true from hr] at d
 have f:=fun W (hb:Below w.heap.size w W)=>vv W g q x (h.later hb) (by omega) nl (by omega) parent id
 have A:(id==1)=false:=by simpa using h1
 generalize yG x nl parent id=r at hnm f ⊢
 have v:(r !=0)=true:=by simpa using hnm
 have n:=zdG f
 clear a h hf hr hpl hfi h1 f hnm
 go_enter Tryz.func46,Tryz.ntmps46
 go_wp2_with (first
  |(go_at_call 110;refine c.mono ?_;rintro e y ⟨rfl,k⟩;have o:=zdG k;clear k c)
  |(go_at_call 103;refine(d y).mono ?_;rintro e z ⟨rfl,l⟩;have j:=zdG (za o.out l);clear l d)
  |(go_at_call 104;refine(n.out z j.out).mono ?_;rintro e B ⟨rfl,m⟩;have p:=zdG (za j.out m);clear m)
  |fail)
 go_ret
 exact⟨rfl,q,Turned.of_below H.out p.out⟩
theorem Qo (w:World)(g:Nat)(q:zl)(x:Acc)(id:Int)(nl:Text)(parent:Int)(h:zh w g q x)(hf:Fit x)(hnl:nl.length≤1099511627776)(i:Nat)(hi:i < x.boxes.length)(hpl:yx id x.boxes=(i:Int))(hfi:x.boxes.find? (fun b=>decide (b.id=id))=some x.boxes[i])(hr:zo nl=true)(h1:¬id=1)(hnm:yG x nl parent id=0)(hun:xU x.boxes id (x.boxes.length+1) parent=true) :
  Calls Tryz.prog 46 #[.pointer (some ⟨g,0,none⟩),.int .i64 id,.string ⟨nl.toArray⟩,.int .i64 parent] w (yu w g q (zK zo x id nl parent)):=by
 have c:zK zo x id nl parent=(x,10):=by
  unfold zK
  rw[hfi]
  simp only
  rw[if_neg (by rw[hr];simp[h1])]
  rw[if_neg (by rw[hnm];decide)]
  rw[if_pos hun]
 rw[c]
 have t:x.boxes.length≤1099511627775:=by have:=hf.nb;have:=hf.clock;have:=hf.cfg.mod;omega
 have d:=y9 g q.vb [] x.boxes id w h.zQ (h.boxes.reads [] (by simp)) (by omega)
 have H:=zdG h
 have B:=zdG hf
 rw[hpl] at d
 have C:¬(i:Int) < 0:=by omega
 have f:=fun W=>yJ ⟨nl.toArray⟩ (by show nl.toArray.size≤_;simp;omega) W
 rw[show zo (⟨nl.toArray⟩:ByteArray).data.toList=true from hr] at f
 have j:=fun W (hb:Below w.heap.size w W)=>vv W g q x (h.later hb) (by omega) nl (by omega) parent id
 rw[hnm] at j
 have a:=fun W (hb:Below w.heap.size w W)=>Zr q.vb [] x.boxes parent id W ((h.later hb).boxes.reads [] (by simp)) t
 rw[hun] at a
 have G:(id==1)=false:=by simpa using h1
 obtain⟨I,J,l,_,_⟩:=h.boxes.form
 have u:=zdG l
 rw[l] at a
 have v:=zdG j
 have m:=zdG a
 clear c h hr hpl hfi h1 j hnm hun a l hf
 go_enter Tryz.func46,Tryz.ntmps46
 go_wp2_with (first
  |(go_at_call 110;refine d.mono ?_;rintro e D ⟨rfl,o⟩;have y:=zdG o;clear o d)
  |(go_at_call 103;refine(f D).mono ?_;rintro e E ⟨rfl,p⟩;have n:=zdG (za y.out p);clear p f)
  |(go_at_call 104;refine(v.out E n.out).mono ?_;rintro e F ⟨rfl,r⟩;have k:=zdG (za n.out r);clear r;have z:=(H.out.later k.out).zQ;rw[u.out] at z)
  |(go_at_call 111;refine(m.out F k.out).mono ?_;rintro e K ⟨rfl,s⟩;have A:=zdG (za k.out s);clear s m)
  |fail)
 go_ret
 exact⟨rfl,q,Turned.of_below H.out A.out⟩
theorem zaE (w:World)(g:Nat)(q:zl)(x:Acc)(id:Int)(nl:Text)(parent:Int)(h:zh w g q x)(hf:Fit x)(hnl:nl.length≤1099511627776)(i:Nat)(hi:i < x.boxes.length)(hpl:yx id x.boxes=(i:Int))(hfi:x.boxes.find? (fun b=>decide (b.id=id))=some x.boxes[i])(hr:zo nl=true)(h1:¬id=1)(hnm:yG x nl parent id=0)(hun:xU x.boxes id (x.boxes.length+1) parent=false)(hn1:x.boxes[i].name=nl)(hp1:x.boxes[i].parent=parent) :
  Calls Tryz.prog 46 #[.pointer (some ⟨g,0,none⟩),.int .i64 id,.string ⟨nl.toArray⟩,.int .i64 parent] w (yu w g q (zK zo x id nl parent)):=by
 have d:zK zo x id nl parent=(x,0):=by
  unfold zK
  rw[hfi]
  simp only
  rw[if_neg (by rw[hr];simp[h1])]
  rw[if_neg (by rw[hnm];decide)]
  rw[if_neg (by rw[hun];decide)]
  rw[if_pos ⟨hn1,hp1⟩]
 rw[d]
 have E:x.boxes.length≤1099511627775:=by have:=hf.nb;have:=hf.clock;have:=hf.cfg.mod;omega
 have j:=y9 g q.vb [] x.boxes id w h.zQ (h.boxes.reads [] (by simp)) (by omega)
 have H:=zdG h
 have P:=zdG hf
 rw[hpl] at j
 have Q:¬(i:Int) < 0:=by omega
 have k:=fun W=>yJ ⟨nl.toArray⟩ (by show nl.toArray.size≤_;simp;omega) W
 rw[show zo (⟨nl.toArray⟩:ByteArray).data.toList=true from hr] at k
 have l:=fun W (hb:Below w.heap.size w W)=>vv W g q x (h.later hb) (by omega) nl (by omega) parent id
 obtain⟨b,o,I,J,_,a0,a1,_,_⟩:=h.Zp i hi
 obtain⟨n,p⟩:∃n,x.boxes.length=n:=⟨_,rfl⟩
 have a:=J
 rw[p] at a
 have R:(i:Int) < (n:Int):=by omega
 have S:(0:Int)≤(i:Int):=by omega
 have T:n≤1099511627775:=by omega
 obtain⟨y,z⟩:∃y,x.boxes[i]=y:=⟨_,rfl⟩
 have r:∀W,Below w.heap.size w W→W.cell? ⟨g,10,none⟩=some (.slice (some ⟨b,o,none⟩) n I)∧W.cell? ⟨b,o+i * 6+1,none⟩=some (.string ⟨y.name.toArray⟩)∧W.cell? ⟨b,o+i * 6+2,none⟩=some (.int .i64 y.parent):=fun W hb=>by
  have L:=h.later hb
  obtain⟨b',M,N,K,_,_,_,_,f⟩:=L.Zp i hi
  have U:=J.symm.trans K
  injection U with e1 e2 e3
  injection e1 with e1
  injection e1 with e1 e4
  subst e1 e4 e3
  refine⟨by rw[L.zQ,a],((f 1 (by omega)).1).trans (by rw[z];rfl),((f 2 (by omega)).1).trans (by rw[z];rfl)⟩
 have s:=zdG r
 rw[z] at hn1 hp1
 have V:(y.name==nl)=true:=by simpa using hn1
 have X:(y.parent==parent)=true:=by simpa using hp1
 clear hn1 hp1
 rw[hnm] at l
 have c:=fun W (hb:Below w.heap.size w W)=>Zr q.vb [] x.boxes parent id W ((h.later hb).boxes.reads [] (by simp)) E
 rw[hun,a] at c
 have hq:(id==1)=false:=by simpa using h1
 have F:=zdG l
 have t:=zdG c
 have Y:=zdG a
 have Z:=zdG p
 have HY:=zdG z
 clear hr hpl hfi h1 l hnm hun c J a r p z d h hf
 go_enter Tryz.func46,Tryz.ntmps46
 go_wp2_with (first
  |(go_at_call 110;refine j.mono ?_;rintro e w1 ⟨rfl,A⟩;have G:=zdG A;clear A j)
  |(go_at_call 103;refine(k w1).mono ?_;rintro e w2 ⟨rfl,B⟩;have u:=zdG (za G.out B);clear B k)
  |(go_at_call 104;refine(F.out w2 u.out).mono ?_;rintro e O ⟨rfl,C⟩;have m:=zdG (za u.out C);clear C;obtain⟨a2,_,_⟩:=s.out O m.out)
  |(go_at_call 111;refine(t.out O m.out).mono ?_;rintro e w4 ⟨rfl,D⟩;have v:=zdG (za m.out D);clear D t;obtain⟨a3,m1,m2⟩:=s.out w4 v.out)
  |fail)
 go_ret
 exact⟨rfl,q,Turned.of_below H.out v.out⟩
theorem Qi (w:World)(g:Nat)(q:zl)(x:Acc)(id:Int)(nl:Text)(parent:Int)(h:zh w g q x)(hf:Fit x)(hnl:nl.length≤1099511627776)(i:Nat)(hi:i < x.boxes.length)(hpl:yx id x.boxes=(i:Int))(hfi:x.boxes.find? (fun b=>decide (b.id=id))=some x.boxes[i])(hr:zo nl=true)(h1:¬id=1)(hnm:yG x nl parent id=0)(hun:xU x.boxes id (x.boxes.length+1) parent=false)(hn1:x.boxes[i].name=nl)(hp1:¬x.boxes[i].parent=parent)(hen:x.cfg.maxMod≤x.clock) :
  Calls Tryz.prog 46 #[.pointer (some ⟨g,0,none⟩),.int .i64 id,.string ⟨nl.toArray⟩,.int .i64 parent] w (yu w g q (zK zo x id nl parent)):=by
 have f:zK zo x id nl parent=(x,11):=by
  unfold zK
  rw[hfi]
  simp only
  rw[if_neg (by rw[hr];simp[h1])]
  rw[if_neg (by rw[hnm];decide)]
  rw[if_neg (by rw[hun];decide)]
  rw[if_neg (fun hh=>hp1 hh.2)]
  rw[if_pos (by simp[Acc.ends,hen])]
 rw[f]
 have F:x.boxes.length≤1099511627775:=by have:=hf.nb;have:=hf.clock;have:=hf.cfg.mod;omega
 have k:=y9 g q.vb [] x.boxes id w h.zQ (h.boxes.reads [] (by simp)) (by omega)
 have H:=zdG h
 have Q:=zdG hf
 rw[hpl] at k
 have R:¬(i:Int) < 0:=by omega
 have l:=fun W=>yJ ⟨nl.toArray⟩ (by show nl.toArray.size≤_;simp;omega) W
 rw[show zo (⟨nl.toArray⟩:ByteArray).data.toList=true from hr] at l
 have m:=fun W (hb:Below w.heap.size w W)=>vv W g q x (h.later hb) (by omega) nl (by omega) parent id
 obtain⟨b,p,J,K,_,a1,a2,_,_⟩:=h.Zp i hi
 obtain⟨n,r⟩:∃n,x.boxes.length=n:=⟨_,rfl⟩
 have a:=K
 rw[r] at a
 have S:(i:Int) < (n:Int):=by omega
 have T:(0:Int)≤(i:Int):=by omega
 have U:n≤1099511627775:=by omega
 obtain⟨y,z⟩:∃y,x.boxes[i]=y:=⟨_,rfl⟩
 have s:∀W,Below w.heap.size w W→W.cell? ⟨g,10,none⟩=some (.slice (some ⟨b,p,none⟩) n J)∧W.cell? ⟨b,p+i * 6+1,none⟩=some (.string ⟨y.name.toArray⟩)∧W.cell? ⟨b,p+i * 6+2,none⟩=some (.int .i64 y.parent):=fun W hb=>by
  have M:=h.later hb
  obtain⟨b',N,O,L,_,_,_,_,j⟩:=M.Zp i hi
  have V:=K.symm.trans L
  injection V with e1 e2 e3
  injection e1 with e1
  injection e1 with e1 e4
  subst e1 e4 e3
  refine⟨by rw[M.zQ,a],((j 1 (by omega)).1).trans (by rw[z];rfl),((j 2 (by omega)).1).trans (by rw[z];rfl)⟩
 have t:=zdG s
 rw[z] at hn1 hp1
 have X:(y.name==nl)=true:=by simpa using hn1
 have Y:(y.parent==parent)=false:=by simpa using hp1
 clear hn1 hp1
 rw[hnm] at m
 have c:=fun W (hb:Below w.heap.size w W)=>Zr q.vb [] x.boxes parent id W ((h.later hb).boxes.reads [] (by simp)) F
 rw[hun,a] at c
 have hq:(id==1)=false:=by simpa using h1
 have G:=zdG m
 have u:=zdG c
 have Z:=zdG a
 have a0:=zdG r
 have HY:=zdG z
 clear hr hpl hfi h1 m hnm hun c K a s r z f h hf
 go_enter Tryz.func46,Tryz.ntmps46
 go_wp2_with (first
  |(go_at_call 110;refine k.mono ?_;rintro e w1 ⟨rfl,A⟩;have I:=zdG A;clear A k)
  |(go_at_call 103;refine(l w1).mono ?_;rintro e w2 ⟨rfl,B⟩;have v:=zdG (za I.out B);clear B l)
  |(go_at_call 104;refine(G.out w2 v.out).mono ?_;rintro e P ⟨rfl,C⟩;have o:=zdG (za v.out C);clear C;obtain⟨a3,_,_⟩:=t.out P o.out)
  |(go_at_call 111;refine(u.out P o.out).mono ?_;rintro e E ⟨rfl,D⟩;have d:=zdG (za o.out D);clear D u;obtain⟨a4,m1,m2⟩:=t.out E d.out;have c6:E.cell? ⟨g,6,none⟩=some (.int .i64 x.cfg.maxMod):=(H.out.later d.out).cells 6;have c9:=(H.out.later d.out).yo)
  |(go_at_call 92;refine(yQ g x.clock x.cfg.maxMod _ ((zB (w:=E) (by rfl) _).trans c9) ((zB (w:=E) (by rfl) _).trans c6)).mono ?_;rintro e w5 ⟨rfl,ne,rfl⟩)
  |fail)
 go_ret
 exact⟨rfl,q,(Turned.of_below H.out d.out).zL (below_drewN' (Below.refl _ _) _)⟩
theorem Qt (w:World)(g:Nat)(q:zl)(x:Acc)(id:Int)(nl:Text)(parent:Int)(h:zh w g q x)(hf:Fit x)(hnl:nl.length≤1099511627776)(i:Nat)(hi:i < x.boxes.length)(hpl:yx id x.boxes=(i:Int))(hfi:x.boxes.find? (fun b=>decide (b.id=id))=some x.boxes[i])(hr:zo nl=true)(h1:¬id=1)(hnm:yG x nl parent id=0)(hun:xU x.boxes id (x.boxes.length+1) parent=false)(hn1:¬x.boxes[i].name=nl)(hen:x.cfg.maxMod≤x.clock) :
  Calls Tryz.prog 46 #[.pointer (some ⟨g,0,none⟩),.int .i64 id,.string ⟨nl.toArray⟩,.int .i64 parent] w (yu w g q (zK zo x id nl parent)):=by
 have f:zK zo x id nl parent=(x,11):=by
  unfold zK
  rw[hfi]
  simp only
  rw[if_neg (by rw[hr];simp[h1])]
  rw[if_neg (by rw[hnm];decide)]
  rw[if_neg (by rw[hun];decide)]
  rw[if_neg (fun hh=>hn1 hh.1)]
  rw[if_pos (by simp[Acc.ends,hen])]
 rw[f]
 have F:x.boxes.length≤1099511627775:=by have:=hf.nb;have:=hf.clock;have:=hf.cfg.mod;omega
 have k:=y9 g q.vb [] x.boxes id w h.zQ (h.boxes.reads [] (by simp)) (by omega)
 have H:=zdG h
 have Q:=zdG hf
 rw[hpl] at k
 have R:¬(i:Int) < 0:=by omega
 have l:=fun W=>yJ ⟨nl.toArray⟩ (by show nl.toArray.size≤_;simp;omega) W
 rw[show zo (⟨nl.toArray⟩:ByteArray).data.toList=true from hr] at l
 have m:=fun W (hb:Below w.heap.size w W)=>vv W g q x (h.later hb) (by omega) nl (by omega) parent id
 obtain⟨b,p,J,K,_,a0,a1,_,_⟩:=h.Zp i hi
 obtain⟨n,r⟩:∃n,x.boxes.length=n:=⟨_,rfl⟩
 have a:=K
 rw[r] at a
 have S:(i:Int) < (n:Int):=by omega
 have T:(0:Int)≤(i:Int):=by omega
 have U:n≤1099511627775:=by omega
 obtain⟨y,z⟩:∃y,x.boxes[i]=y:=⟨_,rfl⟩
 have s:∀W,Below w.heap.size w W→W.cell? ⟨g,10,none⟩=some (.slice (some ⟨b,p,none⟩) n J)∧W.cell? ⟨b,p+i * 6+1,none⟩=some (.string ⟨y.name.toArray⟩)∧W.cell? ⟨b,p+i * 6+2,none⟩=some (.int .i64 y.parent):=fun W hb=>by
  have M:=h.later hb
  obtain⟨b',N,O,L,_,_,_,_,j⟩:=M.Zp i hi
  have V:=K.symm.trans L
  injection V with e1 e2 e3
  injection e1 with e1
  injection e1 with e1 e4
  subst e1 e4 e3
  refine⟨by rw[M.zQ,a],((j 1 (by omega)).1).trans (by rw[z];rfl),((j 2 (by omega)).1).trans (by rw[z];rfl)⟩
 have t:=zdG s
 rw[z] at hn1
 have X:(y.name==nl)=false:=by simpa using hn1
 clear hn1
 rw[hnm] at m
 have c:=fun W (hb:Below w.heap.size w W)=>Zr q.vb [] x.boxes parent id W ((h.later hb).boxes.reads [] (by simp)) F
 rw[hun,a] at c
 have hq:(id==1)=false:=by simpa using h1
 have G:=zdG m
 have u:=zdG c
 have Y:=zdG a
 have Z:=zdG r
 have HY:=zdG z
 clear hr hpl hfi h1 m hnm hun c K a s r z f h hf
 go_enter Tryz.func46,Tryz.ntmps46
 go_wp2_with (first
  |(go_at_call 110;refine k.mono ?_;rintro e w1 ⟨rfl,A⟩;have I:=zdG A;clear A k)
  |(go_at_call 103;refine(l w1).mono ?_;rintro e w2 ⟨rfl,B⟩;have v:=zdG (za I.out B);clear B l)
  |(go_at_call 104;refine(G.out w2 v.out).mono ?_;rintro e P ⟨rfl,C⟩;have o:=zdG (za v.out C);clear C;obtain⟨a2,_,_⟩:=t.out P o.out)
  |(go_at_call 111;refine(u.out P o.out).mono ?_;rintro e E ⟨rfl,D⟩;have d:=zdG (za o.out D);clear D u;obtain⟨a3,m1,m2⟩:=t.out E d.out;have c6:E.cell? ⟨g,6,none⟩=some (.int .i64 x.cfg.maxMod):=(H.out.later d.out).cells 6;have c9:=(H.out.later d.out).yo)
  |(go_at_call 92;refine(yQ g x.clock x.cfg.maxMod _ ((zB (w:=E) (by rfl) _).trans c9) ((zB (w:=E) (by rfl) _).trans c6)).mono ?_;rintro e w5 ⟨rfl,ne,rfl⟩)
  |fail)
 go_ret
 exact⟨rfl,q,(Turned.of_below H.out d.out).zL (below_drewN' (Below.refl _ _) _)⟩
theorem zca (w:World)(g:Nat)(q:zl)(x:Acc)(id:Int)(nl:Text)(parent:Int)(h:zh w g q x)(hf:Fit x)(hnl:nl.length≤1099511627776)(i:Nat)(hi:i < x.boxes.length)(hpl:yx id x.boxes=(i:Int))(hfi:x.boxes.find? (fun b=>decide (b.id=id))=some x.boxes[i])(hr:zo nl=true)(h1:¬id=1)(hnm:yG x nl parent id=0)(hun:xU x.boxes id (x.boxes.length+1) parent=false)(hset:∀f,yE id f x.boxes=x.boxes.set i (f x.boxes[i]))(hyid:x.boxes[i].id=id)(hn1:x.boxes[i].name=nl)(hp1:¬x.boxes[i].parent=parent)(hen:¬x.cfg.maxMod≤x.clock) :
  Calls Tryz.prog 46 #[.pointer (some ⟨g,0,none⟩),.int .i64 id,.string ⟨nl.toArray⟩,.int .i64 parent] w (yu w g q (zK zo x id nl parent)):=by
 obtain⟨rr,Z⟩:∃rr,zK zo x id nl parent=rr:=⟨_,rfl⟩
 have z:rr=({x with clock:=x.clock+1,boxes:=zf (x.clock+1) [id] (x.boxes.set i {x.boxes[i] with name:=nl,parent:=parent}),log:=x.log.add (zn (x.clock+1) [id])},0):=by
  rw[←Z]
  unfold zK
  rw[hfi]
  simp only
  rw[if_neg (by rw[hr];simp[h1])]
  rw[if_neg (by rw[hnm];decide)]
  rw[if_neg (by rw[hun];decide)]
  rw[if_neg (fun hh=>hp1 hh.2)]
  rw[if_neg (by simp[Acc.ends];omega),hset]
 rw[Z]
 clear hset Z
 have aw:x.boxes.length≤1099511627775:=by have:=hf.nb;have:=hf.clock;have:=hf.cfg.mod;omega
 have T:=y9 g q.vb [] x.boxes id w h.zQ (h.boxes.reads [] (by simp)) (by omega)
 have H:=zdG h
 have a2:=zdG hf
 rw[hpl] at T
 have bi:¬(i:Int) < 0:=by omega
 have U:=fun W=>yJ ⟨nl.toArray⟩ (by show nl.toArray.size≤_;simp;omega) W
 rw[show zo (⟨nl.toArray⟩:ByteArray).data.toList=true from hr] at U
 have V:=fun W (a:Below w.heap.size w W)=>vv W g q x (h.later a) (by omega) nl (by omega) parent id
 obtain⟨b,d,L,hv,_,bt,bu,_,_⟩:=h.Zp i hi
 obtain⟨n,a0⟩:∃n,x.boxes.length=n:=⟨_,rfl⟩
 have A:=hv
 rw[a0] at A
 have bj:(i:Int) < (n:Int):=by omega
 have bk:(0:Int)≤(i:Int):=by omega
 have bl:n≤1099511627775:=by omega
 obtain⟨y,O⟩:∃y,x.boxes[i]=y:=⟨_,rfl⟩
 have a3:∀W,Below w.heap.size w W→W.cell? ⟨g,10,none⟩=some (.slice (some ⟨b,d,none⟩) n L)∧W.cell? ⟨b,d+i * 6+1,none⟩=some (.string ⟨y.name.toArray⟩)∧W.cell? ⟨b,d+i * 6+2,none⟩=some (.int .i64 y.parent):=fun W a=>by
  have h5:=h.later a
  obtain⟨b',an,ao,M,_,_,_,_,c⟩:=h5.Zp i hi
  have h6:=hv.symm.trans M
  injection h6 with e1 e2 e3
  injection e1 with e1
  injection e1 with e1 e4
  subst e1 e4 e3
  refine⟨by rw[h5.zQ,A],((c 1 (by omega)).1).trans (by rw[O];rfl),((c 2 (by omega)).1).trans (by rw[O];rfl)⟩
 have X:=zdG a3
 rw[O] at hn1 hp1
 have bm:(y.name==nl)=true:=by simpa using hn1
 have bn:(y.parent==parent)=false:=by simpa using hp1
 clear hn1 hp1
 rw[O] at hyid z
 have a4:id∈ids (x.boxes.set i {y with name:=nl,parent:=parent}):=by
  rw[zck hi (by rw[O])]
  exact List.mem_map.2 ⟨x.boxes[i],List.getElem_mem hi,by rw[O];exact hyid⟩
 have ax:=zdG a4
 have a5:=zdG z
 have bo:=hf.clock
 have bp:=hf.cfg.mod
 rw[hnm] at V
 have C:=fun W (a:Below w.heap.size w W)=>Zr q.vb [] x.boxes parent id W ((h.later a).boxes.reads [] (by simp)) aw
 rw[hun,A] at C
 have hq:(id==1)=false:=by simpa using h1
 have ay:=zdG V
 have a6:=zdG C
 have az:=zdG A
 have a':=zdG a0
 have HY:=zdG O
 clear hr hpl hfi h1 V hnm hun C hv A a3 a0 O z h hf hyid a4
 go_enter Tryz.func46,Tryz.ntmps46
 go_upto_region 18 with(first
  |(go_at_call 110;refine T.mono ?_;rintro e w1 ⟨rfl,ap⟩;have b0:=zdG ap;clear ap T)
  |(go_at_call 103;refine(U w1).mono ?_;rintro e w2 ⟨rfl,m⟩;have a7:=zdG (za b0.out m);clear m U)
  |(go_at_call 104;refine(ay.out w2 a7.out).mono ?_;rintro e w3 ⟨rfl,aq⟩;have Y:=zdG (za a7.out aq);clear aq;obtain⟨b8,_,_⟩:=X.out w3 Y.out)
  |(go_at_call 111;refine(a6.out w3 Y.out).mono ?_;rintro e w4 ⟨rfl,ar⟩;have J:=zdG (za Y.out ar);clear ar a6;obtain⟨b9,m1,m2⟩:=X.out w4 J.out;have c6:w4.cell? ⟨g,6,none⟩=some (.int .i64 x.cfg.maxMod):=(H.out.later J.out).cells 6;have c9:=(H.out.later J.out).yo)
  |(go_at_call 92;refine(yQ g x.clock x.cfg.maxMod _ ((zB (w:=w4) (by rfl) _).trans c9) ((zB (w:=w4) (by rfl) _).trans c6)).mono ?_;rintro e w5 ⟨rfl,ne,rfl⟩;have a8:=(za J.out (below_drewN' (Below.refl w4.heap.size w4) ne));have b1:=zdG a8;clear a8)
  |fail)
 obtain⟨t,a1⟩:∃t:World,t=w4.drewN ne:=⟨_,rfl⟩
 rw[←a1]
 have K:Below w.heap.size w t:=by rw[a1];exact b1.out
 have b2:=zdG K
 clear a1 b8 b9 m1 m2 c6 c9
 obtain⟨ba,_,_⟩:=X.out t K
 have b3:=zdG (H.out.later K)
 have u:q.vb=.slice (some ⟨b,d,none⟩) x.boxes.length L:=by rw[a'.out];exact az.out
 obtain⟨b',an,ao,M,_,_,_,bb,c⟩:=b3.out.Zp i hi
 have h6:=u.symm.trans M
 injection h6 with e1 e2 e3
 injection e1 with e1
 injection e1 with e1 e4
 subst e1 e4 e3
 have f1:=(c 1 (by omega)).2
 have f2:=(c 2 (by omega)).2
 have c1:t.cell? ⟨b,d+i * 6+1,none⟩=some (.string ⟨y.name.toArray⟩):=((c 1 (by omega)).1).trans (by rw[HY.out];rfl)
 have c2:t.cell? ⟨b,d+i * 6+2,none⟩=some (.int .i64 y.parent):=((c 2 (by omega)).1).trans (by rw[HY.out];rfl)
 have D:∀W:World,W.heap=t.heap→W.os=t.os→W.tape=t.tape→W.output=t.output→Turned w ((W.setCell ⟨b,d+i * 6+1,none⟩ (.string ⟨nl.toArray⟩)).setCell ⟨b,d+i * 6+2,none⟩ (.int .i64 parent)) g q {x with boxes:=x.boxes.set i {y with name:=nl,parent:=parent}} q∧Turned w ((W.setCell ⟨b,d+i * 6+2,none⟩ (.int .i64 parent)).setCell ⟨b,d+i * 6+1,none⟩ (.string ⟨nl.toArray⟩)) g q {x with boxes:=x.boxes.set i {y with name:=nl,parent:=parent}} q:=fun W e0 e1 e2 e3=>by
  have a:Below t.heap.size t W:=⟨e1,e2,e3,Nat.le_of_eq (by rw[e0]),fun _ _=>by rw[e0]⟩
  have m:=za b2.out a
  have hT:=Turned.of_below H.out m
  have hs:=H.out.later m
  constructor
  ·have t1:=hs.yw u i hi 1 (by omega) (.string ⟨nl.toArray⟩) {y with name:=nl} (by rw[HY.out];rfl)
   have t2:=t1.at_.yw (by show q.vb=.slice (some ⟨b,d,none⟩) x.boxes.length L;exact u) i (by simpa using hi) 2 (by omega) (.int .i64 parent) {y with name:=nl,parent:=parent} (by simp[xQ,strV])
   have t3:=(hT.trans t1).trans t2
   rw[show (x.boxes.set i {y with name:=nl}).set i {y with name:=nl,parent:=parent}=x.boxes.set i {y with name:=nl,parent:=parent} from by rw[List.set_set]] at t3
   exact t3
  ·have t1:=hs.yw u i hi 2 (by omega) (.int .i64 parent) {y with parent:=parent} (by rw[HY.out];rfl)
   have t2:=t1.at_.yw (by show q.vb=.slice (some ⟨b,d,none⟩) x.boxes.length L;exact u) i (by simpa using hi) 1 (by omega) (.string ⟨nl.toArray⟩) {y with name:=nl,parent:=parent} (by simp[xQ,strV])
   have t3:=(hT.trans t1).trans t2
   rw[show (x.boxes.set i {y with parent:=parent}).set i {y with name:=nl,parent:=parent}=x.boxes.set i {y with name:=nl,parent:=parent} from by rw[List.set_set]] at t3
   exact t3
 have N:=zdG D
 clear c M u D K
 go_cut [] (fun wx=>Hid (Turned w wx g q {x with boxes:=x.boxes.set i {y with name:=nl,parent:=parent}} q))
 case first=>
  go_region_law (first
   |fail)
  all_goals
   go_wp2_with fail
   go_meet
   first
    |exact zdG (N.out t.drew rfl rfl rfl rfl).1
    |exact zdG (N.out t.drew rfl rfl rfl rfl).2
 case rest=>
  have HT:=hcut
  clear hcut
  obtain⟨l,rfl⟩:∃l:World,l=wc:=⟨_,rfl⟩
  clear ba c1 c2 f1 f2 bb
  have a9:l.cell? ⟨g,12,none⟩=some (.pointer (some ⟨q.gl,0,none⟩)):=HT.out.at_.zV
  have b4:g < l.heap.size:=HT.out.at_.blk.lt
  have aa:=(World.cell?_alloc_lt l (.cells #[.int .i64 id] 3) ⟨g,12,none⟩ b4).trans a9
  have ab:∀W:World,W.heap=l.heap→W.os=l.os→W.tape=l.tape→W.output=l.output→Calls Tryz.prog 95 #[.pointer (some ⟨g,0,none⟩)] W fun e v=>e=.returned (.int .i64 (x.clock+1))∧Turned w v g q {x with clock:=x.clock+1,boxes:=x.boxes.set i {y with name:=nl,parent:=parent}} q:=fun W e0 e1 e2 e3=>by
   have a:Below l.heap.size l W:=⟨e1,e2,e3,Nat.le_of_eq (by rw[e0]),fun _ _=>by rw[e0]⟩
   have h1:=HT.out.at_.later a
   refine(uo g x.clock W h1.yo (h1.frozen 9) (by omega)).mono ?_
   rintro e v ⟨rfl,rfl⟩
   exact⟨rfl,(HT.out.yL a).trans (h1.yj 9 (.int .i64 (x.clock+1)) {x with clock:=x.clock+1,boxes:=x.boxes.set i {y with name:=nl,parent:=parent}} rfl rfl rfl rfl)⟩
  have ac:∀W:World,W.heap=(l.alloc (.cells #[.int .i64 id] 3)).heap→W.os=l.os→W.tape=l.tape→W.output=l.output→Calls Tryz.prog 95 #[.pointer (some ⟨g,0,none⟩)] W fun e v=>e=.returned (.int .i64 (x.clock+1))∧Turned w v g q {x with clock:=x.clock+1,boxes:=x.boxes.set i {y with name:=nl,parent:=parent}} q∧Blk v l.heap.size 3 #[.int .i64 id]:=fun W e0 e1 e2 e3=>by
   have a:Below (l.alloc (.cells #[.int .i64 id] 3)).heap.size (l.alloc (.cells #[.int .i64 id] 3)) W:=⟨e1,e2,e3,Nat.le_of_eq (by rw[e0]),fun _ _=>by rw[e0]⟩
   have m:=za (below_alloc1 l _) a
   have h1:=HT.out.at_.later m
   refine(uo g x.clock W h1.yo (h1.frozen 9) (by omega)).mono ?_
   rintro e v ⟨rfl,rfl⟩
   refine⟨rfl,(HT.out.yL m).trans (h1.yj 9 (.int .i64 (x.clock+1)) {x with clock:=x.clock+1,boxes:=x.boxes.set i {y with name:=nl,parent:=parent}} rfl rfl rfl rfl),?_⟩
   exact((Blk.new l 3 #[.int .i64 id]).heap e0).far (p:=⟨g,9,none⟩) (by show l.heap.size≠g;omega) _
  have ad:∀(W:World) (B:Nat),zh W g q {x with clock:=x.clock+1,boxes:=x.boxes.set i {y with name:=nl,parent:=parent}}→Blk W B 3 #[.int .i64 id]→Calls Tryz.prog 99 #[.pointer (some ⟨g,0,none⟩),.int .i64 (x.clock+1),.slice (some ⟨B,0,none⟩) 1 1] W fun e v=>∃A8 c8 h8,e=.returned (.slice A8 1 c8)∧Turned W v g q {x with clock:=x.clock+1,boxes:=zf (x.clock+1) [id] (x.boxes.set i {y with name:=nl,parent:=parent})} q∧∀W2,Below v.heap.size v W2→Calls Tryz.prog 98 #[.pointer (some ⟨q.gl,0,none⟩),.slice A8 1 c8] W2 fun e' au=>e'=.returned (.tuple #[])∧∃s,Turned v au g q {x with clock:=x.clock+1,boxes:=zf (x.clock+1) [id] (x.boxes.set i {y with name:=nl,parent:=parent}),log:=x.log.add (zn (x.clock+1) [id])} s∧h8=h8:=fun W B hst hB=>by
   refine(uS W g q {x with clock:=x.clock+1,boxes:=x.boxes.set i {y with name:=nl,parent:=parent}} hst (by simp only[List.length_set];omega) (x.clock+1) [id] _ [] ((zcj hB).reads [] (by simp)) (by simp) (fun j hj=>by
    have h1:j=id:=by simpa using hj
    rw[h1]
    exact ax.out)).mono ?_
   rintro e v ⟨v',hh,rfl,bc,bd,ht⟩
   have E:Sl v 177 4 v' hh 1 (zM (zn (x.clock+1) [id])):=bc
   obtain⟨A8,c8,rfl,_,_⟩:=E.form
   refine⟨A8,c8,hh,rfl,ht,fun W2 a=>?_⟩
   have ae:Sl W2 177 4 (.slice A8 1 c8) hh 1 (zM (zn (x.clock+1) [id])):=E.keep (fun b m=>a.block b (E.lt b m))
   have bq:=a2.out.log
   have br:=a2.out.cfg.log
   refine(XU (ht.at_.later a) (by show 1≤x.log.most;omega) (by show x.log.most≤_;omega) (by show x.log.es.length≤_;omega) ae rfl (by omega) (fun k hk hm=>?_)).mono ?_
   ·have h7:=bd k hk
    have h8:=hst.lt k hm
    omega
   ·rintro e' au ⟨rfl,s,be⟩
    exact⟨rfl,s,(Turned.of_below ht.at_ a).trans be,rfl⟩
  have b5:=zdG ab
  have b6:=zdG ac
  have af:=zdG ad
  clear ab ac ad
  go_upto_region 19 with(fail)
  go_cut [] (fun wx=>∃s,Hid (Turned w wx g q {x with clock:=x.clock+1,boxes:=zf (x.clock+1) [id] (x.boxes.set i {y with name:=nl,parent:=parent}),log:=x.log.add (zn (x.clock+1) [id])} s))
  case first=>
   go_region_law (first
    |(refine zF (by rfl) (by rfl) (enters_of Tryz.func95 (by kernel_rfl) rfl) (by first|(simp[Act.eval];done)|simp[Act.eval,Act.put]) (b5.out _ rfl rfl rfl rfl) ?_;rintro e r ⟨rfl,o⟩;refine⟨_,rfl,?_⟩;have ag:r.cell? ⟨g,12,none⟩=some (.pointer (some ⟨q.gl,0,none⟩)):=o.at_.zV;have b7:g < r.heap.size:=o.at_.blk.lt;have bh:=(World.cell?_alloc_lt r (.cells #[.int .i64 id] 3) ⟨g,12,none⟩ b7).trans ag;have F:=fun W (a:Below (r.alloc (.cells #[.int .i64 id] 3)).heap.size (r.alloc (.cells #[.int .i64 id] 3)) W)=>af.out W r.heap.size (o.at_.later (za (below_alloc1 r _) a)) ((Blk.new r 3 #[.int .i64 id]).below a (Blk.new r 3 #[.int .i64 id]).lt);have G:=fun W (a:Below (r.alloc (.cells #[.int .i64 id] 3)).heap.size (r.alloc (.cells #[.int .i64 id] 3)) W)=>o.yL (za (below_alloc1 r _) a);have ah:=zdG F;have ai:=zdG G;clear F G o)
    |(refine zF (by rfl) (by rfl) (enters_of Tryz.func95 (by kernel_rfl) rfl) (by first|(simp[Act.eval];done)|simp[Act.eval,Act.put]) (b6.out _ rfl rfl rfl rfl) ?_;rintro e r ⟨rfl,o,av⟩;refine⟨_,rfl,?_⟩;have ag:r.cell? ⟨g,12,none⟩=some (.pointer (some ⟨q.gl,0,none⟩)):=o.at_.zV;have F:=fun W (a:Below r.heap.size r W)=>af.out W l.heap.size (o.at_.later a) (av.below a av.lt);have G:=fun W (a:Below r.heap.size r W)=>o.yL a;have ah:=zdG F;have ai:=zdG G;clear F G o)
    |(refine zF (by rfl) (by rfl) (enters_of Tryz.func99 (by kernel_rfl) rfl) (by first|(simp[Act.eval];done)|simp[Act.eval,Act.put]) (ah.out _ ⟨rfl,rfl,rfl,Nat.le_refl _,fun _ _=>rfl⟩) ?_;rintro e bf ⟨A8,c8,h8,rfl,P,Q⟩;refine⟨_,rfl,?_⟩;have I:=(ai.out _ ⟨rfl,rfl,rfl,Nat.le_refl _,fun _ _=>rfl⟩).trans P;have bs:bf.cell? ⟨g,12,none⟩=some (.pointer (some ⟨q.gl,0,none⟩)):=I.at_.zV;have aj:=zdG Q;have ak:=zdG I;clear P I Q)
    |(refine zF (by rfl) (by rfl) (enters_of Tryz.func98 (by kernel_rfl) rfl) (by first|(simp[Act.eval];done)|simp[Act.eval,Act.put]) (aj.out _ ⟨rfl,rfl,rfl,Nat.le_refl _,fun _ _=>rfl⟩) ?_;rintro e bv ⟨rfl,bg,R,_⟩;refine⟨_,rfl,?_⟩;have al:=zdG R;clear R)
    |fail)
   all_goals
    go_wp2_with fail
    go_meet
    exact⟨bg,zdG (ak.out.trans al.out)⟩
  case rest=>
   obtain⟨s,S⟩:=hcut
   obtain⟨wz,rfl⟩:∃wz:World,wz=wc:=⟨_,rfl⟩
   have am:Hid (yu w g q rr (.returned (.int .i64 0)) wz):=zdG (by
    rw[a5.out]
    exact⟨rfl,s,S.out⟩)
   clear S a9 aa
   go_wp2_with fail
   go_ret
   exact am.out
theorem zbe (w:World)(g:Nat)(q:zl)(x:Acc)(id:Int)(nl:Text)(parent:Int)(h:zh w g q x)(hf:Fit x)(hnl:nl.length≤1099511627776)(i:Nat)(hi:i < x.boxes.length)(hpl:yx id x.boxes=(i:Int))(hfi:x.boxes.find? (fun b=>decide (b.id=id))=some x.boxes[i])(hr:zo nl=true)(h1:¬id=1)(hnm:yG x nl parent id=0)(hun:xU x.boxes id (x.boxes.length+1) parent=false)(hset:∀f,yE id f x.boxes=x.boxes.set i (f x.boxes[i]))(hyid:x.boxes[i].id=id)(hn1:¬x.boxes[i].name=nl)(hen:¬x.cfg.maxMod≤x.clock) :
  Calls Tryz.prog 46 #[.pointer (some ⟨g,0,none⟩),.int .i64 id,.string ⟨nl.toArray⟩,.int .i64 parent] w (yu w g q (zK zo x id nl parent)):=by
 obtain⟨rr,Z⟩:∃rr,zK zo x id nl parent=rr:=⟨_,rfl⟩
 have z:rr=({x with clock:=x.clock+1,boxes:=zf (x.clock+1) [id] (x.boxes.set i {x.boxes[i] with name:=nl,parent:=parent}),log:=x.log.add (zn (x.clock+1) [id])},0):=by
  rw[←Z]
  unfold zK
  rw[hfi]
  simp only
  rw[if_neg (by rw[hr];simp[h1])]
  rw[if_neg (by rw[hnm];decide)]
  rw[if_neg (by rw[hun];decide)]
  rw[if_neg (fun hh=>hn1 hh.1)]
  rw[if_neg (by simp[Acc.ends];omega),hset]
 rw[Z]
 clear hset Z
 have aw:x.boxes.length≤1099511627775:=by have:=hf.nb;have:=hf.clock;have:=hf.cfg.mod;omega
 have T:=y9 g q.vb [] x.boxes id w h.zQ (h.boxes.reads [] (by simp)) (by omega)
 have H:=zdG h
 have a2:=zdG hf
 rw[hpl] at T
 have bi:¬(i:Int) < 0:=by omega
 have U:=fun W=>yJ ⟨nl.toArray⟩ (by show nl.toArray.size≤_;simp;omega) W
 rw[show zo (⟨nl.toArray⟩:ByteArray).data.toList=true from hr] at U
 have V:=fun W (a:Below w.heap.size w W)=>vv W g q x (h.later a) (by omega) nl (by omega) parent id
 obtain⟨b,d,L,hv,_,bs,bt,_,_⟩:=h.Zp i hi
 obtain⟨n,a0⟩:∃n,x.boxes.length=n:=⟨_,rfl⟩
 have A:=hv
 rw[a0] at A
 have bj:(i:Int) < (n:Int):=by omega
 have bk:(0:Int)≤(i:Int):=by omega
 have bl:n≤1099511627775:=by omega
 obtain⟨y,O⟩:∃y,x.boxes[i]=y:=⟨_,rfl⟩
 have a3:∀W,Below w.heap.size w W→W.cell? ⟨g,10,none⟩=some (.slice (some ⟨b,d,none⟩) n L)∧W.cell? ⟨b,d+i * 6+1,none⟩=some (.string ⟨y.name.toArray⟩)∧W.cell? ⟨b,d+i * 6+2,none⟩=some (.int .i64 y.parent):=fun W a=>by
  have h5:=h.later a
  obtain⟨b',an,ao,M,_,_,_,_,c⟩:=h5.Zp i hi
  have h6:=hv.symm.trans M
  injection h6 with e1 e2 e3
  injection e1 with e1
  injection e1 with e1 e4
  subst e1 e4 e3
  refine⟨by rw[h5.zQ,A],((c 1 (by omega)).1).trans (by rw[O];rfl),((c 2 (by omega)).1).trans (by rw[O];rfl)⟩
 have X:=zdG a3
 rw[O] at hn1
 have bm:(y.name==nl)=false:=by simpa using hn1
 clear hn1
 rw[O] at hyid z
 have a4:id∈ids (x.boxes.set i {y with name:=nl,parent:=parent}):=by
  rw[zck hi (by rw[O])]
  exact List.mem_map.2 ⟨x.boxes[i],List.getElem_mem hi,by rw[O];exact hyid⟩
 have ax:=zdG a4
 have a5:=zdG z
 have bn:=hf.clock
 have bo:=hf.cfg.mod
 rw[hnm] at V
 have C:=fun W (a:Below w.heap.size w W)=>Zr q.vb [] x.boxes parent id W ((h.later a).boxes.reads [] (by simp)) aw
 rw[hun,A] at C
 have hq:(id==1)=false:=by simpa using h1
 have ay:=zdG V
 have a6:=zdG C
 have az:=zdG A
 have a':=zdG a0
 have HY:=zdG O
 clear hr hpl hfi h1 V hnm hun C hv A a3 a0 O z h hf hyid a4
 go_enter Tryz.func46,Tryz.ntmps46
 go_upto_region 18 with(first
  |(go_at_call 110;refine T.mono ?_;rintro e w1 ⟨rfl,ap⟩;have b0:=zdG ap;clear ap T)
  |(go_at_call 103;refine(U w1).mono ?_;rintro e w2 ⟨rfl,m⟩;have a7:=zdG (za b0.out m);clear m U)
  |(go_at_call 104;refine(ay.out w2 a7.out).mono ?_;rintro e w3 ⟨rfl,aq⟩;have Y:=zdG (za a7.out aq);clear aq;obtain⟨b8,_,_⟩:=X.out w3 Y.out)
  |(go_at_call 111;refine(a6.out w3 Y.out).mono ?_;rintro e w4 ⟨rfl,ar⟩;have J:=zdG (za Y.out ar);clear ar a6;obtain⟨b9,m1,m2⟩:=X.out w4 J.out;have c6:w4.cell? ⟨g,6,none⟩=some (.int .i64 x.cfg.maxMod):=(H.out.later J.out).cells 6;have c9:=(H.out.later J.out).yo)
  |(go_at_call 92;refine(yQ g x.clock x.cfg.maxMod _ ((zB (w:=w4) (by rfl) _).trans c9) ((zB (w:=w4) (by rfl) _).trans c6)).mono ?_;rintro e w5 ⟨rfl,ne,rfl⟩;have a8:=(za J.out (below_drewN' (Below.refl w4.heap.size w4) ne));have b1:=zdG a8;clear a8)
  |fail)
 obtain⟨t,a1⟩:∃t:World,t=w4.drewN ne:=⟨_,rfl⟩
 rw[←a1]
 have K:Below w.heap.size w t:=by rw[a1];exact b1.out
 have b2:=zdG K
 clear a1 b8 b9 m1 m2 c6 c9
 obtain⟨ba,_,_⟩:=X.out t K
 have b3:=zdG (H.out.later K)
 have u:q.vb=.slice (some ⟨b,d,none⟩) x.boxes.length L:=by rw[a'.out];exact az.out
 obtain⟨b',an,ao,M,_,_,_,bb,c⟩:=b3.out.Zp i hi
 have h6:=u.symm.trans M
 injection h6 with e1 e2 e3
 injection e1 with e1
 injection e1 with e1 e4
 subst e1 e4 e3
 have f1:=(c 1 (by omega)).2
 have f2:=(c 2 (by omega)).2
 have c1:t.cell? ⟨b,d+i * 6+1,none⟩=some (.string ⟨y.name.toArray⟩):=((c 1 (by omega)).1).trans (by rw[HY.out];rfl)
 have c2:t.cell? ⟨b,d+i * 6+2,none⟩=some (.int .i64 y.parent):=((c 2 (by omega)).1).trans (by rw[HY.out];rfl)
 have D:∀W:World,W.heap=t.heap→W.os=t.os→W.tape=t.tape→W.output=t.output→Turned w ((W.setCell ⟨b,d+i * 6+1,none⟩ (.string ⟨nl.toArray⟩)).setCell ⟨b,d+i * 6+2,none⟩ (.int .i64 parent)) g q {x with boxes:=x.boxes.set i {y with name:=nl,parent:=parent}} q∧Turned w ((W.setCell ⟨b,d+i * 6+2,none⟩ (.int .i64 parent)).setCell ⟨b,d+i * 6+1,none⟩ (.string ⟨nl.toArray⟩)) g q {x with boxes:=x.boxes.set i {y with name:=nl,parent:=parent}} q:=fun W e0 e1 e2 e3=>by
  have a:Below t.heap.size t W:=⟨e1,e2,e3,Nat.le_of_eq (by rw[e0]),fun _ _=>by rw[e0]⟩
  have m:=za b2.out a
  have hT:=Turned.of_below H.out m
  have hs:=H.out.later m
  constructor
  ·have t1:=hs.yw u i hi 1 (by omega) (.string ⟨nl.toArray⟩) {y with name:=nl} (by rw[HY.out];rfl)
   have t2:=t1.at_.yw (by show q.vb=.slice (some ⟨b,d,none⟩) x.boxes.length L;exact u) i (by simpa using hi) 2 (by omega) (.int .i64 parent) {y with name:=nl,parent:=parent} (by simp[xQ,strV])
   have t3:=(hT.trans t1).trans t2
   rw[show (x.boxes.set i {y with name:=nl}).set i {y with name:=nl,parent:=parent}=x.boxes.set i {y with name:=nl,parent:=parent} from by rw[List.set_set]] at t3
   exact t3
  ·have t1:=hs.yw u i hi 2 (by omega) (.int .i64 parent) {y with parent:=parent} (by rw[HY.out];rfl)
   have t2:=t1.at_.yw (by show q.vb=.slice (some ⟨b,d,none⟩) x.boxes.length L;exact u) i (by simpa using hi) 1 (by omega) (.string ⟨nl.toArray⟩) {y with name:=nl,parent:=parent} (by simp[xQ,strV])
   have t3:=(hT.trans t1).trans t2
   rw[show (x.boxes.set i {y with parent:=parent}).set i {y with name:=nl,parent:=parent}=x.boxes.set i {y with name:=nl,parent:=parent} from by rw[List.set_set]] at t3
   exact t3
 have N:=zdG D
 clear c M u D K
 go_cut [] (fun wx=>Hid (Turned w wx g q {x with boxes:=x.boxes.set i {y with name:=nl,parent:=parent}} q))
 case first=>
  go_region_law (first
   |fail)
  all_goals
   go_wp2_with fail
   go_meet
   first
    |exact zdG (N.out t.drew rfl rfl rfl rfl).1
    |exact zdG (N.out t.drew rfl rfl rfl rfl).2
 case rest=>
  have HT:=hcut
  clear hcut
  obtain⟨l,rfl⟩:∃l:World,l=wc:=⟨_,rfl⟩
  clear ba c1 c2 f1 f2 bb
  have a9:l.cell? ⟨g,12,none⟩=some (.pointer (some ⟨q.gl,0,none⟩)):=HT.out.at_.zV
  have b4:g < l.heap.size:=HT.out.at_.blk.lt
  have aa:=(World.cell?_alloc_lt l (.cells #[.int .i64 id] 3) ⟨g,12,none⟩ b4).trans a9
  have ab:∀W:World,W.heap=l.heap→W.os=l.os→W.tape=l.tape→W.output=l.output→Calls Tryz.prog 95 #[.pointer (some ⟨g,0,none⟩)] W fun e v=>e=.returned (.int .i64 (x.clock+1))∧Turned w v g q {x with clock:=x.clock+1,boxes:=x.boxes.set i {y with name:=nl,parent:=parent}} q:=fun W e0 e1 e2 e3=>by
   have a:Below l.heap.size l W:=⟨e1,e2,e3,Nat.le_of_eq (by rw[e0]),fun _ _=>by rw[e0]⟩
   have h1:=HT.out.at_.later a
   refine(uo g x.clock W h1.yo (h1.frozen 9) (by omega)).mono ?_
   rintro e v ⟨rfl,rfl⟩
   exact⟨rfl,(HT.out.yL a).trans (h1.yj 9 (.int .i64 (x.clock+1)) {x with clock:=x.clock+1,boxes:=x.boxes.set i {y with name:=nl,parent:=parent}} rfl rfl rfl rfl)⟩
  have ac:∀W:World,W.heap=(l.alloc (.cells #[.int .i64 id] 3)).heap→W.os=l.os→W.tape=l.tape→W.output=l.output→Calls Tryz.prog 95 #[.pointer (some ⟨g,0,none⟩)] W fun e v=>e=.returned (.int .i64 (x.clock+1))∧Turned w v g q {x with clock:=x.clock+1,boxes:=x.boxes.set i {y with name:=nl,parent:=parent}} q∧Blk v l.heap.size 3 #[.int .i64 id]:=fun W e0 e1 e2 e3=>by
   have a:Below (l.alloc (.cells #[.int .i64 id] 3)).heap.size (l.alloc (.cells #[.int .i64 id] 3)) W:=⟨e1,e2,e3,Nat.le_of_eq (by rw[e0]),fun _ _=>by rw[e0]⟩
   have m:=za (below_alloc1 l _) a
   have h1:=HT.out.at_.later m
   refine(uo g x.clock W h1.yo (h1.frozen 9) (by omega)).mono ?_
   rintro e v ⟨rfl,rfl⟩
   refine⟨rfl,(HT.out.yL m).trans (h1.yj 9 (.int .i64 (x.clock+1)) {x with clock:=x.clock+1,boxes:=x.boxes.set i {y with name:=nl,parent:=parent}} rfl rfl rfl rfl),?_⟩
   exact((Blk.new l 3 #[.int .i64 id]).heap e0).far (p:=⟨g,9,none⟩) (by show l.heap.size≠g;omega) _
  have ad:∀(W:World) (B:Nat),zh W g q {x with clock:=x.clock+1,boxes:=x.boxes.set i {y with name:=nl,parent:=parent}}→Blk W B 3 #[.int .i64 id]→Calls Tryz.prog 99 #[.pointer (some ⟨g,0,none⟩),.int .i64 (x.clock+1),.slice (some ⟨B,0,none⟩) 1 1] W fun e v=>∃A8 c8 h8,e=.returned (.slice A8 1 c8)∧Turned W v g q {x with clock:=x.clock+1,boxes:=zf (x.clock+1) [id] (x.boxes.set i {y with name:=nl,parent:=parent})} q∧∀W2,Below v.heap.size v W2→Calls Tryz.prog 98 #[.pointer (some ⟨q.gl,0,none⟩),.slice A8 1 c8] W2 fun e' au=>e'=.returned (.tuple #[])∧∃s,Turned v au g q {x with clock:=x.clock+1,boxes:=zf (x.clock+1) [id] (x.boxes.set i {y with name:=nl,parent:=parent}),log:=x.log.add (zn (x.clock+1) [id])} s∧h8=h8:=fun W B hst hB=>by
   refine(uS W g q {x with clock:=x.clock+1,boxes:=x.boxes.set i {y with name:=nl,parent:=parent}} hst (by simp only[List.length_set];omega) (x.clock+1) [id] _ [] ((zcj hB).reads [] (by simp)) (by simp) (fun j hj=>by
    have h1:j=id:=by simpa using hj
    rw[h1]
    exact ax.out)).mono ?_
   rintro e v ⟨v',hh,rfl,bc,bd,ht⟩
   have E:Sl v 177 4 v' hh 1 (zM (zn (x.clock+1) [id])):=bc
   obtain⟨A8,c8,rfl,_,_⟩:=E.form
   refine⟨A8,c8,hh,rfl,ht,fun W2 a=>?_⟩
   have ae:Sl W2 177 4 (.slice A8 1 c8) hh 1 (zM (zn (x.clock+1) [id])):=E.keep (fun b m=>a.block b (E.lt b m))
   have bp:=a2.out.log
   have bq:=a2.out.cfg.log
   refine(XU (ht.at_.later a) (by show 1≤x.log.most;omega) (by show x.log.most≤_;omega) (by show x.log.es.length≤_;omega) ae rfl (by omega) (fun k hk hm=>?_)).mono ?_
   ·have h7:=bd k hk
    have h8:=hst.lt k hm
    omega
   ·rintro e' au ⟨rfl,s,be⟩
    exact⟨rfl,s,(Turned.of_below ht.at_ a).trans be,rfl⟩
  have b5:=zdG ab
  have b6:=zdG ac
  have af:=zdG ad
  clear ab ac ad
  go_upto_region 19 with(fail)
  go_cut [] (fun wx=>∃s,Hid (Turned w wx g q {x with clock:=x.clock+1,boxes:=zf (x.clock+1) [id] (x.boxes.set i {y with name:=nl,parent:=parent}),log:=x.log.add (zn (x.clock+1) [id])} s))
  case first=>
   go_region_law (first
    |(refine zF (by rfl) (by rfl) (enters_of Tryz.func95 (by kernel_rfl) rfl) (by first|(simp[Act.eval];done)|simp[Act.eval,Act.put]) (b5.out _ rfl rfl rfl rfl) ?_;rintro e r ⟨rfl,o⟩;refine⟨_,rfl,?_⟩;have ag:r.cell? ⟨g,12,none⟩=some (.pointer (some ⟨q.gl,0,none⟩)):=o.at_.zV;have b7:g < r.heap.size:=o.at_.blk.lt;have bh:=(World.cell?_alloc_lt r (.cells #[.int .i64 id] 3) ⟨g,12,none⟩ b7).trans ag;have F:=fun W (a:Below (r.alloc (.cells #[.int .i64 id] 3)).heap.size (r.alloc (.cells #[.int .i64 id] 3)) W)=>af.out W r.heap.size (o.at_.later (za (below_alloc1 r _) a)) ((Blk.new r 3 #[.int .i64 id]).below a (Blk.new r 3 #[.int .i64 id]).lt);have G:=fun W (a:Below (r.alloc (.cells #[.int .i64 id] 3)).heap.size (r.alloc (.cells #[.int .i64 id] 3)) W)=>o.yL (za (below_alloc1 r _) a);have ah:=zdG F;have ai:=zdG G;clear F G o)
    |(refine zF (by rfl) (by rfl) (enters_of Tryz.func95 (by kernel_rfl) rfl) (by first|(simp[Act.eval];done)|simp[Act.eval,Act.put]) (b6.out _ rfl rfl rfl rfl) ?_;rintro e r ⟨rfl,o,av⟩;refine⟨_,rfl,?_⟩;have ag:r.cell? ⟨g,12,none⟩=some (.pointer (some ⟨q.gl,0,none⟩)):=o.at_.zV;have F:=fun W (a:Below r.heap.size r W)=>af.out W l.heap.size (o.at_.later a) (av.below a av.lt);have G:=fun W (a:Below r.heap.size r W)=>o.yL a;have ah:=zdG F;have ai:=zdG G;clear F G o)
    |(refine zF (by rfl) (by rfl) (enters_of Tryz.func99 (by kernel_rfl) rfl) (by first|(simp[Act.eval];done)|simp[Act.eval,Act.put]) (ah.out _ ⟨rfl,rfl,rfl,Nat.le_refl _,fun _ _=>rfl⟩) ?_;rintro e bf ⟨A8,c8,h8,rfl,P,Q⟩;refine⟨_,rfl,?_⟩;have I:=(ai.out _ ⟨rfl,rfl,rfl,Nat.le_refl _,fun _ _=>rfl⟩).trans P;have br:bf.cell? ⟨g,12,none⟩=some (.pointer (some ⟨q.gl,0,none⟩)):=I.at_.zV;have aj:=zdG Q;have ak:=zdG I;clear P I Q)
    |(refine zF (by rfl) (by rfl) (enters_of Tryz.func98 (by kernel_rfl) rfl) (by first|(simp[Act.eval];done)|simp[Act.eval,Act.put]) (aj.out _ ⟨rfl,rfl,rfl,Nat.le_refl _,fun _ _=>rfl⟩) ?_;rintro e bu ⟨rfl,bg,R,_⟩;refine⟨_,rfl,?_⟩;have al:=zdG R;clear R)
    |fail)
   all_goals
    go_wp2_with fail
    go_meet
    exact⟨bg,zdG (ak.out.trans al.out)⟩
  case rest=>
   obtain⟨s,S⟩:=hcut
   obtain⟨wz,rfl⟩:∃wz:World,wz=wc:=⟨_,rfl⟩
   have am:Hid (yu w g q rr (.returned (.int .i64 0)) wz):=zdG (by
    rw[a5.out]
    exact⟨rfl,s,S.out⟩)
   clear S a9 aa
   go_wp2_with fail
   go_ret
   exact am.out
theorem zaC (w:World)(g:Nat)(q:zl)(x:Acc)(id:Int)(nl:Text)(parent:Int)(h:zh w g q x)(hf:Fit x)(hnl:nl.length≤1099511627776) :
  Calls Tryz.prog 46 #[.pointer (some ⟨g,0,none⟩),.int .i64 id,.string ⟨nl.toArray⟩,.int .i64 parent] w (yu w g q (zK zo x id nl parent)):=by
 cases p:zu x.boxes id with
 |false=>exact zaq w g q x id nl parent h hf hnl p
 |true=>
  obtain⟨i,k,a,m,_,n,b⟩:=Zy ((yU x.boxes id).1 p)
  cases j:zo nl with
  |false=>exact zbl w g q x id nl parent h hf hnl i k a b j
  |true=>
   by_cases l:id=1
   ·exact zbS w g q x id nl parent h hf hnl i k a b j l
   by_cases c:yG x nl parent id=0
   case neg=>exact JX w g q x id nl parent h hf hnl i k a b j l c
   cases d:xU x.boxes id (x.boxes.length+1) parent with
   |true=>exact Qo w g q x id nl parent h hf hnl i k a b j l c d
   |false=>
    by_cases e:x.boxes[i].name=nl
    ·by_cases o:x.boxes[i].parent=parent
     ·exact zaE w g q x id nl parent h hf hnl i k a b j l c d e o
     ·by_cases f:x.cfg.maxMod≤x.clock
      ·exact Qi w g q x id nl parent h hf hnl i k a b j l c d e o f
      ·exact zca w g q x id nl parent h hf hnl i k a b j l c d n m e o f
    ·by_cases f:x.cfg.maxMod≤x.clock
     ·exact Qt w g q x id nl parent h hf hnl i k a b j l c d e f
     ·exact zbe w g q x id nl parent h hf hnl i k a b j l c d n m e f
end Go.Proofs.YtfhlhdmhgheonaaGreatDoor
