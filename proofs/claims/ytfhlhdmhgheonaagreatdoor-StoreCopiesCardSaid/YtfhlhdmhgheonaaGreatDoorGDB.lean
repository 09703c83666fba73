/-
  The walk of the laws' Do: an act on an account of the program's and on one of the reference's. Printed by gen_both2.py.
-/
import Derived.Test.YtfhlhdmhgheonaaGreatDoorGBO
import Derived.Test.YtfhlhdmhgheonaaGreatDoorGRM
import Derived.Test.YtfhlhdmhgheonaaGreatDoorGRB
import Derived.Test.YtfhlhdmhgheonaaGreatDoorGH
import Derived.Test.YtfhlhdmhgheonaaGreatDoorGPL
import Derived.Deep.RegionHeld3
set_option maxRecDepth 100000
set_option maxHeartbeats 8000000
namespace Go.Proofs.YtfhlhdmhgheonaaGreatDoor
open Go.Shelf Go.RowKit
attribute [local go_sem ↓] Go.wp_at_zero Go.wp_at_succ
structure Way (w wr w1:World)(g:Nat)(q:zl)(g2:Nat)(q2:zl)(x:Acc)(op id at_:Int)(nm:Text)(vb vk:Value):Prop where
 both:Both w wr g q g2 q2 x
 b1:Both w w1 g q g2 q2 x
 bl:Below wr.heap.size wr w1
 own:wr.heap.size∉q.own g
 own2:wr.heap.size∉q2.own g2
 blk:Blk w1 wr.heap.size 40 #[.int .i64 op,.int .i64 id,.int .i64 at_,.string ⟨nm.toArray⟩,vb,vk]
section
variable {w wr w1 W W2:World} {g g2:Nat} {q q2 q' q3:zl} {x x2 x3:Acc} {op id at_:Int} {nm:Text} {vb vk:Value}
theorem Vb (h:Blk W wr.heap.size 40 #[.int .i64 op,.int .i64 id,.int .i64 at_,.string ⟨nm.toArray⟩,vb,vk]):W.cell? ⟨wr.heap.size,0,none⟩=some (.int .i64 op)∧W.cell? ⟨wr.heap.size,1,none⟩=some (.int .i64 id)∧W.cell? ⟨wr.heap.size,2,none⟩=some (.int .i64 at_)∧W.cell? ⟨wr.heap.size,3,none⟩=some (.string ⟨nm.toArray⟩)∧W.cell? ⟨wr.heap.size,4,none⟩=some (vb)∧W.cell? ⟨wr.heap.size,5,none⟩=some (vk):=
 ⟨h.cell 0,h.cell 1,h.cell 2,h.cell 3,h.cell 4,h.cell 5⟩
theorem Way.here (h:Way w wr w1 g q g2 q2 x op id at_ nm vb vk)(hb:Below w1.heap.size w1 W):W.cell? ⟨wr.heap.size,0,none⟩=some (.int .i64 op)∧W.cell? ⟨wr.heap.size,1,none⟩=some (.int .i64 id)∧W.cell? ⟨wr.heap.size,2,none⟩=some (.int .i64 at_)∧W.cell? ⟨wr.heap.size,3,none⟩=some (.string ⟨nm.toArray⟩)∧W.cell? ⟨wr.heap.size,4,none⟩=some (vb)∧W.cell? ⟨wr.heap.size,5,none⟩=some (vk):=Vb (h.blk.below hb h.blk.lt)
theorem Way.t1 (h:Way w wr w1 g q g2 q2 x op id at_ nm vb vk)(ht:Turned w1 W g q x2 q'):W.cell? ⟨wr.heap.size,0,none⟩=some (.int .i64 op)∧W.cell? ⟨wr.heap.size,1,none⟩=some (.int .i64 id)∧W.cell? ⟨wr.heap.size,2,none⟩=some (.int .i64 at_)∧W.cell? ⟨wr.heap.size,3,none⟩=some (.string ⟨nm.toArray⟩)∧W.cell? ⟨wr.heap.size,4,none⟩=some (vb)∧W.cell? ⟨wr.heap.size,5,none⟩=some (vk):=Vb (h.blk.chg ht.chg h.own)
theorem Way.t2 (h:Way w wr w1 g q g2 q2 x op id at_ nm vb vk)(ht:Turned w1 W g q x2 q')(hr:ze W W2 g2 q2 x3 q3):W2.cell? ⟨wr.heap.size,0,none⟩=some (.int .i64 op)∧W2.cell? ⟨wr.heap.size,1,none⟩=some (.int .i64 id)∧W2.cell? ⟨wr.heap.size,2,none⟩=some (.int .i64 at_)∧W2.cell? ⟨wr.heap.size,3,none⟩=some (.string ⟨nm.toArray⟩)∧W2.cell? ⟨wr.heap.size,4,none⟩=some (vb)∧W2.cell? ⟨wr.heap.size,5,none⟩=some (vk):=Vb ((h.blk.chg ht.chg h.own).chg hr.chg h.own2)
theorem vH.way {bs:List Int}{ks:zN}(hin:vH w wr g q g2 q2 x bs vb ks vk nm)(op id at_:Int)(nm:Text):Way w wr (wr.alloc (.cells #[.int .i64 op,.int .i64 id,.int .i64 at_,.string ⟨nm.toArray⟩,vb,vk] 40)) g q g2 q2 x op id at_ nm vb vk:=
 ⟨hin.both,hin.both.later (below_alloc1 _ _),below_alloc1 _ _,fun hm=>Nat.lt_irrefl _ (hin.both.st.at_.lt _ hm),fun hm=>Nat.lt_irrefl _ (hin.both.rf.at_.lt _ hm),Blk.new _ _ _⟩
theorem Way.prog (h:Way w wr w1 g q g2 q2 x op id at_ nm vb vk){f:FuncId}{args:Array Value}{v:Value}(hc:∀W,Below wr.heap.size wr W→Calls Tryz.prog f args W fun e w'=>e=.returned v∧∃q',Turned W w' g q x2 q')(W:World)(hb:Below w1.heap.size w1 W):Calls Tryz.prog f args W fun e w'=>e=.returned v∧∃q',Turned w1 w' g q x2 q':=by
 refine(hc W (za h.bl hb)).mono ?_
 rintro e w' ⟨a,q',b⟩
 exact⟨a,q',(Turned.of_below h.b1.st.at_ hb).trans b⟩
end
theorem both_0 (w wr:World)(g:Nat)(q:zl)(g2:Nat)(q2:zl)(x:Acc)(op id at_:Int)(nm:Text)(bs:List Int)(ks:zN)(vb vk:Value)(hin:vH w wr g q g2 q2 x bs vb ks vk nm)(hop:op=0) :
  Calls Tryz.prog 13 #[.pointer (some ⟨g,0,none⟩),.pointer (some ⟨g2,0,none⟩),.agg #[.int .i64 op,.int .i64 id,.int .i64 at_,.string ⟨nm.toArray⟩,vb,vk]] wr (ve w wr g q g2 q2 (doP x ⟨op,id,at_,nm,bs,ks⟩).1):=by
 subst hop
 rw[show (doP x ⟨0,id,at_,nm,bs,ks⟩).1=(vE zo x nm at_).1 from by simp[doP]]
 obtain⟨y,z,rfl,_,_⟩:=hin.boxes.form
 obtain⟨A,B,rfl,_,_⟩:=hin.keys.form
 obtain⟨p,j⟩:∃p,bs.length=p:=⟨_,rfl⟩
 obtain⟨s,k⟩:∃s,ks.length=s:=⟨_,rfl⟩
 rw[j,k] at hin ⊢
 obtain⟨i,d⟩:∃i:World,i=wr.alloc (.cells #[.int .i64 0,.int .i64 id,.int .i64 at_,.string ⟨nm.toArray⟩,.slice y p z,.slice A s B] 40):=⟨_,rfl⟩
 have a:=hin.way 0 id at_ nm
 rw[←d] at a
 have m:∀W,Below i.heap.size i W→_:=a.prog (f:=44) fun W hb=>make_any W g q x nm at_ (hin.app hb).at_ (hin.app hb).fit (hin.app hb).text
 have c:=fun W q' (b:Turned i W g q (vE zo x nm at_).1 q')=>zcR W g2 q2 x nm at_ (hin.YW (a.b1.st.turned b).below (a.b1.half b)).at_ (hin.YW (a.b1.st.turned b).below (a.b1.half b)).fit (hin.YW (a.b1.st.turned b).below (a.b1.half b)).text
 obtain⟨⟨L,C,M⟩,h⟩:∃r,vE zo x nm at_=r:=⟨_,rfl⟩
 simp only[h] at m c
 rw[h]
 have v:=zdG m
 have n:=zdG c
 have l:=zdG a
 clear m c a hin j k h
 go_enter Tryz.func13,Tryz.ntmps13
 go_upto_region 3 with(fail)
 rw[←d]
 clear d
 obtain⟨D,E,F,G,H,I⟩:=l.out.here (Below.refl _ i)
 go_wp2_with (first
  |(go_at_call 44;refine(v.out _ (by first|exact Below.refl _ _|exact zb _)).mono ?_;rintro e N ⟨rfl,J,b⟩;have t:=zdG b;clear D E F G H I;obtain⟨O,P,Q,R,S,T⟩:=l.out.t1 b;clear b)
  |(go_at_call 45;refine(n.out _ _ t.out).mono ?_;rintro e U ⟨rfl,K,u⟩;have o:=zdG u;clear u)
  |(go_at_call 12;refine(vU _ _).mono ?_;rintro e V ⟨rfl,rfl⟩)
  |fail)
 go_ret
 exact l.out.both.out l.out.bl t.out o.out
theorem both_1 (w wr:World)(g:Nat)(q:zl)(g2:Nat)(q2:zl)(x:Acc)(op id at_:Int)(nm:Text)(bs:List Int)(ks:zN)(vb vk:Value)(hin:vH w wr g q g2 q2 x bs vb ks vk nm)(hop:op=1) :
  Calls Tryz.prog 13 #[.pointer (some ⟨g,0,none⟩),.pointer (some ⟨g2,0,none⟩),.agg #[.int .i64 op,.int .i64 id,.int .i64 at_,.string ⟨nm.toArray⟩,vb,vk]] wr (ve w wr g q g2 q2 (doP x ⟨op,id,at_,nm,bs,ks⟩).1):=by
 subst hop
 rw[show (doP x ⟨1,id,at_,nm,bs,ks⟩).1=(zK zo x id nm at_).1 from by simp[doP]]
 obtain⟨z,A,rfl,_,_⟩:=hin.boxes.form
 obtain⟨B,C,rfl,_,_⟩:=hin.keys.form
 obtain⟨s,o⟩:∃s,bs.length=s:=⟨_,rfl⟩
 obtain⟨t,p⟩:∃t,ks.length=t:=⟨_,rfl⟩
 rw[o,p] at hin ⊢
 obtain⟨k,l⟩:∃k:World,k=wr.alloc (.cells #[.int .i64 1,.int .i64 id,.int .i64 at_,.string ⟨nm.toArray⟩,.slice z s A,.slice B t C] 40):=⟨_,rfl⟩
 have a:=hin.way 1 id at_ nm
 rw[←l] at a
 have u:∀W,Below k.heap.size k W→_:=a.prog (f:=46) fun W hb=>zaC W g q x id nm at_ (hin.app hb).at_ (hin.app hb).fit (hin.app hb).text
 have i:=fun W q' (d:Turned k W g q (zK zo x id nm at_).1 q')=>QY W g2 q2 x id nm at_ (hin.YW (a.b1.st.turned d).below (a.b1.half d)).at_ (hin.YW (a.b1.st.turned d).below (a.b1.half d)).fit hin.room (hin.YW (a.b1.st.turned d).below (a.b1.half d)).text
 obtain⟨⟨D,G⟩,m⟩:∃r,zK zo x id nm at_=r:=⟨_,rfl⟩
 simp only[m] at u i
 rw[m]
 have F:=zdG u
 have y:=zdG i
 have j:=zdG a
 clear u i a hin o p m
 go_enter Tryz.func13,Tryz.ntmps13
 go_upto_region 7 with(fail)
 rw[←l]
 clear l
 obtain⟨H,I,J,K,L,M⟩:=j.out.here (Below.refl _ k)
 go_cut [6] (fun v wx=>v=.bool true∧∃c h W,Hid (Turned k W g q D c)∧Hid (ze W wx g2 q2 D h))
 case first=>
  go_region_held3 (fun W=>W.cell? ⟨wr.heap.size,0,none⟩=some (.int .i64 1)∧W.cell? ⟨wr.heap.size,1,none⟩=some (.int .i64 id)∧W.cell? ⟨wr.heap.size,2,none⟩=some (.int .i64 at_)∧W.cell? ⟨wr.heap.size,3,none⟩=some (.string ⟨nm.toArray⟩)∧W.cell? ⟨wr.heap.size,4,none⟩=some (.slice z s A)∧W.cell? ⟨wr.heap.size,5,none⟩=some (.slice B t C))
   (first
    |exact j.out.here (Below.refl _ _)
    |exact j.out.here (zb _)
    |exact j.out.t1 n.out
    |exact j.out.t2 n.out b.out
    |go_keep)
   (first
    |(go_at_call 46;refine(F.out _ (by first|exact Below.refl _ _|exact zb _)).mono ?_;rintro e N ⟨rfl,c,d⟩;have n:=zdG d;clear d)
    |(go_at_call 47;refine(y.out _ _ n.out).mono ?_;rintro e O ⟨rfl,h,E⟩;have b:=zdG E;clear E)
    |(go_at_call 12;refine(vU _ _).mono ?_;rintro e P ⟨rfl,rfl⟩)
    |fail)
  all_goals
   go_wp2_with fail
   go_meet
   exact⟨by simp,c,h,_,n,b⟩
 case rest=>
  obtain⟨rfl,c,h,W,n,b⟩:=hcut
  go_wp2_with fail
  go_ret
  exact j.out.both.out j.out.bl n.out b.out
theorem both_2 (w wr:World)(g:Nat)(q:zl)(g2:Nat)(q2:zl)(x:Acc)(op id at_:Int)(nm:Text)(bs:List Int)(ks:zN)(vb vk:Value)(hin:vH w wr g q g2 q2 x bs vb ks vk nm)(hop:op=2) :
  Calls Tryz.prog 13 #[.pointer (some ⟨g,0,none⟩),.pointer (some ⟨g2,0,none⟩),.agg #[.int .i64 op,.int .i64 id,.int .i64 at_,.string ⟨nm.toArray⟩,vb,vk]] wr (ve w wr g q g2 q2 (doP x ⟨op,id,at_,nm,bs,ks⟩).1):=by
 subst hop
 rw[show (doP x ⟨2,id,at_,nm,bs,ks⟩).1=(xW x id).1 from by simp[doP]]
 obtain⟨z,A,rfl,_,_⟩:=hin.boxes.form
 obtain⟨B,C,rfl,_,_⟩:=hin.keys.form
 obtain⟨s,o⟩:∃s,bs.length=s:=⟨_,rfl⟩
 obtain⟨t,p⟩:∃t,ks.length=t:=⟨_,rfl⟩
 rw[o,p] at hin ⊢
 obtain⟨j,k⟩:∃j:World,j=wr.alloc (.cells #[.int .i64 2,.int .i64 id,.int .i64 at_,.string ⟨nm.toArray⟩,.slice z s A,.slice B t C] 40):=⟨_,rfl⟩
 have d:=hin.way 2 id at_ nm
 rw[←k] at d
 have u:∀W,Below j.heap.size j W→_:=d.prog (f:=48) fun W hb=>zcC W g q x id (hin.app hb).at_ (hin.app hb).fit
 have h:=fun W q' (m:Turned j W g q (xW x id).1 q')=>zc1 W g2 q2 x id (hin.YW (d.b1.st.turned m).below (d.b1.half m)).at_ (hin.YW (d.b1.st.turned m).below (d.b1.half m)).fit
 obtain⟨⟨D,G⟩,l⟩:∃r,xW x id=r:=⟨_,rfl⟩
 simp only[l] at u h
 rw[l]
 have F:=zdG u
 have y:=zdG h
 have i:=zdG d
 clear u h d hin o p l
 go_enter Tryz.func13,Tryz.ntmps13
 go_upto_region 9 with(fail)
 rw[←k]
 clear k
 obtain⟨H,I,J,K,L,M⟩:=i.out.here (Below.refl _ j)
 go_cut [6] (fun v wx=>v=.bool true∧∃b c W,Hid (Turned j W g q D b)∧Hid (ze W wx g2 q2 D c))
 case first=>
  go_region_held3 (fun W=>W.cell? ⟨wr.heap.size,0,none⟩=some (.int .i64 2)∧W.cell? ⟨wr.heap.size,1,none⟩=some (.int .i64 id)∧W.cell? ⟨wr.heap.size,2,none⟩=some (.int .i64 at_)∧W.cell? ⟨wr.heap.size,3,none⟩=some (.string ⟨nm.toArray⟩)∧W.cell? ⟨wr.heap.size,4,none⟩=some (.slice z s A)∧W.cell? ⟨wr.heap.size,5,none⟩=some (.slice B t C))
   (first
    |exact i.out.here (Below.refl _ _)
    |exact i.out.here (zb _)
    |exact i.out.t1 n.out
    |exact i.out.t2 n.out a.out
    |go_keep)
   (first
    |(go_at_call 48;refine(F.out _ (by first|exact Below.refl _ _|exact zb _)).mono ?_;rintro e N ⟨rfl,b,m⟩;have n:=zdG m;clear m)
    |(go_at_call 49;refine(y.out _ _ n.out).mono ?_;rintro e O ⟨rfl,c,E⟩;have a:=zdG E;clear E)
    |(go_at_call 12;refine(vU _ _).mono ?_;rintro e P ⟨rfl,rfl⟩)
    |fail)
  all_goals
   go_wp2_with fail
   go_meet
   exact⟨by simp,b,c,_,n,a⟩
 case rest=>
  obtain⟨rfl,b,c,W,n,a⟩:=hcut
  go_wp2_with fail
  go_ret
  exact i.out.both.out i.out.bl n.out a.out
theorem both_3 (w wr:World)(g:Nat)(q:zl)(g2:Nat)(q2:zl)(x:Acc)(op id at_:Int)(nm:Text)(bs:List Int)(ks:zN)(vb vk:Value)(hin:vH w wr g q g2 q2 x bs vb ks vk nm)(hop:op=3) :
  Calls Tryz.prog 13 #[.pointer (some ⟨g,0,none⟩),.pointer (some ⟨g2,0,none⟩),.agg #[.int .i64 op,.int .i64 id,.int .i64 at_,.string ⟨nm.toArray⟩,vb,vk]] wr (ve w wr g q g2 q2 (doP x ⟨op,id,at_,nm,bs,ks⟩).1):=by
 subst hop
 rw[show (doP x ⟨3,id,at_,nm,bs,ks⟩).1=(zq zO x bs ks at_ nm).1 from by simp[doP]]
 obtain⟨y,z,rfl,_,_⟩:=hin.boxes.form
 obtain⟨A,B,rfl,_,_⟩:=hin.keys.form
 obtain⟨p,j⟩:∃p,bs.length=p:=⟨_,rfl⟩
 obtain⟨s,k⟩:∃s,ks.length=s:=⟨_,rfl⟩
 rw[j,k] at hin ⊢
 obtain⟨h,b⟩:∃h:World,h=wr.alloc (.cells #[.int .i64 3,.int .i64 id,.int .i64 at_,.string ⟨nm.toArray⟩,.slice y p z,.slice A s B] 40):=⟨_,rfl⟩
 have d:=hin.way 3 id at_ nm
 rw[←b] at d
 have m:∀W,Below h.heap.size h W→_:=d.prog (f:=38) fun W hb=>xS W g q x bs _ [] ks _ [] at_ nm (hin.app hb)
 have a:=fun W q' (i:Turned h W g q (zq zO x bs ks at_ nm).1 q')=>YS W g2 q2 x bs _ [] ks _ [] at_ nm (hin.YW (d.b1.st.turned i).below (d.b1.half i))
 obtain⟨⟨L,C,M⟩,c⟩:∃r,zq zO x bs ks at_ nm=r:=⟨_,rfl⟩
 simp only[c] at m a
 rw[c]
 have v:=zdG m
 have n:=zdG a
 have l:=zdG d
 clear m a d hin j k c
 go_enter Tryz.func13,Tryz.ntmps13
 go_upto_region 13 with(fail)
 rw[←b]
 clear b
 obtain⟨D,E,F,G,H,I⟩:=l.out.here (Below.refl _ h)
 go_wp2_with (first
  |(go_at_call 38;refine(v.out _ (by first|exact Below.refl _ _|exact zb _)).mono ?_;rintro e N ⟨rfl,J,i⟩;have t:=zdG i;clear D E F G H I;obtain⟨O,P,Q,R,S,T⟩:=l.out.t1 i;clear i)
  |(go_at_call 50;refine(n.out _ _ t.out).mono ?_;rintro e U ⟨rfl,K,u⟩;have o:=zdG u;clear u)
  |(go_at_call 12;refine(vU _ _).mono ?_;rintro e V ⟨rfl,rfl⟩)
  |fail)
 go_ret
 exact l.out.both.out l.out.bl t.out o.out
theorem both_4 (w wr:World)(g:Nat)(q:zl)(g2:Nat)(q2:zl)(x:Acc)(op id at_:Int)(nm:Text)(bs:List Int)(ks:zN)(vb vk:Value)(hin:vH w wr g q g2 q2 x bs vb ks vk nm)(hop:op=4) :
  Calls Tryz.prog 13 #[.pointer (some ⟨g,0,none⟩),.pointer (some ⟨g2,0,none⟩),.agg #[.int .i64 op,.int .i64 id,.int .i64 at_,.string ⟨nm.toArray⟩,vb,vk]] wr (ve w wr g q g2 q2 (doP x ⟨op,id,at_,nm,bs,ks⟩).1):=by
 subst hop
 rw[show (doP x ⟨4,id,at_,nm,bs,ks⟩).1=(zq zO x bs ks at_ nm).1 from by simp[doP]]
 obtain⟨y,z,rfl,_,_⟩:=hin.boxes.form
 obtain⟨A,B,rfl,_,_⟩:=hin.keys.form
 obtain⟨p,j⟩:∃p,bs.length=p:=⟨_,rfl⟩
 obtain⟨s,k⟩:∃s,ks.length=s:=⟨_,rfl⟩
 rw[j,k] at hin ⊢
 obtain⟨h,b⟩:∃h:World,h=wr.alloc (.cells #[.int .i64 4,.int .i64 id,.int .i64 at_,.string ⟨nm.toArray⟩,.slice y p z,.slice A s B] 40):=⟨_,rfl⟩
 have d:=hin.way 4 id at_ nm
 rw[←b] at d
 have m:∀W,Below h.heap.size h W→_:=d.prog (f:=38) fun W hb=>xS W g q x bs _ [] ks _ [] at_ nm (hin.app hb)
 have a:=fun W q' (i:Turned h W g q (zq zO x bs ks at_ nm).1 q')=>YS W g2 q2 x bs _ [] ks _ [] at_ nm (hin.YW (d.b1.st.turned i).below (d.b1.half i))
 obtain⟨⟨L,C,M⟩,c⟩:∃r,zq zO x bs ks at_ nm=r:=⟨_,rfl⟩
 simp only[c] at m a
 rw[c]
 have v:=zdG m
 have n:=zdG a
 have l:=zdG d
 clear m a d hin j k c
 go_enter Tryz.func13,Tryz.ntmps13
 go_upto_region 13 with(fail)
 rw[←b]
 clear b
 obtain⟨D,E,F,G,H,I⟩:=l.out.here (Below.refl _ h)
 go_wp2_with (first
  |(go_at_call 38;refine(v.out _ (by first|exact Below.refl _ _|exact zb _)).mono ?_;rintro e N ⟨rfl,J,i⟩;have t:=zdG i;clear D E F G H I;obtain⟨O,P,Q,R,S,T⟩:=l.out.t1 i;clear i)
  |(go_at_call 50;refine(n.out _ _ t.out).mono ?_;rintro e U ⟨rfl,K,u⟩;have o:=zdG u;clear u)
  |(go_at_call 12;refine(vU _ _).mono ?_;rintro e V ⟨rfl,rfl⟩)
  |fail)
 go_ret
 exact l.out.both.out l.out.bl t.out o.out
theorem both_5 (w wr:World)(g:Nat)(q:zl)(g2:Nat)(q2:zl)(x:Acc)(op id at_:Int)(nm:Text)(bs:List Int)(ks:zN)(vb vk:Value)(hin:vH w wr g q g2 q2 x bs vb ks vk nm)(hop:op=5) :
  Calls Tryz.prog 13 #[.pointer (some ⟨g,0,none⟩),.pointer (some ⟨g2,0,none⟩),.agg #[.int .i64 op,.int .i64 id,.int .i64 at_,.string ⟨nm.toArray⟩,vb,vk]] wr (ve w wr g q g2 q2 (doP x ⟨op,id,at_,nm,bs,ks⟩).1):=by
 subst hop
 rw[show (doP x ⟨5,id,at_,nm,bs,ks⟩).1=(zq zO x bs ks at_ nm).1 from by simp[doP]]
 obtain⟨y,z,rfl,_,_⟩:=hin.boxes.form
 obtain⟨A,B,rfl,_,_⟩:=hin.keys.form
 obtain⟨p,j⟩:∃p,bs.length=p:=⟨_,rfl⟩
 obtain⟨s,k⟩:∃s,ks.length=s:=⟨_,rfl⟩
 rw[j,k] at hin ⊢
 obtain⟨h,b⟩:∃h:World,h=wr.alloc (.cells #[.int .i64 5,.int .i64 id,.int .i64 at_,.string ⟨nm.toArray⟩,.slice y p z,.slice A s B] 40):=⟨_,rfl⟩
 have d:=hin.way 5 id at_ nm
 rw[←b] at d
 have m:∀W,Below h.heap.size h W→_:=d.prog (f:=38) fun W hb=>xS W g q x bs _ [] ks _ [] at_ nm (hin.app hb)
 have a:=fun W q' (i:Turned h W g q (zq zO x bs ks at_ nm).1 q')=>YS W g2 q2 x bs _ [] ks _ [] at_ nm (hin.YW (d.b1.st.turned i).below (d.b1.half i))
 obtain⟨⟨L,C,M⟩,c⟩:∃r,zq zO x bs ks at_ nm=r:=⟨_,rfl⟩
 simp only[c] at m a
 rw[c]
 have v:=zdG m
 have n:=zdG a
 have l:=zdG d
 clear m a d hin j k c
 go_enter Tryz.func13,Tryz.ntmps13
 go_upto_region 13 with(fail)
 rw[←b]
 clear b
 obtain⟨D,E,F,G,H,I⟩:=l.out.here (Below.refl _ h)
 go_wp2_with (first
  |(go_at_call 38;refine(v.out _ (by first|exact Below.refl _ _|exact zb _)).mono ?_;rintro e N ⟨rfl,J,i⟩;have t:=zdG i;clear D E F G H I;obtain⟨O,P,Q,R,S,T⟩:=l.out.t1 i;clear i)
  |(go_at_call 50;refine(n.out _ _ t.out).mono ?_;rintro e U ⟨rfl,K,u⟩;have o:=zdG u;clear u)
  |(go_at_call 12;refine(vU _ _).mono ?_;rintro e V ⟨rfl,rfl⟩)
  |fail)
 go_ret
 exact l.out.both.out l.out.bl t.out o.out
theorem both_6 (w wr:World)(g:Nat)(q:zl)(g2:Nat)(q2:zl)(x:Acc)(op id at_:Int)(nm:Text)(bs:List Int)(ks:zN)(vb vk:Value)(hin:vH w wr g q g2 q2 x bs vb ks vk nm)(hop:op=6) :
  Calls Tryz.prog 13 #[.pointer (some ⟨g,0,none⟩),.pointer (some ⟨g2,0,none⟩),.agg #[.int .i64 op,.int .i64 id,.int .i64 at_,.string ⟨nm.toArray⟩,vb,vk]] wr (ve w wr g q g2 q2 (doP x ⟨op,id,at_,nm,bs,ks⟩).1):=by
 subst hop
 rw[show (doP x ⟨6,id,at_,nm,bs,ks⟩).1=(xM x id ks).1 from by simp[doP]]
 obtain⟨y,z,rfl,_,_⟩:=hin.boxes.form
 obtain⟨A,B,rfl,_,_⟩:=hin.keys.form
 obtain⟨s,o⟩:∃s,bs.length=s:=⟨_,rfl⟩
 obtain⟨nk,p⟩:∃nk,ks.length=nk:=⟨_,rfl⟩
 rw[o,p] at hin ⊢
 obtain⟨k,l⟩:∃k:World,k=wr.alloc (.cells #[.int .i64 6,.int .i64 id,.int .i64 at_,.string ⟨nm.toArray⟩,.slice y s z,.slice A nk B] 40):=⟨_,rfl⟩
 have a:=hin.way 6 id at_ nm
 rw[←l] at a
 have t:∀W,Below k.heap.size k W→_:=a.prog (f:=51) fun W hb=>JW W g q x id ks _ [] ⟨(hin.app hb).at_,(hin.app hb).fit,(hin.app hb).keys,(hin.app hb).nk,(hin.app hb).short⟩
 have i:=fun W q' (b:Turned k W g q (xM x id ks).1 q')=>Ju W g2 q2 x id ks _ [] ⟨(hin.YW (a.b1.st.turned b).below (a.b1.half b)).at_,(hin.YW (a.b1.st.turned b).below (a.b1.half b)).fit,(hin.YW (a.b1.st.turned b).below (a.b1.half b)).keys,(hin.YW (a.b1.st.turned b).below (a.b1.half b)).nk,(hin.YW (a.b1.st.turned b).below (a.b1.half b)).short⟩
 obtain⟨⟨C,F⟩,m⟩:∃r,xM x id ks=r:=⟨_,rfl⟩
 simp only[m] at t i
 rw[m]
 have E:=zdG t
 have u:=zdG i
 have j:=zdG a
 clear t i a hin o p m
 go_enter Tryz.func13,Tryz.ntmps13
 go_upto_region 18 with(fail)
 rw[←l]
 clear l
 obtain⟨G,H,I,J,K,L⟩:=j.out.here (Below.refl _ k)
 go_cut [6] (fun v wx=>v=.bool true∧∃d h W,Hid (Turned k W g q C d)∧Hid (ze W wx g2 q2 C h))
 case first=>
  go_region_held3 (fun W=>W.cell? ⟨wr.heap.size,0,none⟩=some (.int .i64 6)∧W.cell? ⟨wr.heap.size,1,none⟩=some (.int .i64 id)∧W.cell? ⟨wr.heap.size,2,none⟩=some (.int .i64 at_)∧W.cell? ⟨wr.heap.size,3,none⟩=some (.string ⟨nm.toArray⟩)∧W.cell? ⟨wr.heap.size,4,none⟩=some (.slice y s z)∧W.cell? ⟨wr.heap.size,5,none⟩=some (.slice A nk B))
   (first
    |exact j.out.here (Below.refl _ _)
    |exact j.out.here (zb _)
    |exact j.out.t1 n.out
    |exact j.out.t2 n.out c.out
    |go_keep)
   (first
    |(go_at_call 51;refine(E.out _ (by first|exact Below.refl _ _|exact zb _)).mono ?_;rintro e M ⟨rfl,d,b⟩;have n:=zdG b;clear b)
    |(go_at_call 52;refine(u.out _ _ n.out).mono ?_;rintro e N ⟨rfl,h,D⟩;have c:=zdG D;clear D)
    |(go_at_call 12;refine(vU _ _).mono ?_;rintro e O ⟨rfl,rfl⟩)
    |fail)
  all_goals
   go_wp2_with fail
   go_meet
   exact⟨by simp,d,h,_,n,c⟩
 case rest=>
  obtain⟨rfl,d,h,W,n,c⟩:=hcut
  go_wp2_with fail
  go_ret
  exact j.out.both.out j.out.bl n.out c.out
theorem both_7 (w wr:World)(g:Nat)(q:zl)(g2:Nat)(q2:zl)(x:Acc)(op id at_:Int)(nm:Text)(bs:List Int)(ks:zN)(vb vk:Value)(hin:vH w wr g q g2 q2 x bs vb ks vk nm)(hop:op=7) :
  Calls Tryz.prog 13 #[.pointer (some ⟨g,0,none⟩),.pointer (some ⟨g2,0,none⟩),.agg #[.int .i64 op,.int .i64 id,.int .i64 at_,.string ⟨nm.toArray⟩,vb,vk]] wr (ve w wr g q g2 q2 (doP x ⟨op,id,at_,nm,bs,ks⟩).1):=by
 subst hop
 rw[show (doP x ⟨7,id,at_,nm,bs,ks⟩).1=(xM x id ks).1 from by simp[doP]]
 obtain⟨y,z,rfl,_,_⟩:=hin.boxes.form
 obtain⟨A,B,rfl,_,_⟩:=hin.keys.form
 obtain⟨s,o⟩:∃s,bs.length=s:=⟨_,rfl⟩
 obtain⟨nk,p⟩:∃nk,ks.length=nk:=⟨_,rfl⟩
 rw[o,p] at hin ⊢
 obtain⟨k,l⟩:∃k:World,k=wr.alloc (.cells #[.int .i64 7,.int .i64 id,.int .i64 at_,.string ⟨nm.toArray⟩,.slice y s z,.slice A nk B] 40):=⟨_,rfl⟩
 have a:=hin.way 7 id at_ nm
 rw[←l] at a
 have t:∀W,Below k.heap.size k W→_:=a.prog (f:=51) fun W hb=>JW W g q x id ks _ [] ⟨(hin.app hb).at_,(hin.app hb).fit,(hin.app hb).keys,(hin.app hb).nk,(hin.app hb).short⟩
 have i:=fun W q' (b:Turned k W g q (xM x id ks).1 q')=>Ju W g2 q2 x id ks _ [] ⟨(hin.YW (a.b1.st.turned b).below (a.b1.half b)).at_,(hin.YW (a.b1.st.turned b).below (a.b1.half b)).fit,(hin.YW (a.b1.st.turned b).below (a.b1.half b)).keys,(hin.YW (a.b1.st.turned b).below (a.b1.half b)).nk,(hin.YW (a.b1.st.turned b).below (a.b1.half b)).short⟩
 obtain⟨⟨C,F⟩,m⟩:∃r,xM x id ks=r:=⟨_,rfl⟩
 simp only[m] at t i
 rw[m]
 have E:=zdG t
 have u:=zdG i
 have j:=zdG a
 clear t i a hin o p m
 go_enter Tryz.func13,Tryz.ntmps13
 go_upto_region 18 with(fail)
 rw[←l]
 clear l
 obtain⟨G,H,I,J,K,L⟩:=j.out.here (Below.refl _ k)
 go_cut [6] (fun v wx=>v=.bool true∧∃d h W,Hid (Turned k W g q C d)∧Hid (ze W wx g2 q2 C h))
 case first=>
  go_region_held3 (fun W=>W.cell? ⟨wr.heap.size,0,none⟩=some (.int .i64 7)∧W.cell? ⟨wr.heap.size,1,none⟩=some (.int .i64 id)∧W.cell? ⟨wr.heap.size,2,none⟩=some (.int .i64 at_)∧W.cell? ⟨wr.heap.size,3,none⟩=some (.string ⟨nm.toArray⟩)∧W.cell? ⟨wr.heap.size,4,none⟩=some (.slice y s z)∧W.cell? ⟨wr.heap.size,5,none⟩=some (.slice A nk B))
   (first
    |exact j.out.here (Below.refl _ _)
    |exact j.out.here (zb _)
    |exact j.out.t1 n.out
    |exact j.out.t2 n.out c.out
    |go_keep)
   (first
    |(go_at_call 51;refine(E.out _ (by first|exact Below.refl _ _|exact zb _)).mono ?_;rintro e M ⟨rfl,d,b⟩;have n:=zdG b;clear b)
    |(go_at_call 52;refine(u.out _ _ n.out).mono ?_;rintro e N ⟨rfl,h,D⟩;have c:=zdG D;clear D)
    |(go_at_call 12;refine(vU _ _).mono ?_;rintro e O ⟨rfl,rfl⟩)
    |fail)
  all_goals
   go_wp2_with fail
   go_meet
   exact⟨by simp,d,h,_,n,c⟩
 case rest=>
  obtain⟨rfl,d,h,W,n,c⟩:=hcut
  go_wp2_with fail
  go_ret
  exact j.out.both.out j.out.bl n.out c.out
theorem both_8 (w wr:World)(g:Nat)(q:zl)(g2:Nat)(q2:zl)(x:Acc)(op id at_:Int)(nm:Text)(bs:List Int)(ks:zN)(vb vk:Value)(hin:vH w wr g q g2 q2 x bs vb ks vk nm)(hop:op=8) :
  Calls Tryz.prog 13 #[.pointer (some ⟨g,0,none⟩),.pointer (some ⟨g2,0,none⟩),.agg #[.int .i64 op,.int .i64 id,.int .i64 at_,.string ⟨nm.toArray⟩,vb,vk]] wr (ve w wr g q g2 q2 (doP x ⟨op,id,at_,nm,bs,ks⟩).1):=by
 subst hop
 rw[show (doP x ⟨8,id,at_,nm,bs,ks⟩).1=(yB x id bs).1 from by simp[doP]]
 obtain⟨y,z,rfl,_,_⟩:=hin.boxes.form
 obtain⟨A,B,rfl,_,_⟩:=hin.keys.form
 obtain⟨nb,o⟩:∃nb,bs.length=nb:=⟨_,rfl⟩
 obtain⟨s,p⟩:∃s,ks.length=s:=⟨_,rfl⟩
 rw[o,p] at hin ⊢
 obtain⟨k,l⟩:∃k:World,k=wr.alloc (.cells #[.int .i64 8,.int .i64 id,.int .i64 at_,.string ⟨nm.toArray⟩,.slice y nb z,.slice A s B] 40):=⟨_,rfl⟩
 have a:=hin.way 8 id at_ nm
 rw[←l] at a
 have t:∀W,Below k.heap.size k W→_:=a.prog (f:=53) fun W hb=>Uv W g q x id bs _ [] (hin.app hb).at_ (hin.app hb).fit (hin.app hb).boxes (hin.app hb).nb
 have i:=fun W q' (b:Turned k W g q (yB x id bs).1 q')=>Um W g2 q2 x id bs _ [] ⟨(hin.YW (a.b1.st.turned b).below (a.b1.half b)).at_,(hin.YW (a.b1.st.turned b).below (a.b1.half b)).fit,(hin.YW (a.b1.st.turned b).below (a.b1.half b)).boxes,(hin.YW (a.b1.st.turned b).below (a.b1.half b)).nb⟩
 obtain⟨⟨C,F⟩,m⟩:∃r,yB x id bs=r:=⟨_,rfl⟩
 simp only[m] at t i
 rw[m]
 have E:=zdG t
 have u:=zdG i
 have j:=zdG a
 clear t i a hin o p m
 go_enter Tryz.func13,Tryz.ntmps13
 go_upto_region 21 with(fail)
 rw[←l]
 clear l
 obtain⟨G,H,I,J,K,L⟩:=j.out.here (Below.refl _ k)
 go_cut [6] (fun v wx=>v=.bool true∧∃d h W,Hid (Turned k W g q C d)∧Hid (ze W wx g2 q2 C h))
 case first=>
  go_region_held3 (fun W=>W.cell? ⟨wr.heap.size,0,none⟩=some (.int .i64 8)∧W.cell? ⟨wr.heap.size,1,none⟩=some (.int .i64 id)∧W.cell? ⟨wr.heap.size,2,none⟩=some (.int .i64 at_)∧W.cell? ⟨wr.heap.size,3,none⟩=some (.string ⟨nm.toArray⟩)∧W.cell? ⟨wr.heap.size,4,none⟩=some (.slice y nb z)∧W.cell? ⟨wr.heap.size,5,none⟩=some (.slice A s B))
   (first
    |exact j.out.here (Below.refl _ _)
    |exact j.out.here (zb _)
    |exact j.out.t1 n.out
    |exact j.out.t2 n.out c.out
    |go_keep)
   (first
    |(go_at_call 53;refine(E.out _ (by first|exact Below.refl _ _|exact zb _)).mono ?_;rintro e M ⟨rfl,d,b⟩;have n:=zdG b;clear b)
    |(go_at_call 54;refine(u.out _ _ n.out).mono ?_;rintro e N ⟨rfl,h,D⟩;have c:=zdG D;clear D)
    |(go_at_call 12;refine(vU _ _).mono ?_;rintro e O ⟨rfl,rfl⟩)
    |fail)
  all_goals
   go_wp2_with fail
   go_meet
   exact⟨by simp,d,h,_,n,c⟩
 case rest=>
  obtain⟨rfl,d,h,W,n,c⟩:=hcut
  go_wp2_with fail
  go_ret
  exact j.out.both.out j.out.bl n.out c.out
theorem both_9 (w wr:World)(g:Nat)(q:zl)(g2:Nat)(q2:zl)(x:Acc)(op id at_:Int)(nm:Text)(bs:List Int)(ks:zN)(vb vk:Value)(hin:vH w wr g q g2 q2 x bs vb ks vk nm)(hop:op=9) :
  Calls Tryz.prog 13 #[.pointer (some ⟨g,0,none⟩),.pointer (some ⟨g2,0,none⟩),.agg #[.int .i64 op,.int .i64 id,.int .i64 at_,.string ⟨nm.toArray⟩,vb,vk]] wr (ve w wr g q g2 q2 (doP x ⟨op,id,at_,nm,bs,ks⟩).1):=by
 subst hop
 rw[show (doP x ⟨9,id,at_,nm,bs,ks⟩).1=(yB x id bs).1 from by simp[doP]]
 obtain⟨y,z,rfl,_,_⟩:=hin.boxes.form
 obtain⟨A,B,rfl,_,_⟩:=hin.keys.form
 obtain⟨nb,o⟩:∃nb,bs.length=nb:=⟨_,rfl⟩
 obtain⟨s,p⟩:∃s,ks.length=s:=⟨_,rfl⟩
 rw[o,p] at hin ⊢
 obtain⟨k,l⟩:∃k:World,k=wr.alloc (.cells #[.int .i64 9,.int .i64 id,.int .i64 at_,.string ⟨nm.toArray⟩,.slice y nb z,.slice A s B] 40):=⟨_,rfl⟩
 have a:=hin.way 9 id at_ nm
 rw[←l] at a
 have t:∀W,Below k.heap.size k W→_:=a.prog (f:=53) fun W hb=>Uv W g q x id bs _ [] (hin.app hb).at_ (hin.app hb).fit (hin.app hb).boxes (hin.app hb).nb
 have i:=fun W q' (b:Turned k W g q (yB x id bs).1 q')=>Um W g2 q2 x id bs _ [] ⟨(hin.YW (a.b1.st.turned b).below (a.b1.half b)).at_,(hin.YW (a.b1.st.turned b).below (a.b1.half b)).fit,(hin.YW (a.b1.st.turned b).below (a.b1.half b)).boxes,(hin.YW (a.b1.st.turned b).below (a.b1.half b)).nb⟩
 obtain⟨⟨C,F⟩,m⟩:∃r,yB x id bs=r:=⟨_,rfl⟩
 simp only[m] at t i
 rw[m]
 have E:=zdG t
 have u:=zdG i
 have j:=zdG a
 clear t i a hin o p m
 go_enter Tryz.func13,Tryz.ntmps13
 go_upto_region 21 with(fail)
 rw[←l]
 clear l
 obtain⟨G,H,I,J,K,L⟩:=j.out.here (Below.refl _ k)
 go_cut [6] (fun v wx=>v=.bool true∧∃d h W,Hid (Turned k W g q C d)∧Hid (ze W wx g2 q2 C h))
 case first=>
  go_region_held3 (fun W=>W.cell? ⟨wr.heap.size,0,none⟩=some (.int .i64 9)∧W.cell? ⟨wr.heap.size,1,none⟩=some (.int .i64 id)∧W.cell? ⟨wr.heap.size,2,none⟩=some (.int .i64 at_)∧W.cell? ⟨wr.heap.size,3,none⟩=some (.string ⟨nm.toArray⟩)∧W.cell? ⟨wr.heap.size,4,none⟩=some (.slice y nb z)∧W.cell? ⟨wr.heap.size,5,none⟩=some (.slice A s B))
   (first
    |exact j.out.here (Below.refl _ _)
    |exact j.out.here (zb _)
    |exact j.out.t1 n.out
    |exact j.out.t2 n.out c.out
    |go_keep)
   (first
    |(go_at_call 53;refine(E.out _ (by first|exact Below.refl _ _|exact zb _)).mono ?_;rintro e M ⟨rfl,d,b⟩;have n:=zdG b;clear b)
    |(go_at_call 54;refine(u.out _ _ n.out).mono ?_;rintro e N ⟨rfl,h,D⟩;have c:=zdG D;clear D)
    |(go_at_call 12;refine(vU _ _).mono ?_;rintro e O ⟨rfl,rfl⟩)
    |fail)
  all_goals
   go_wp2_with fail
   go_meet
   exact⟨by simp,d,h,_,n,c⟩
 case rest=>
  obtain⟨rfl,d,h,W,n,c⟩:=hcut
  go_wp2_with fail
  go_ret
  exact j.out.both.out j.out.bl n.out c.out
theorem both_10 (w wr:World)(g:Nat)(q:zl)(g2:Nat)(q2:zl)(x:Acc)(op id at_:Int)(nm:Text)(bs:List Int)(ks:zN)(vb vk:Value)(hin:vH w wr g q g2 q2 x bs vb ks vk nm)(hop:op=10) :
  Calls Tryz.prog 13 #[.pointer (some ⟨g,0,none⟩),.pointer (some ⟨g2,0,none⟩),.agg #[.int .i64 op,.int .i64 id,.int .i64 at_,.string ⟨nm.toArray⟩,vb,vk]] wr (ve w wr g q g2 q2 (doP x ⟨op,id,at_,nm,bs,ks⟩).1):=by
 subst hop
 rw[show (doP x ⟨10,id,at_,nm,bs,ks⟩).1=(yh x id).1 from by simp[doP]]
 obtain⟨z,A,rfl,_,_⟩:=hin.boxes.form
 obtain⟨B,C,rfl,_,_⟩:=hin.keys.form
 obtain⟨s,o⟩:∃s,bs.length=s:=⟨_,rfl⟩
 obtain⟨t,p⟩:∃t,ks.length=t:=⟨_,rfl⟩
 rw[o,p] at hin ⊢
 obtain⟨j,k⟩:∃j:World,j=wr.alloc (.cells #[.int .i64 10,.int .i64 id,.int .i64 at_,.string ⟨nm.toArray⟩,.slice z s A,.slice B t C] 40):=⟨_,rfl⟩
 have d:=hin.way 10 id at_ nm
 rw[←k] at d
 have u:∀W,Below j.heap.size j W→_:=d.prog (f:=55) fun W hb=>JR W g q x id (hin.app hb).at_ (hin.app hb).fit
 have h:=fun W q' (m:Turned j W g q (yh x id).1 q')=>JV W g2 q2 x id (hin.YW (d.b1.st.turned m).below (d.b1.half m)).at_ (hin.YW (d.b1.st.turned m).below (d.b1.half m)).fit
 obtain⟨⟨D,G⟩,l⟩:∃r,yh x id=r:=⟨_,rfl⟩
 simp only[l] at u h
 rw[l]
 have F:=zdG u
 have y:=zdG h
 have i:=zdG d
 clear u h d hin o p l
 go_enter Tryz.func13,Tryz.ntmps13
 go_upto_region 23 with(fail)
 rw[←k]
 clear k
 obtain⟨H,I,J,K,L,M⟩:=i.out.here (Below.refl _ j)
 go_cut [6] (fun v wx=>v=.bool true∧∃b c W,Hid (Turned j W g q D b)∧Hid (ze W wx g2 q2 D c))
 case first=>
  go_region_held3 (fun W=>W.cell? ⟨wr.heap.size,0,none⟩=some (.int .i64 10)∧W.cell? ⟨wr.heap.size,1,none⟩=some (.int .i64 id)∧W.cell? ⟨wr.heap.size,2,none⟩=some (.int .i64 at_)∧W.cell? ⟨wr.heap.size,3,none⟩=some (.string ⟨nm.toArray⟩)∧W.cell? ⟨wr.heap.size,4,none⟩=some (.slice z s A)∧W.cell? ⟨wr.heap.size,5,none⟩=some (.slice B t C))
   (first
    |exact i.out.here (Below.refl _ _)
    |exact i.out.here (zb _)
    |exact i.out.t1 n.out
    |exact i.out.t2 n.out a.out
    |go_keep)
   (first
    |(go_at_call 55;refine(F.out _ (by first|exact Below.refl _ _|exact zb _)).mono ?_;rintro e N ⟨rfl,b,m⟩;have n:=zdG m;clear m)
    |(go_at_call 56;refine(y.out _ _ n.out).mono ?_;rintro e O ⟨rfl,c,E⟩;have a:=zdG E;clear E)
    |(go_at_call 12;refine(vU _ _).mono ?_;rintro e P ⟨rfl,rfl⟩)
    |fail)
  all_goals
   go_wp2_with fail
   go_meet
   exact⟨by simp,b,c,_,n,a⟩
 case rest=>
  obtain⟨rfl,b,c,W,n,a⟩:=hcut
  go_wp2_with fail
  go_ret
  exact i.out.both.out i.out.bl n.out a.out
theorem zb0 (w wr:World)(g:Nat)(q:zl)(g2:Nat)(q2:zl)(x:Acc)(op id at_:Int)(nm:Text)(bs:List Int)(ks:zN)(vb vk:Value)(hin:vH w wr g q g2 q2 x bs vb ks vk nm)(h0:¬op=0)(h1:¬op=1)(h2:¬op=2)(h3:¬op=3)(h4:¬op=4)(h5:¬op=5)(h6:¬op=6)(h7:¬op=7)(h8:¬op=8)(h9:¬op=9)(h10:¬op=10) :
  Calls Tryz.prog 13 #[.pointer (some ⟨g,0,none⟩),.pointer (some ⟨g2,0,none⟩),.agg #[.int .i64 op,.int .i64 id,.int .i64 at_,.string ⟨nm.toArray⟩,vb,vk]] wr (ve w wr g q g2 q2 (doP x ⟨op,id,at_,nm,bs,ks⟩).1):=by
 rw[show (doP x ⟨op,id,at_,nm,bs,ks⟩).1=x from by simp[doP,h0,h1,h2,h3,h4,h5,h6,h7,h8,h9,h10]]
 have o:(op==0)=false:=by simpa using h0
 have p:(op==1)=false:=by simpa using h1
 have r:(op==2)=false:=by simpa using h2
 have s:(op==3)=false:=by simpa using h3
 have t:(op==4)=false:=by simpa using h4
 have u:(op==5)=false:=by simpa using h5
 have v:(op==6)=false:=by simpa using h6
 have y:(op==7)=false:=by simpa using h7
 have z:(op==8)=false:=by simpa using h8
 have A:(op==9)=false:=by simpa using h9
 have j:(op==10)=false:=by simpa using h10
 obtain⟨k,l,rfl,_,_⟩:=hin.boxes.form
 obtain⟨m,n,rfl,_,_⟩:=hin.keys.form
 obtain⟨f,b⟩:∃f,bs.length=f:=⟨_,rfl⟩
 obtain⟨h,c⟩:∃h,ks.length=h:=⟨_,rfl⟩
 rw[b,c] at hin ⊢
 obtain⟨i,a⟩:∃i:World,i=wr.alloc (.cells #[.int .i64 op,.int .i64 id,.int .i64 at_,.string ⟨nm.toArray⟩,.slice k f l,.slice m h n] 40):=⟨_,rfl⟩
 have d:=hin.way op id at_ nm
 rw[←a] at d
 have e:=zdG d
 rw[a] at e
 clear d hin b c a h0 h1 h2 h3 h4 h5 h6 h7 h8 h9 h10
 go_enter Tryz.func13,Tryz.ntmps13
 go_wp2_with fail
 go_ret
 exact e.out.both.still e.out.bl
theorem zaY (w wr:World)(g:Nat)(q:zl)(g2:Nat)(q2:zl)(x:Acc)(op id at_:Int)(nm:Text)(bs:List Int)(ks:zN)(vb vk:Value)(hin:vH w wr g q g2 q2 x bs vb ks vk nm) :
  Calls Tryz.prog 13 #[.pointer (some ⟨g,0,none⟩),.pointer (some ⟨g2,0,none⟩),.agg #[.int .i64 op,.int .i64 id,.int .i64 at_,.string ⟨nm.toArray⟩,vb,vk]] wr (ve w wr g q g2 q2 (doP x ⟨op,id,at_,nm,bs,ks⟩).1):=by
 by_cases b:op=0
 ·exact both_0 w wr g q g2 q2 x op id at_ nm bs ks vb vk hin b
 by_cases c:op=1
 ·exact both_1 w wr g q g2 q2 x op id at_ nm bs ks vb vk hin c
 by_cases d:op=2
 ·exact both_2 w wr g q g2 q2 x op id at_ nm bs ks vb vk hin d
 by_cases e:op=3
 ·exact both_3 w wr g q g2 q2 x op id at_ nm bs ks vb vk hin e
 by_cases f:op=4
 ·exact both_4 w wr g q g2 q2 x op id at_ nm bs ks vb vk hin f
 by_cases h:op=5
 ·exact both_5 w wr g q g2 q2 x op id at_ nm bs ks vb vk hin h
 by_cases i:op=6
 ·exact both_6 w wr g q g2 q2 x op id at_ nm bs ks vb vk hin i
 by_cases j:op=7
 ·exact both_7 w wr g q g2 q2 x op id at_ nm bs ks vb vk hin j
 by_cases k:op=8
 ·exact both_8 w wr g q g2 q2 x op id at_ nm bs ks vb vk hin k
 by_cases l:op=9
 ·exact both_9 w wr g q g2 q2 x op id at_ nm bs ks vb vk hin l
 by_cases a:op=10
 ·exact both_10 w wr g q g2 q2 x op id at_ nm bs ks vb vk hin a
 exact zb0 w wr g q g2 q2 x op id at_ nm bs ks vb vk hin b c d e f h i j k l a
end Go.Proofs.YtfhlhdmhgheonaaGreatDoor
