/-
  The walk of the reference's Append where it brings the email. Printed by gen_refapp2.py.
-/
import Derived.Test.YtfhlhdmhgheonaaGreatDoorGRA
import Derived.Test.YtfhlhdmhgheonaaGreatDoorGRD
set_option maxRecDepth 100000
set_option maxHeartbeats 8000000
namespace Go.Proofs.YtfhlhdmhgheonaaGreatDoor
open Go.Shelf Go.RowKit
attribute [local go_sem ↓] Go.wp_at_zero Go.wp_at_succ
theorem UF {B:Nat}{w w':World}(h:Below B w w')(b:Nat)(hb:B≤b)(u0 u1 u2 u3 u4 u5 u6 u7:Value):Below B w ((((((((w'.setCell ⟨b,0,none⟩ u0).setCell ⟨b,1,none⟩ u1).setCell ⟨b,2,none⟩ u2).setCell ⟨b,3,none⟩ u3).setCell ⟨b,4,none⟩ u4).setCell ⟨b,5,none⟩ u5).setCell ⟨b,6,none⟩ u6).setCell ⟨b,7,none⟩ u7):=
 (((((((h.setCell hb u0).setCell hb u1).setCell hb u2).setCell hb u3).setCell hb u4).setCell hb u5).setCell hb u6).setCell hb u7
def zcK (x:Acc)(l:List Int)(kl:List Text)(at_:Int)(t:Text)(th:Int):Acc×Int×Int:=
 ({x with clock:=x.clock+1,lastId:=x.lastId+1,boxes:=zf (x.clock+1) l (numbers l x.boxes).1,octets:=x.octets+t.length,mails:=x.mails++[⟨x.lastId+1,if th=0 then x.lastId+1 else th,t,at_,kl,(numbers l x.boxes).2,x.clock+1,x.clock+1⟩],log:=x.log.add (zn (x.clock+1) l++[⟨x.clock+1,2,x.lastId+1,1⟩,⟨x.clock+1,3,if th=0 then x.lastId+1 else th,if th=0 then 1 else 2⟩])},x.lastId+1,0)
theorem zbN (at_:Int)(w:World)(g:Nat)(q:zl)(x:Acc)(is:List Int)(vb:Value)(Sb:List Nat)(ks:zN)(vk:Value)(Sk:List Nat)(t:List UInt8)(h:xB w g q x is vb Sb ks vk Sk t)(hgood:¬(is=[]∨at_ < 0∨253402300799 < at_))(hke:(zG ks).2=0)(hwa:(rise is).any (fun id=>!zu x.boxes id)=false)(hfu1:¬x.cfg.maxMails≤(x.mails.length:Int))(hfu2:¬x.cfg.maxSize - x.octets < (t.length:Int))(hsp:(rise is).any x.spent=false)(hen:x.ends=false) :
  Calls Tryz.prog 50 #[.pointer (some ⟨g,0,none⟩),vb,vk,.int .i64 at_,.string ⟨t.toArray⟩] w (vS w g q (zq zO x is ks at_ t)):=by
 obtain⟨r,hr⟩:∃r,zq zO x is ks at_ t=r:=⟨_,rfl⟩
 rw[hr]
 obtain⟨P,de⟩:∃P,vT zO x t=P:=⟨_,rfl⟩
 have c7:r=zcK x (rise is) (zG ks).1 at_ t P:=by
  rw[←hr,←de]
  unfold zq yS
  rw[if_neg hgood,if_neg (by rw[hke];simp),if_neg (by rw[hwa];simp),if_neg (by omega),if_neg (by rw[hen,hsp];simp)]
  rfl
 have ag:=zdG c7
 have dp:=h.fit.lastId
 have dq:t.length≤2147483648:=by
  have a:=h.fit.octets
  have z:=h.fit.cfg.size
  have h3:0≤x.octets:=by
   rw[a.1]
   exact zW _
  omega
 have dr:∀m∈x.mails,m.text.length≤2147483648:=fun m hm=>by
  have a:=h.fit.octets
  have z:=h.fit.cfg.size
  have h3:=Vl hm
  omega
 have ah:x.mails.length≤1099511627776:=by
  have a:=h.fit.nm
  have z:=h.fit.clock
  have h3:=h.fit.cfg.mod
  omega
 have ds:IntKind.i64.wrap (x.lastId+1)=x.lastId+1:=IntWalk.i64_in _ (by
  have z:=h.fit.clock
  have h3:=h.fit.cfg.mod
  omega)
 have fo:=zdG dr
 have dt:=zdG ah
 have fp:=zdG dq
 have hp:=zdG dp
 have a2:=zdG (all_in hwa)
 have du:=zdG hsp
 have dv:=zdG de
 clear dp dq dr ah de
 have dw:=h.rc (all_in hwa) hsp
 have dx:=zdG dw
 have ct:=h.sc hen
 simp only[Bool.false_eq_true,if_false,Bool.not_false] at ct
 have dy:=zdG ct
 clear dw ct hsp hen
 obtain⟨A,i6,f3,_,_⟩:=h.boxes.form
 have dz:is.length≠0:=fun h0=>hgood (.inl (List.eq_nil_of_length_eq_zero h0))
 have fq:((is.length:Int)==0)=false:=by simpa using dz
 have fs:¬at_ < 0:=fun h0=>hgood (.inr (.inl h0))
 have ft:¬253402300799 < at_:=fun h0=>hgood (.inr (.inr h0))
 have cu:=h.kc
 have cv:=h.oc
 rw[f3] at cv ⊢
 rw[hke] at cu
 have d':=h.bc hwa
 obtain⟨Am,cm,gn,Q⟩:=h.room
 have e0:=h.zc
 obtain⟨nm,f4⟩:∃nm,x.mails.length=nm:=⟨_,rfl⟩
 rw[f4] at Q hfu1
 have fu:=h.fit.cfg.size
 have e3:0≤x.octets:=by
  rw[h.fit.octets.1]
  exact zW _
 have e4:=h.fit.octets.2
 have gw:IntKind.i64.wrap (x.cfg.maxSize - x.octets)=x.cfg.maxSize - x.octets:=IntWalk.i64_in _ (by omega)
 obtain⟨df,cp⟩:∃df,x.cfg.maxMails=df:=⟨_,rfl⟩
 rw[cp] at Q hfu1
 obtain⟨f5,f6⟩:∃f5,x.cfg.maxSize - x.octets=f5:=⟨_,rfl⟩
 have ai:=zdG Q
 have e5:=zdG e0
 have f1:decide (df≤(nm:Int))=false:=decide_eq_false hfu1
 have f2:decide (x.cfg.maxSize - x.octets < (t.length:Int))=false:=decide_eq_false hfu2
 clear hfu1 hfu2
 have H:=zdG h
 have e6:=zdG cu
 have e7:=zdG cv
 have e8:=zdG d'
 clear f3 h c7 hr hgood dz cu hke cv d' hwa Q e0 fu e3 e4 gn f4 cp f6
 go_enter Tryz.func50,Tryz.ntmps50
 go_upto_region 9 with(first
  |(go_at_call 118;refine e6.out.mono ?_;rintro e w1 ⟨Ak,ck,hk,rfl,f7,f8,f9⟩;have cw:=zdG f7;have bw:=zdG f8;have cx:=zdG f9;clear f7 f8 f9)
  |(go_at_call 119;refine(e7.out _ bw.out).mono ?_;rintro e w2 ⟨A3,p3,h3,rfl,fa,be,fb⟩;have cy:=zdG (za bw.out be);have bx:=zdG fa;have aj:Hid (∀b,h3=some b→w.heap.size≤b):=zdG (fun b hb=>Nat.le_trans bw.out.size (fb b hb));have ak:=zdG (cw.out.keep (fun b hb=>be.block b (cw.out.lt b hb)));clear fa be fb)
  |(go_at_call 120;refine(e8.out _ cy.out _ (bx.out.reads [] (by simp))).mono ?_;rintro e w3 ⟨rfl,bf⟩;have al:=zdG (za cy.out bf);have a3:=zdG (bx.out.keep (fun b hb=>bf.block b (bx.out.lt b hb)));have am:=zdG (ak.out.keep (fun b hb=>bf.block b (ak.out.lt b hb)));clear bf)
  |fail)
 obtain⟨c0,c2,c4⟩:=ai.out _ al.out
 go_quiet ((go_at_call 121;exact XE (e5.out _ (below_drewN' al.out _))))
 go_upto_region 14 with(first
  |(go_at_call 122;refine(dx.out _ (below_drewN' al.out _) _ ((a3.out.heap (by rfl)).reads [] (by simp))).mono ?_;rintro e w4 ⟨rfl,fc⟩;have bz:=uf fc;have j:=zdG (za al.out bz);have K:=zdG (a3.out.keep (fun b hb=>bz.block b (a3.out.lt b hb)));have an:=zdG (am.out.keep (fun b hb=>bz.block b (am.out.lt b hb)));clear fc bz)
  |(go_at_call 107;refine(dy.out _ j.out).mono ?_;rintro e w5 ⟨rfl,c5⟩;have cz:=zdG c5;have u:w5.cell? ⟨g,14,none⟩=some (.int .i64 x.lastId):=c5.at_.XG;have fv:w5.frozen? ⟨g,14,none⟩=false:=c5.at_.frozen 14;clear c5)
  |fail)
 have H4:Hid (zi w4 g q x):=zdG (H.out.at_.later j.out)
 have ao:(rise is).length≤4294967296:=by
  have a:=zY is
  have z:=H.out.nb
  omega
 have c8:=H.out.zcp
 have ca:=Zc H.out.fit.cfg H.out.fit.idsB H.out.fit.box
 generalize a8:(zG ks).1=kl at an ag
 have ap:∀k (hk:k < (rise is).length),0≤zw (numbers ((rise is).take k) x.boxes).1 (rise is)[k]∧zw (numbers ((rise is).take k) x.boxes).1 (rise is)[k]≤4294967296:=fun k hk=>
  ca ((rise is).take k) ((xV is).sublist (List.take_sublist _ _)) (fun i hi=>by
   have a:=(List.any_eq_false.1 du.out) i (List.mem_of_mem_take hi)
   have z:¬x.cfg.maxUid < zw x.boxes i:=by simpa[Acc.spent] using a
   omega) _ (a2.out _ (List.getElem_mem hk))
 generalize rise is=l at K ag a2 ao ap
 have e9:=zdG ap
 clear ap ca a8 du
 obtain⟨n,dg⟩:∃n:World,n=w5.setCell ⟨g,14,none⟩ (.int .i64 (x.lastId+1)):=⟨_,rfl⟩
 rw[←dg]
 have t7:ze w4 n g q {x with clock:=x.clock+1,lastId:=x.lastId+1} q:=by
  rw[dg]
  exact cz.out.trans (cz.out.at_.yj 14 (.int .i64 (x.lastId+1)) {x with clock:=x.clock+1,lastId:=x.lastId+1} rfl rfl rfl rfl)
 have T7:=zdG t7
 clear dg t7 u fv ai e5 dx dy e7 e8 e6 bw cy al cw ak am bx a3 cz c0 c2 c4 f1 f2 fq fs ft gw ds
 have cb:∀W,Below n.heap.size n W→Calls Tryz.prog 123 #[.pointer (some ⟨g,0,none⟩),.string ⟨t.toArray⟩] W fun e w'=>e=.returned (.int .i64 P)∧Below W.heap.size W w':=fun W hb=>by
  have a:=QI W g q {x with clock:=x.clock+1,lastId:=x.lastId+1} (T7.out.at_.later hb) dt.out fo.out t fp.out
  have z:vT zO {x with clock:=x.clock+1,lastId:=x.lastId+1} t=P:=dv.out
  rw[z] at a
  exact a
 have aq:=zdG cb
 have hK:∀W,Below n.heap.size n W→W.cell? ⟨g,14,none⟩=some (.int .i64 (x.lastId+1))∧W.cell? ⟨g,9,none⟩=some (.int .i64 (x.clock+1)):=fun W hb=>⟨(T7.out.at_.later hb).XG,(T7.out.at_.later hb).yo⟩
 have s:=zdG hK
 obtain⟨u,R⟩:=hK n (Below.refl _ _)
 clear cb hK
 go_cut [15] (fun p wx=>∃B,p=.pointer (some ⟨B,0,none⟩)∧Hid (ze w4 wx g q {x with clock:=x.clock+1,lastId:=x.lastId+1} q)∧Hid (Blk wx B 54 #[.int .i64 (x.lastId+1),.int .i64 P,.string ⟨t.toArray⟩,.int .i64 at_,.slice Ak kl.length ck,.slice none 0 0,.int .i64 (x.clock+1),.int .i64 (x.clock+1)])∧Hid (w4.heap.size≤B))
 case first=>
  have c':g < n.heap.size:=T7.out.at_.blk.lt
  have ea:=(World.cell?_alloc_lt n (.cells #[.int .i64 0,.int .i64 0,.string ⟨#[]⟩,.int .i64 0,.slice none 0 0,.slice none 0 0,.int .i64 0,.int .i64 0] 54) ⟨g,14,none⟩ c').trans u
  have fw:=(World.cell?_alloc_lt n (.cells #[.int .i64 0,.int .i64 0,.string ⟨#[]⟩,.int .i64 0,.slice none 0 0,.slice none 0 0,.int .i64 0,.int .i64 0] 54) ⟨g,9,none⟩ c').trans R
  go_region_held3 (fun W=>W.cell? ⟨g,14,none⟩=some (.int .i64 (x.lastId+1))∧W.cell? ⟨g,9,none⟩=some (.int .i64 (x.clock+1))) (first|(refine⟨?_,?_⟩ <;> first|(with_reducible exact(s.out _ G.out).1)|(with_reducible exact(s.out _ G.out).2)|(with_reducible exact(s.out _ (zb _)).1)|(with_reducible exact(s.out _ (zb _)).2)|(with_reducible exact(s.out _ (Below.refl _ _)).1)|(with_reducible exact(s.out _ (Below.refl _ _)).2)|(with_reducible exact(s.out _ (za G.out (below_alloc1 _ _))).1)|(with_reducible exact(s.out _ (za G.out (below_alloc1 _ _))).2)|(with_reducible exact(s.out _ (za (below_alloc1 _ _) (zb _))).1)|(with_reducible exact(s.out _ (za (below_alloc1 _ _) (zb _))).2)|(with_reducible exact(s.out _ (below_alloc1 _ _)).1)|(with_reducible exact(s.out _ (below_alloc1 _ _)).2)|(with_reducible exact(s.out _ (UF G.out B0 (Nat.le_of_eq d1.out) _ _ _ _ _ _ _ _)).1)|(with_reducible exact(s.out _ (UF G.out B0 (Nat.le_of_eq d1.out) _ _ _ _ _ _ _ _)).2))|fail) (first
   |(go_at_call 123;(refine(aq.out _ (by with_reducible exact zb _)).mono ?_);rintro e E ⟨rfl,bg⟩;have G:Hid (Below n.heap.size n E):=zdG (yV bg);clear bg)
   |(go_at_call 123;(refine(aq.out _ (by with_reducible exact za (below_alloc1 _ _) (zb _))).mono ?_);rintro e E ⟨rfl,bg⟩;have d0:=yV bg;have L:=(Blk.new n 54 #[.int .i64 0,.int .i64 0,.string ⟨#[]⟩,.int .i64 0,.slice none 0 0,.slice none 0 0,.int .i64 0,.int .i64 0]).below d0 (by simp);have z0:E.cell? ⟨n.heap.size,0,none⟩=some (.int .i64 0):=L.cell 0;have fx:=L.frozen 0;have z1:E.cell? ⟨n.heap.size,1,none⟩=some (.int .i64 0):=L.cell 1;have fy:=L.frozen 1;have z2:E.cell? ⟨n.heap.size,2,none⟩=some (.string ⟨#[]⟩):=L.cell 2;have fz:=L.frozen 2;have z3:E.cell? ⟨n.heap.size,3,none⟩=some (.int .i64 0):=L.cell 3;have f':=L.frozen 3;have z4:E.cell? ⟨n.heap.size,4,none⟩=some (.slice none 0 0):=L.cell 4;have g0:=L.frozen 4;have z5:E.cell? ⟨n.heap.size,5,none⟩=some (.slice none 0 0):=L.cell 5;have g1:=L.frozen 5;have z6:E.cell? ⟨n.heap.size,6,none⟩=some (.int .i64 0):=L.cell 6;have g2:=L.frozen 6;have z7:E.cell? ⟨n.heap.size,7,none⟩=some (.int .i64 0):=L.cell 7;have g3:=L.frozen 7;have G:Hid (Below n.heap.size n E):=zdG (za (below_alloc1 _ _) d0);have HZ:=zdG L;clear bg d0 L;obtain⟨B0,dh⟩:∃B0,n.heap.size=B0:=⟨_,rfl⟩;rw[dh] at z0 fx z1 fy z2 fz z3 f' z4 g0 z5 g1 z6 g2 z7 g3 ⊢;have d1:=zdG dh;clear dh u R ea fw c')
   |fail)
  all_goals
   go_wp2_with fail
   go_meet
   first
   |(have L:=HZ.out;have g4:=d1.out;subst g4;exact⟨n.heap.size,rfl,zdG ((T7.out.zL G.out).newer H4.out (S:=[n.heap.size]) (((((((((Chg.refl [n.heap.size] E).set (.inl (by simp)) _).set (.inl (by simp)) _).set (.inl (by simp)) _).set (.inl (by simp)) _).set (.inl (by simp)) _).set (.inl (by simp)) _).set (.inl (by simp)) _).set (.inl (by simp)) _) (fun k hk=>by simp at hk;have a:=T7.out.chg.size;omega)),zdG ((((((((L.set 0 _).set 1 _).set 2 _).set 3 _).set 4 _).set 5 _).set 6 _).set 7 _),zdG T7.out.chg.size⟩)
   |exact⟨E.heap.size,rfl,zdG ((T7.out.zL G.out).zL (below_alloc1 _ _)),zdG (Blk.new E _ _),zdG (by have a:=T7.out.chg.size;have z:=G.out.size;omega)⟩
 case rest=>
  obtain⟨B,rfl,T8,BM,U⟩:=hcut
  obtain⟨wm,rfl⟩:∃wm:World,wm=wc:=⟨_,rfl⟩
  have b1:wm.cell? ⟨B,1,none⟩=some (.int .i64 P):=BM.out.cell 1
  have g5:wm.frozen? ⟨B,1,none⟩=false:=BM.out.frozen 1
  have g6:wm.cell? ⟨g,14,none⟩=some (.int .i64 (x.lastId+1)):=T8.out.at_.XG
  clear u R aq s T7
  go_upto_if 108 with(fail)
  go_cut [16] (fun hw wx=>hw=.int .i64 (if P=0 then 1 else 2)∧Hid (Chg [B] wm wx)∧Hid (Blk wx B 54 #[.int .i64 (x.lastId+1),.int .i64 (if P=0 then x.lastId+1 else P),.string ⟨t.toArray⟩,.int .i64 at_,.slice Ak kl.length ck,.slice none 0 0,.int .i64 (x.clock+1),.int .i64 (x.clock+1)]))
  case first=>
   by_cases h0:P=0
   ·subst h0
    go_wp2_with fail
    go_meet
    exact⟨rfl,zdG ((Chg.refl [B] wm).set (.inl (by simp)) _),zdG (BM.out.set 1 _)⟩
   ·have hq:(P==0)=false:=by simpa using h0
    have e1:(if P=0 then (1:Int) else 2)=2:=if_neg h0
    have e2:(if P=0 then x.lastId+1 else P)=P:=if_neg h0
    have E1:=zdG e1
    have E2:=zdG e2
    clear e1 e2
    go_wp2_with fail
    go_meet
    exact⟨by rw[E1.out],zdG (Chg.refl _ _),zdG (by rw[E2.out];exact BM.out)⟩
  case rest=>
   obtain⟨rfl,fd,fe⟩:=hcut
   obtain⟨wn,rfl⟩:∃wn:World,wn=wc:=⟨_,rfl⟩
   obtain⟨c,bh⟩:∃c,(if P=0 then x.lastId+1 else P)=c:=⟨_,rfl⟩
   obtain⟨bi,bj⟩:∃bi:Int,(if P=0 then (1:Int) else 2)=bi:=⟨_,rfl⟩
   rw[bh] at fe
   rw[bj]
   have g7:=zdG bh
   have eb:=zdG bj
   have T9:Hid (ze w4 wn g q {x with clock:=x.clock+1,lastId:=x.lastId+1} q):=zdG (T8.out.newer H4.out fd.out (fun k hk=>by simp at hk;have:=U.out;omega))
   have g8:=zdG (K.out.zI aj.out H.out.at_ T9.out.chg)
   clear b1 g5 g6 fd BM T8 bh bj
   obtain⟨i0,hi,go,gp,gq⟩:=info_parts Try.infoMember2
   obtain⟨f,c6⟩:∃f,l.length=f:=⟨_,rfl⟩
   rw[c6] at K g8 ⊢
   have V:=zdG c6
   have hd:f≤4294967296:=by rw[←c6];exact ao
   have g9:Hid (Xk w w4 wn g q {x with clock:=x.clock+1,lastId:=x.lastId+1} l B (.int .i64 (x.lastId+1)) (.int .i64 c) (.string ⟨t.toArray⟩) (.int .i64 at_) (.slice Ak kl.length ck) (.int .i64 (x.clock+1)) (.int .i64 (x.clock+1)) 0 (.slice none 0 0)):=zdG ⟨by
    have a:=(ze.of_below H.out.at_ j.out).trans T9.out
    exact a,T9.out.chg,fe.out,⟨none,Sl.nil _ _ _,fun b hb=>by cases hb⟩⟩
   clear c6
   go_upto_block 1 with(fail)
   go_cut [] (fun wx=>∃A9 R,Hid (Xk w w4 wx g q {x with clock:=x.clock+1,lastId:=x.lastId+1} l B (.int .i64 (x.lastId+1)) (.int .i64 c) (.string ⟨t.toArray⟩) (.int .i64 at_) (.slice Ak kl.length ck) (.int .i64 (x.clock+1)) (.int .i64 (x.clock+1)) f (.slice A9 f R)))
   case first=>
    go_wp2_with fail
    go_loopw [17] (fun i wr=>∃(k:Nat) (A9:Option Addr) (R:Nat),k≤f∧i=.int .i64 k∧Hid (Xk w w4 wr g q {x with clock:=x.clock+1,lastId:=x.lastId+1} l B (.int .i64 (x.lastId+1)) (.int .i64 c) (.string ⟨t.toArray⟩) (.int .i64 at_) (.slice Ak kl.length ck) (.int .i64 (x.clock+1)) (.int .i64 (x.clock+1)) k (.slice A9 k R))) (fun i _=>f - (intOf i).toNat)
    case atStart=>exact⟨0,none,0,Nat.zero_le _,rfl,g9⟩
    case round=>
     obtain⟨k,A9,R,hk,rfl,F⟩:=hrel
     by_cases gm:k < f
     ·have a8:k < l.length:=by rw[V.out];exact gm
      have ga:(k:Int) < (f:Int):=by omega
      have hs:(0:Int)≤(k:Int):=by omega
      have ht:IntKind.i64.wrap ((k:Int)+1)=(k:Int)+1:=IntWalk.i64_in _ (by omega)
      obtain⟨b3,bk,gr,ff,di,_,_,be,fg⟩:=K.out.at_ (by omega)
      injection di with hv1 hv2 di
      subst hv1 di
      clear hv2
      have hS:=K.out.zI aj.out H.out.at_ F.out.ch
      obtain⟨b4,ho,gs,_,gu,_,_,bf,cq⟩:=hS.at_ (by omega)
      injection gu with hv5 hv6 hv7
      injection hv5 with hv8
      injection hv8 with hv9 hv10
      subst hv9 hv10
      have cs:wr.cell? ⟨b3,bk+k,none⟩=some (.int .i64 l[k]):=(cq k (by omega)).1.trans (by simp[a8])
      have hid:l[k]∈ids (numbers (l.take k) x.boxes).1:=by
       rw[xH]
       exact a2.out _ (List.getElem_mem a8)
      have ec:=e9.out k a8
      have cc:=fun W (hb:Below wr.heap.size wr W)=>JC W g q _ (F.out.st.at_.later hb) (by
       show (numbers (l.take k) x.boxes).1.length≤_
       rw[yO]
       exact c8) l[k] hid ec
      obtain⟨hh,ac,ad⟩:=F.out.mem
      have gb:=zdG ac
      have ed:=zdG ad
      have cB:wr.cell? ⟨B,5,none⟩=some (.slice A9 k R):=F.out.blk.cell 5
      have fB:wr.frozen? ⟨B,5,none⟩=false:=F.out.blk.frozen 5
      have a9:B < wr.heap.size:=F.out.blk.lt
      obtain⟨id,a4⟩:∃id,l[k]=id:=⟨_,rfl⟩
      obtain⟨bl,bm⟩:∃bl,zw (numbers (l.take k) x.boxes).1 l[k]=bl:=⟨_,rfl⟩
      have C:∀W,Below wr.heap.size wr W→Calls Tryz.prog 124 #[.pointer (some ⟨g,0,none⟩),.int .i64 id] W fun e w'=>e=.returned (.int .i64 bl)∧ze W w' g q {{x with clock:=x.clock+1,lastId:=x.lastId+1} with boxes:=bump l[k] (numbers (l.take k) x.boxes).1} q:=fun W hb=>by
       have a:=cc W hb
       rw[←a4,←bm]
       exact a
      have cd:b3∉q.own g:=fun hm=>by
       have a:=H.out.at_.lt b3 hm
       have z:=aj.out b3 ff
       omega
      have cf:b3 < wr.heap.size:=Nat.lt_of_lt_of_le be F.out.ch.size
      have ee:=zdG cd
      have ef:=zdG cf
      have eg:=zdG C
      have cg:=zdG a4
      rw[a4] at cs
      have eh:=zdG bm
      clear fg cq hS cc C ac ad a4 bm ec hid hv6 hv7 cd cf ff
      go_wp2_with fail
      go_region_law (first
       |(refine zF (by rfl) (by rfl) (enters_of Tryz.func124 (by kernel_rfl) rfl) (by simp[Act.eval]) (eg.out _ (zb _)) ?_;rintro e E ⟨rfl,fh⟩;refine⟨_,rfl,?_⟩;have X:Hid (ze wr E g q {{x with clock:=x.clock+1,lastId:=x.lastId+1} with boxes:=bump l[k] (numbers (l.take k) x.boxes).1} q):=zdG ((ze.of_below F.out.st.at_ (zb _)).trans fh);have d2:=zdG (gb.out.zI (fun b hb=>Nat.le_trans j.out.size (ed.out b hb)) H.out.at_ X.out.chg);have gc:E.cell? ⟨B,5,none⟩=some (.slice A9 k R):=(F.out.blk.zI (Nat.le_trans j.out.size U.out) H.out.at_ X.out.chg).cell 5;have gd:E.frozen? ⟨B,5,none⟩=false:=(F.out.blk.zI (Nat.le_trans j.out.size U.out) H.out.at_ X.out.chg).frozen 5;have ei:B < E.heap.size:=Nat.lt_of_lt_of_le a9 X.out.chg.size;have ej:B∉hh.toList:=(fun hm=>d2.out.yN (F.out.blk.zI (Nat.le_trans j.out.size U.out) H.out.at_ X.out.chg) (by decide) B (by simpa using hm) rfl);have hu:E.cell? ⟨b3,bk+k,none⟩=some (.int .i64 id):=(X.out.chg.cell (p:=⟨b3,bk+k,none⟩) ef.out ee.out).trans cs;clear fh)
       |(refine zx _ (by rfl) (.tmp 121) (.tmp 133) _ (by rfl) Tryz.underlying52 hi go gp gq rfl (by omega) (d2.out.alloc _) (by simp[Act.eval]) E.heap.size #[.int .i64 id,.int .i64 bl] (e':=56) (fr:=(0,0)) (heap_alloc_new E _) 1 1 (by simp[Act.eval]) (by rfl) (by simp[Value.oneCell']) (by unfold maxLen;omega) (by omega) ?_;intro v2 z w9 a0 o bn;obtain⟨dj,dk,rfl,_,_⟩:=a0.form;have hv:w9.frozen? ⟨B,5,none⟩=false:=(o.frozen (p:=⟨B,5,none⟩) (by simp;omega) ej).trans ((World.frozen?_alloc_past _ _ _ ei).trans gd);have hx:w9.cell? ⟨B,5,none⟩=some (.slice A9 k R):=(o.cell (p:=⟨B,5,none⟩) (by simp;omega) ej).trans ((World.cell?_alloc_past _ _ _ ei).trans gc))
       |fail)
      all_goals
       have ci:=zdG (F.out.next (mv':=.slice dj (k+1) dk) H.out.at_ U.out j.out.size a8 (X.out.zL (below_alloc1 _ _)) (d2.out.alloc _) ed.out (by rw[cg.out,show zw (numbers (l.take k) x.boxes).1 id=bl from by rw[←cg.out];exact eh.out];exact a0) o bn)
       clear a0 o bn
       go_wp2_with fail
       refine⟨?_,by simp[intOf];omega⟩
       first|exact⟨k+1,_,_,by omega,by go_num,ci⟩|((repeat apply Exists.intro);exact⟨⟨k+1,_,_,by omega,by go_num,ci⟩,rfl⟩)
     ·have gf:k=f:=by omega
      subst gf
      have ga:¬(k:Int) < (k:Int):=by omega
      go_wp2_with fail
      go_meet
      exact⟨A9,R,F⟩
   case rest=>
    obtain⟨A9,R,F⟩:=hcut
    obtain⟨we,rfl⟩:∃we:World,we=wc:=⟨_,rfl⟩
    have d3:l.take f=l:=List.take_of_length_le (by rw[V.out];exact Nat.le_refl _)
    have ar:ze w we g q {{x with clock:=x.clock+1,lastId:=x.lastId+1} with boxes:=(numbers l x.boxes).1} q:=by
     have a:=F.out.st
     rw[d3] at a
     exact a
    have ek:=zdG ar
    have d4:=K.out.zI aj.out H.out.at_ F.out.ch
    have i1:=zdG d4
    have au:Calls Tryz.prog 125 #[.pointer (some ⟨g,0,none⟩),.slice A3 f p3] we fun e w'=>∃Ae ce he,e=.returned (.slice Ae f ce)∧Sl w' 177 4 (.slice Ae f ce) he f (zM (zn (x.clock+1) l))∧(∀b,he=some b→we.heap.size≤b)∧ze we w' g q {{x with clock:=x.clock+1,lastId:=x.lastId+1} with boxes:=zf (x.clock+1) l (numbers l x.boxes).1} q:=by
     have a:=Xc we g q {{x with clock:=x.clock+1,lastId:=x.lastId+1} with boxes:=(numbers l x.boxes).1} ar.at_ (by
      show (numbers l x.boxes).1.length≤_
      rw[yO]
      exact c8) l (.slice A3 f p3) (by
      rw[V.out]
      exact d4.reads (q.own g) (fun b hb hm=>by
       have a:=H.out.at_.lt b hm
       have z:=aj.out b hb
       omega)) (by rw[V.out];omega) (fun i hi=>by
      show i∈ids (numbers l x.boxes).1
      rw[xH]
      exact a2.out i hi)
     refine a.mono ?_
     rintro e w' ⟨v',gv,rfl,dl,gx,gy⟩
     rw[V.out] at dl
     obtain⟨Ae,ce,rfl,_,_⟩:=dl.form
     exact⟨Ae,ce,gv,rfl,dl,gx,gy⟩
    have av:=zdG au
    clear ar d4 au
    go_upto_region 24 with(first
     |(go_at_call 125;refine av.out.mono ?_;rintro e D ⟨Ae,ce,he,rfl,fi,fj,fk⟩;have d5:=zdG fi;have el:=zdG fj;have aw:=zdG fk;clear fi fj fk)
     |fail)
    obtain⟨x3,bo⟩:∃x3:Acc,x3={{x with clock:=x.clock+1,lastId:=x.lastId+1} with boxes:=zf (x.clock+1) l (numbers l x.boxes).1}:=⟨_,rfl⟩
    have aa:ze w D g q x3 q:=by
     rw[bo]
     exact ek.out.trans aw.out
    have em:Chg (q.own g) w4 D:=F.out.ch.trans aw.out.chg (fun i hi=>.inl hi)
    obtain⟨gz,ac,ad⟩:=F.out.mem
    rw[d3] at ac
    have I:=F.out.blk.zI (Nat.le_trans j.out.size U.out) H.out.at_ aw.out.chg
    have ax:=ac.zI (fun b hb=>Nat.le_trans j.out.size (ad b hb)) H.out.at_ aw.out.chg
    have d6:=an.out.zI cx.out H.out.at_ em
    obtain⟨mm,a5⟩:∃mm:zR,mm=⟨⟨x.lastId+1,c,t,at_,kl,(numbers l x.boxes).2,x.clock+1,x.clock+1⟩,.slice Ak kl.length ck,.slice A9 f R⟩:=⟨_,rfl⟩
    have C:(numbers l x.boxes).2.length=f:=by rw[uz,V.out]
    have ay:yD D (q.own g) mm:=by
     rw[a5]
     refine⟨d6.reads _ (fun b hb hm=>?_),?_,d6.ty,ax.ty⟩
     ·have a:=H.out.at_.lt b hm
      have z:=cx.out b hb
      omega
     ·have h3:Sl D 56 2 (.slice A9 f R) gz (numbers l x.boxes).2.length (zk zA (numbers l x.boxes).2):=by
       rw[C]
       exact ax
      refine h3.reads _ (fun b hb hm=>?_)
      have a:=H.out.at_.lt b hm
      have z:=ad b hb
      have h4:=j.out.size
      omega
    have en:xP mm=[.int .i64 (x.lastId+1),.int .i64 c,.string ⟨t.toArray⟩,.int .i64 at_,.slice Ak kl.length ck,.slice A9 f R,.int .i64 (x.clock+1),.int .i64 (x.clock+1)]:=by
     rw[a5]
     rfl
    have eo:mm.p=⟨x.lastId+1,c,t,at_,kl,(numbers l x.boxes).2,x.clock+1,x.clock+1⟩:=by rw[a5]
    obtain⟨dm,dn,bp,_,_⟩:=H.out.at_.mails.form
    have b':x3.mails=x.mails:=by rw[bo]
    have d7:Sl D 54 8 (.slice dm x.mails.length dn) q.hm x.mails.length (zk xP q.ms):=by
     rw[←bp,←b']
     exact aa.at_.mails
    obtain⟨a1,a6⟩:∃a1,x.mails.length=a1:=⟨_,rfl⟩
    rw[a6] at d7
    have ah:a1≤4294967296:=by
     have a:=H.out.fit.nm
     have z:=H.out.fit.clock
     have h3:=H.out.fit.cfg.mod
     omega
    have c0:D.cell? ⟨g,11,none⟩=some (.slice dm a1 dn):=by
     rw[←a6,←bp]
     exact aa.at_.zU
    have ep:D.frozen? ⟨g,11,none⟩=false:=aa.at_.frozen 11
    have d8:g < D.heap.size:=aa.at_.blk.lt
    have b0:D.cell? ⟨B,0,none⟩=some (.int .i64 (x.lastId+1)):=I.cell 0
    have b1:D.cell? ⟨B,1,none⟩=some (.int .i64 c):=I.cell 1
    have b2:D.cell? ⟨B,2,none⟩=some (.string ⟨t.toArray⟩):=I.cell 2
    have b3:D.cell? ⟨B,3,none⟩=some (.int .i64 at_):=I.cell 3
    have b4:D.cell? ⟨B,4,none⟩=some (.slice Ak kl.length ck):=I.cell 4
    have b5:D.cell? ⟨B,5,none⟩=some (.slice A9 f R):=I.cell 5
    have b6:D.cell? ⟨B,6,none⟩=some (.int .i64 (x.clock+1)):=I.cell 6
    have b7:D.cell? ⟨B,7,none⟩=some (.int .i64 (x.clock+1)):=I.cell 7
    obtain⟨j0,hj,g',h5,h6⟩:=info_parts Try.infoMail
    have er:=zdG d7
    have c1:=zdG aa
    have az:=zdG ay
    have et:=zdG en
    have gg:=zdG eo
    have eu:=zdG I
    have gh:=zdG (b' ▸ a6:x3.mails.length=a1)
    have d9:=zdG bo
    have hf:=zdG b'
    have da:g∉q.hm.toList:=fun hm=>c1.out.at_.apart.hm (by simpa using hm)
    have gi:Hid (B∉q.own g):=zdG (fun hm=>by
     have a:=H.out.at_.lt B hm
     have z:=j.out.size
     have h3:=U.out
     omega)
    have c3:Hid (∀b,he=some b→b≠B∧w.heap.size≤b):=zdG (fun b hb=>by
     have a:=el.out b hb
     have z:=F.out.blk.lt
     have h3:=F.out.ch.size
     have h4:=j.out.size
     omega)
    clear d7 aa ay en eo I d6 ac ax ad a5 d3 a6 bp C F an cx e9 b' em av
    go_cut [] (fun wx=>∃q',Hid (ze w wx g q {x3 with mails:=x.mails++[mm.p]} q')∧Hid (Chg (q.own g) D wx)∧Hid (∀b,b < D.heap.size→b∉q.own g→b∉q'.own g))
    case first=>
     subst bo
     go_region_law (first
      |(refine zx _ (by rfl) (.tmp 143) (.tmp 145) _ (by rfl) Tryz.underlying43 hj g' h5 h6 rfl (by omega) ((er.out.alloc _).heap (by rfl)) (by first|(simp[Act.eval];done)|simp[Act.eval,Act.put]) D.heap.size #[.int .i64 (x.lastId+1),.int .i64 c,.string ⟨t.toArray⟩,.int .i64 at_,.slice Ak kl.length ck,.slice A9 f R,.int .i64 (x.clock+1),.int .i64 (x.clock+1)] (e':=54) (fr:=(0,0)) (heap_alloc_new D _) 1 1 (by first|(simp[Act.eval];done)|simp[Act.eval,Act.put]) (by rfl) (by simp[Value.oneCell']) (by unfold maxLen;omega) (by omega) ?_;intro v2 z w9 a0 o bn;obtain⟨dj,dk,rfl,_,_⟩:=a0.form;have i2:w9.cell? ⟨g,11,none⟩=some (.slice dm a1 dn):=(o.cell (p:=⟨g,11,none⟩) (by simp;omega) da).trans ((World.cell?_alloc_past _ _ _ d8).trans c0);have i3:w9.frozen? ⟨g,11,none⟩=false:=(o.frozen (p:=⟨g,11,none⟩) (by simp;omega) da).trans ((World.frozen?_alloc_past _ _ _ d8).trans ep))
      |fail)
     all_goals
      have a':=(c1.out.at_.alloc (.cells #[.int .i64 (x.lastId+1),.int .i64 c,.string ⟨t.toArray⟩,.int .i64 at_,.slice Ak kl.length ck,.slice A9 f R,.int .i64 (x.clock+1),.int .i64 (x.clock+1)] 54)).U8 mm (az.out.step (Chg.of_below (below_alloc1 D _) _) (fun k hk=>.inl hk)) (v':=.slice dj (a1+1) dk) (h':=z) (w':=w9) (by
       rw[gh.out,et.out]
       exact a0) ⟨o.os,o.tape,o.output,o.size,o.block⟩ bn
      have Y:=zdG a'
      clear a' a0 o bn
      go_wp2_with fail
      go_meet
      exact⟨_,zdG ((c1.out.zL (below_alloc1 D _)).trans Y.out),zdG (((Chg.refl _ D).alloc _).trans Y.out.chg (fun i hi=>.inl hi)),zdG (fun b hb hn hm=>by
       rcases Y.out.own b hm with a|a
       ·exact hn a
       ·rw[World.size_alloc] at a
        omega)⟩
    case rest=>
     clear bo
     obtain⟨q',ae,fl,fm⟩:=hcut
     obtain⟨J,rfl⟩:∃J:World,J=wc:=⟨_,rfl⟩
     obtain⟨x4,bq⟩:∃x4:Acc,x4={x3 with mails:=x.mails++[mm.p]}:=⟨_,rfl⟩
     rw[←bq] at ae
     have ab:=eu.out.zI (Nat.le_trans j.out.size U.out) H.out.at_ fl.out
     have ev:Sl J 177 4 (.slice Ae f ce) he f (zM (zn (x.clock+1) l)):=d5.out.zI (fun b hb=>(c3.out b hb).2) H.out.at_ fl.out
     have cj:x4.clock=x.clock+1:=by rw[bq,d9.out]
     have db:x4.log=x.log:=by rw[bq,d9.out]
     have hK:∀W,Below J.heap.size J W→W.cell? ⟨B,0,none⟩=some (.int .i64 (x.lastId+1))∧W.cell? ⟨B,1,none⟩=some (.int .i64 c):=fun W hb=>⟨(hb.cell (p:=⟨B,0,none⟩) ab.lt).trans (ab.cell 0),(hb.cell (p:=⟨B,1,none⟩) ab.lt).trans (ab.cell 1)⟩
     have hS:∀W,Below J.heap.size J W→Sl W 177 4 (.slice Ae f ce) he f (zM (zn (x.clock+1) l)):=fun W hb=>ev.chg (Chg.of_below hb []) (by simp)
     have hE:∀W,Below J.heap.size J W→∀k i h,Calls Tryz.prog 109 #[.pointer (some ⟨g,0,none⟩),.int .i64 k,.int .i64 i,.int .i64 h] W fun e w'=>e=.returned (.agg #[.int .i64 (x.clock+1),.int .i64 k,.int .i64 i,.int .i64 h])∧Below W.heap.size W w':=fun W hb k i h=>by
      have h0:=vK W g q' x4 k i h (ae.out.at_.later hb)
      rw[cj] at h0
      exact h0
     have ew:∀b,he=some b→b∉q'.own g:=fun b hb hm=>by
      have a:=d5.out.lt b hb
      refine fm.out b a (fun hm2=>?_) hm
      have z:=H.out.at_.lt b hm2
      have h3:=(c3.out b hb).2
      omega
     have ex:B∉q'.own g:=fun hm=>fm.out B eu.out.lt gi.out hm
     have b8:1≤x4.log.most∧x4.log.most≤1099511627776∧x4.log.es.length≤1099511627776:=by
      rw[db]
      have a:=H.out.fit.log
      have z:=H.out.fit.cfg.log
      rw[a.1]
      omega
     obtain⟨k0,k1⟩:=hK J (Below.refl _ _)
     have a9:B < J.heap.size:=ab.lt
     have b9:B∉he.toList:=fun hm=>(c3.out B (by simpa using hm)).1 rfl
     obtain⟨y0,hy,h7,h8,h9⟩:=info_parts Try.infoEntry
     have s:=zdG hK
     have dc:=zdG hS
     have HE:=zdG hE
     have ey:=zdG ew
     have gj:=zdG ex
     have Z:=zdG b8
     have gk:=zdG bq
     have i4:=zdG db
     clear hK hS hE ew ex b8 ab ev cj db bq c0 ep d8 da b0 b1 b2 b3 b4 b5 b6 b7 er az et c1 d5 el aw
     go_upto_region 25 with(fail)
     go_cut [18] (fun v wx=>∃af u T,v=.slice af (f+2) u∧Hid (Sl wx 177 4 (.slice af (f+2) u) T (f+2) (zM (zn (x.clock+1) l++[⟨x.clock+1,2,x.lastId+1,1⟩,⟨x.clock+1,3,c,bi⟩]))∧Chg he.toList J wx∧(T=he∨∃b,T=some b∧J.heap.size≤b)))
     case first=>
      go_region_held3 (fun W=>W.cell? ⟨B,0,none⟩=some (.int .i64 (x.lastId+1))∧W.cell? ⟨B,1,none⟩=some (.int .i64 c))
       (first
        |exact ba.out
        |exact s.out _ (za d.out (below_alloc1 _ _))
        |exact s.out _ d.out
        |exact s.out _ M.out
        |exact s.out _ (za M.out (zb _))
        |exact s.out _ (Below.refl _ _)
        |exact s.out _ (zb _)
        |go_keep)
       (first
        |(go_at_call 109;refine(HE.out _ (by first|exact M.out|exact za M.out (zb _)) _ _ _).mono ?_;rintro e br ⟨rfl,bs⟩;have d:Hid (Below J.heap.size J br):=zdG (by first|exact za M.out bs|exact za (za M.out (zb _)) bs);have kk:=s.out _ d.out;have hg:=World.new_ne br _ kk.1;have hl:=World.new_ne br _ kk.2;clear bs kk)
        |(go_at_call 109;refine(HE.out _ (by first|exact Below.refl _ _|exact zb _) _ _ _).mono ?_;rintro e ha ⟨rfl,bt⟩;have M:Hid (Below J.heap.size J ha):=zdG (by first|exact bt|exact za (zb J) bt);clear bt)
        |(refine zx _ (by rfl) (.tmp 149) (.tmp 159) _ (by rfl) Tryz.underlying102 hy h7 h8 h9 rfl (by omega) (dc.out _ (za d.out (below_alloc1 _ _))) (by first|(simp[Act.eval];done)|simp[Act.eval,Act.put]) br.heap.size #[.int .i64 (x.clock+1),.int .i64 2,.int .i64 (x.lastId+1),.int .i64 1,.int .i64 (x.clock+1),.int .i64 3,.int .i64 c,.int .i64 bi] (e':=177) (fr:=(0,0)) (heap_alloc_new br _) 2 2 (by first|(simp[Act.eval];done)|simp[Act.eval,Act.put]) (by rfl) (by simp[Value.oneCell']) (by unfold maxLen;omega) (by omega) ?_;intro v2 T y bu a7 cr;obtain⟨af,u,rfl,_,_⟩:=bu.form;have ba:Hid (y.cell? ⟨B,0,none⟩=some (.int .i64 (x.lastId+1))∧y.cell? ⟨B,1,none⟩=some (.int .i64 c)):=zdG ⟨(a7.cell (p:=⟨B,0,none⟩) (Nat.lt_of_lt_of_le a9 (za d.out (below_alloc1 _ _)).size) b9).trans (s.out _ (za d.out (below_alloc1 _ _))).1,(a7.cell (p:=⟨B,1,none⟩) (Nat.lt_of_lt_of_le a9 (za d.out (below_alloc1 _ _)).size) b9).trans (s.out _ (za d.out (below_alloc1 _ _))).2⟩)
        |fail)
      all_goals
       have bb:Hid (Sl y 177 4 (.slice af (f+2) u) T (f+2) (zM (zn (x.clock+1) l++[⟨x.clock+1,2,x.lastId+1,1⟩,⟨x.clock+1,3,c,bi⟩]))∧Chg he.toList J y∧(T=he∨∃b,T=some b∧J.heap.size≤b)):=zdG ⟨by
        rw[zP]
        exact bu,(Chg.of_below (za d.out (below_alloc1 _ _)) _).trans a7 (fun i hi=>.inl hi),by
        rcases cr with a|⟨b,a,z⟩
        ·exact .inl a
        ·exact .inr ⟨b,a,Nat.le_trans (za d.out (below_alloc1 _ _)).size z⟩⟩
       clear bu a7 cr
       go_wp2_with fail
       go_meet
       exact⟨af,u,T,rfl,bb⟩
     case rest=>
      obtain⟨af,u,T,rfl,N⟩:=hcut
      obtain⟨y,rfl⟩:∃y:World,y=wc:=⟨_,rfl⟩
      have O:zi y g q' x4:=zi.chgE ae.out.at_ (dc.out J (Below.refl _ _)) ey.out N.out.2.1
      have cl:ze w y g q x4 q':=⟨O,ae.out.chg.trans N.out.2.1 (fun k hk=>.inr ((c3.out k (by simpa using hk)).2)),ae.out.own⟩
      have cn:=Yh O Z.out.1 Z.out.2.1 Z.out.2.2 N.out.1 (by
       rw[List.length_append,yC,V.out]
       rfl) (by omega) (fun b hb hm=>by
       rcases N.out.2.2 with a|⟨b2,a,z⟩
       ·exact ey.out b (by rw[←a];exact hb) hm
       ·rw[a] at hb
        injection hb with hb
        have:=ae.out.at_.lt b hm
        omega)
      have i5:y.cell? ⟨g,12,none⟩=some (.pointer (some ⟨q'.gl,0,none⟩)):=O.zV
      have bd:B < y.heap.size:=Nat.lt_of_lt_of_le a9 N.out.2.1.size
      have co:y.cell? ⟨B,0,none⟩=some (.int .i64 (x.lastId+1)):=(N.out.2.1.cell (p:=⟨B,0,none⟩) a9 b9).trans k0
      have ez:=zdG cl
      have ba:=zdG co
      have dd:=zdG bd
      clear O cl k0 k1 s dc HE co bd
      go_wp2_with (first
       |(go_at_call 108;refine cn.mono ?_;rintro e fn ⟨rfl,hc,_,bv⟩;have f0:=zdG bv;have z0:fn.cell? ⟨B,0,none⟩=some (.int .i64 (x.lastId+1)):=(bv.chg.cell (p:=⟨B,0,none⟩) dd.out gj.out).trans ba.out;clear bv cn)
       |fail)
      have bb:Hid (vS w g q r (.returned (.tuple #[.int .i64 (x.lastId+1),.int .i64 0])) fn):=zdG (by
       rw[ag.out]
       refine⟨rfl,hc,?_⟩
       have a:=(ez.out.trans f0.out).octets (x.octets+t.length)
       rw[gk.out,d9.out,gg.out] at a
       unfold zcK
       rw[g7.out,eb.out]
       exact a)
      go_ret2
      exact bb.out
theorem YS (w:World)(g:Nat)(q:zl)(x:Acc)(is:List Int)(vb:Value)(Sb:List Nat)(ks:zN)(vk:Value)(Sk:List Nat)(at_:Int)(t:List UInt8)(h:xB w g q x is vb Sb ks vk Sk t) :
  Calls Tryz.prog 50 #[.pointer (some ⟨g,0,none⟩),vb,vk,.int .i64 at_,.string ⟨t.toArray⟩] w (vS w g q (zq zO x is ks at_ t)):=by
 by_cases f:is=[]
 ·exact Qa at_ w g q x is vb Sb ks vk Sk t h f
 by_cases j:at_ < 0
 ·exact Qs at_ w g q x is vb Sb ks vk Sk t h f j
 by_cases d:253402300799 < at_
 ·exact J7 at_ w g q x is vb Sb ks vk Sk t h f j d
 have a:¬(is=[]∨at_ < 0∨253402300799 < at_):=by simp[f,j,d]
 by_cases b:(zG ks).2=0
 case neg=>exact Jt at_ w g q x is vb Sb ks vk Sk t h a b
 cases c:(rise is).any (fun id=>!zu x.boxes id) with
 |true=>exact JM at_ w g q x is vb Sb ks vk Sk t h a b c
 |false=>
  by_cases e:x.cfg.maxMails≤(x.mails.length:Int)
  ·exact U0 at_ w g q x is vb Sb ks vk Sk t h a b c e
  by_cases i:x.cfg.maxSize - x.octets < (t.length:Int)
  ·exact Ji at_ w g q x is vb Sb ks vk Sk t h a b c e i
  cases k:(rise is).any x.spent with
  |true=>exact U9 at_ w g q x is vb Sb ks vk Sk t h a b c e i k
  |false=>
   cases l:x.ends with
   |true=>exact Qr at_ w g q x is vb Sb ks vk Sk t h a b c e i k l
   |false=>exact zbN at_ w g q x is vb Sb ks vk Sk t h a b c e i k l
end Go.Proofs.YtfhlhdmhgheonaaGreatDoor
