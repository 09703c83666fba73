/-
  The walk of the store's Append where it brings the email. The store's Append, whatever it is asked: what it hands back, and the account behind it, are appendP's.
-/
import Derived.Test.YtnofkliaofgiaaaGreatDoorGG
import Derived.Deep.QuietTactic
import Derived.BigQuiet
import Derived.Deep.RegionLaw
import Derived.Deep.DrawnRows
import Derived.Deep.DeepCutAuto
import Derived.Deep.CutBlock
set_option maxRecDepth 100000
set_option maxHeartbeats 8000000
open Go.Proofs.Tryz
open Exists renaming intro→OA
open Go renaming Value→Oe,World→Oc
open Go.Ending renaming returned→RR
open Go.IntKind renaming i64→Ov
open Go.IntWalk renaming i64_in→Og
open Go.Proofs renaming enters_of→O9
open Go.RowKit renaming Below→Od
open Go.Value renaming pointer→RQ,slice→RO,string→RP
open Go.World renaming cell?_alloc_lt→Ox,cell?_alloc_past→Pw,frozen?_alloc_past→Pn,size_alloc→O3
open List renaming eq_nil_of_length_eq_zero→Oi,getElem_mem→Oj,take_of_length_le→Ou
open Nat renaming le_refl→Oq,le_trans→Ol,lt_of_lt_of_le→OJ,zero_le→OE
open _root_ renaming List→Ob,Option→OC,UInt8→Oz,if_neg→Om
namespace Go.Proofs.YtnofkliaofgiaaaGreatDoor
open Go.Shelf Go.RowKit
section
attribute [local go_sem ↓] Go.wp_at_zero Go.wp_at_succ
def LH (x:Acc)(l:Ob Int)(kl:Ob yx)(at_:Int)(t:yx)(th:Int):Acc×Int×Int:=
 ({x with zA:=x.zA+1,zN:=x.zN+1,zg:=zI (x.zA+1) l (zM l x.zg).1,zP:=x.zP+t.length,zC:=x.zC++[⟨x.zN+1,if th=0 then x.zN+1 else th,t,at_,kl,(zM l x.zg).2,x.zA+1,x.zA+1⟩],log:=x.log.add (zX (x.zA+1) l++[⟨x.zA+1,2,x.zN+1,1⟩,⟨x.zA+1,3,if th=0 then x.zN+1 else th,if th=0 then 1 else 2⟩])},x.zN+1,0)
theorem wY (at_:Int)(w:Oc)(g:Nat)(q:zW)(x:Acc)(is:Ob Int)(vb:Oe)(Sb:Ob Nat)(ks:yF)(vk:Oe)(Sk:Ob Nat)(t:Ob Oz)(h:Ys w g q x is vb Sb ks vk Sk t)(hgood:¬(is=[]∨at_ < 0∨253402300799 < at_))(hke:(yz ks).2=0)(hwa:(rise is).any (fun id=>!zZ x.zg id)=false)(hfu1:¬x.N3.xb≤(x.zC.length:Int))(hfu2:¬x.N3.yA - x.zP < (t.length:Int))(hen:¬x.N3.ym≤x.zA)(hsp:(rise is).any x.spent=false) :
  C 26 #[Y g 0,vb,vk,I at_,Oa t] w (ZH w g q (ya yL x is ks at_ t)):=by
 obtain⟨r,hr⟩:∃r,ya yL x is ks at_ t=r:=⟨_,rfl⟩
 rw[hr]
 obtain⟨th,cx⟩:∃th,uN yL x t=th:=⟨_,rfl⟩
 have aw:r=LH x (rise is) (yz ks).1 at_ t th:=by
  rw[←hr,←cx]
  unfold ya xO
  rw[Om hgood,Om ZZ,Om Yr,Om O,Om (by simp[Acc.ends,hsp];omega)]
  rfl
 have ab:=V aw
 have f8:=h.fit.zA
 have fj:=h.fit.N3.mod
 have fh:=h.fit.zN
 have ec:t.length≤2147483648:=by
  exact GA
 have e5:∀m∈x.zC,m.text.length≤2147483648:=fun m hm=>by
  have h1:=h.fit.zP
  have h2:=h.fit.N3.size
  have h3:=Q7 hm
  omega
 have ap:x.zC.length≤1099511627776:=by
  have h1:=h.fit.nm
  omega
 obtain⟨Am,cm,T,_,_⟩:=h.at_.zC.form
 have R:=fun W (hb:Od w w W)=>h.at_.later hb
 have bo:=fun W hb=>(R W hb).xj
 rw[T] at bo
 have k2:∀W,Od w w W→W.cell? (Y g 2)=some (I x.N3.xb):=fun W hb=>(R W hb).cells 2
 have k4:∀W,Od w w W→W.cell? (Y g 4)=some (I x.N3.yA):=fun W hb=>(R W hb).cells 4
 have k6:∀W,Od w w W→W.cell? (Y g 6)=some (I x.N3.ym):=fun W hb=>(R W hb).cells 6
 have k9:∀W,Od w w W→W.cell? (Y g 9)=some (I x.zA):=fun W hb=>(R W hb).vF
 have ei:∀W,Od w w W→W.cell? (Y g 15)=some (I x.zP):=fun W hb=>(R W hb).QA
 have fl:=h.fit.N3.size
 have ct:=h.fit.zP
 have e8:0≤x.zP:=by
  rw[ct.1]
  exact xo _
 have e9:=ct.2
 have gw:Ov.wrap (x.N3.yA - x.zP)=x.N3.yA - x.zP:=Og _ O
 obtain⟨nm,K⟩:∃nm,x.zC.length=nm:=⟨_,rfl⟩
 rw[K] at bo
 have dq:=V bo
 have K2:=V k2
 have K4:=V k4
 have K6:=V k6
 have K9:=V k9
 have dr:=V ei
 clear R bo k2 k4 k6 k9 ei fl ct T
 obtain⟨A,gn,ee,_,_⟩:=h.zg.form
 have jw:is.length≠0:=fun h0=>hgood (.inl (Oi h0))
 have fk:((is.length:Int)==0)=false:=Zt
 have f9:¬at_ < 0:=fun h0=>hgood (.inr (.inl h0))
 have fa:¬253402300799 < at_:=fun h0=>hgood (.inr (.inr h0))
 have co:=h.kc
 have bl:=h.wc
 rw[ee] at bl ⊢
 have H:=V h
 clear ee hgood jw h
 rw[hwa] at bl
 rw[hke] at co
 have dp:=V bl
 rw[K] at hfu1
 clear aw hr
 have U:=V (JP hwa)
 have ep:=V hsp
 have cw:=H.o.sc (JP hwa)
 rw[hsp] at cw
 clear hwa bl K
 go_enter func26,ntmps26
 go_wp2_with (first
  |(go_at_call 69;refine co.mono ?_;rintro e w2 ⟨Ak,ck,hf,rfl,ea,cj,dy⟩;have bb:=V ea;have c7:=V cj;have b8:=V dy;have eg:=dp.o w2 cj;clear co ea cj dy)
  |(go_at_call 70;refine eg.mono ?_;rintro e w3 ⟨v3,h3,rfl,cv,e7,be⟩;clear eg;obtain⟨A3,p3,rfl,_,_⟩:=cv.form;have J:=zj c7.o be;have bc:=dq.o w3 J;have c2:=K2.o w3 J;have c4:=K4.o w3 J;have ce:=dr.o w3 J;have c6:=K6.o w3 J;have D:=K9.o w3 J;have c5:=V J;have b9:=V (bb.o.keep (fun b hb=>be.block b (bb.o.lt b hb)));have ac:=V cv;have ba:Z (∀b,h3=some b→w.heap.size≤b):=V (fun b hb=>Ol c7.o.size (e7 b hb));clear cv e7 be J)
  |fail)
 go_quiet (fail)
 go_wp2_with fail
 go_quiet (fail)
 go_upto_region 19 with(first
  |(go_at_call 71;refine(vQ g x.zA x.N3.ym _ ((yD (w:=w3) zF _).trans D) ((yD (w:=w3) zF _).trans c6)).mono ?_;rintro e w4 ⟨rfl,ne,rfl⟩)
  |(go_at_call 72;refine(cw _ (zO c5.o _) _ h3 (ac.o.heap zF)).mono ?_;rintro e w5 ⟨rfl,dx⟩;have bh:=Zx dx;have ci:=zj c5.o bh;have H5:=V (H.o.at_.later ci);have y:=V ci;have a5:=V (ac.o.keep (fun b hb=>bh.block b (ac.o.lt b hb)));have ca:=V (b9.o.keep (fun b hb=>bh.block b (b9.o.lt b hb)));have b':=YA g x.zA w5 H5.o.vF (H5.o.frozen 9) O;clear dx bh ci cw)
  |(go_at_call 74;refine b'.mono ?_;rintro e w6 ⟨rfl,ef⟩;have t6:=H5.o.vn 9 (I (x.zA+1)) {x with zA:=x.zA+1} rfl rfl rfl rfl;rw[←ef] at t6;have bd:=t6.at_.JS;have f3:=t6.at_.frozen 14;have T6:=V t6;clear b' ef t6)
  |fail)
 have P:(rise is).length≤4294967296:=by
  have h1:=xG is
  have h2:=H.o.nb
  omega
 have bw:=H.o.Kk
 have bz:=Yx H.o.fit.N3 H.o.fit.idsB H.o.fit.box
 generalize a7:(yz ks).1=kl at bb b8 b9 ca ab
 have aq:∀k (hk:k < (rise is).length),0≤yb (zM ((rise is).take k) x.zg).1 (rise is)[k]∧yb (zM ((rise is).take k) x.zg).1 (rise is)[k]≤4294967296:=fun k hk=>
  bz ((rise is).take k) ((xZ is).sublist (List.take_sublist _ _)) (fun i hi=>by
   have h1:=(List.any_eq_false.1 ep.o) i (List.mem_of_mem_take hi)
   have h2:¬x.N3.vC < yb x.zg i:=Jt
   omega) _ (U.o _ (Oj hk))
 have cu:rise (rise is)=rise is:=Q0 (vY is)
 generalize rise is=l at ac a5 ab U P aq cu
 have dj:=V aq
 have en:=V cu
 clear aq cu bz
 obtain⟨v,c'⟩:∃v:Oc,v=w6.setCell (Y g 14) (I (x.zN+1)):=⟨_,rfl⟩
 rw[←c']
 have t7:zL w5 v g q {x with zA:=x.zA+1,zN:=x.zN+1} q:=by
  rw[c']
  exact T6.o.trans (T6.o.at_.vn 14 (I (x.zN+1)) {x with zA:=x.zA+1,zN:=x.zN+1} rfl rfl rfl rfl)
 have T7:=V t7
 clear c' t7 T6 bd f3
 have bd:v.cell? (Y g 14)=some (I (x.zN+1)):=T7.o.at_.JS
 have c1:∀W,Od v v W→C 75 #[Y g 0,Oa t] W fun e w'=>e=RR (I th)∧Od W W w':=fun W hb=>by
  have h1:=wM W g q {x with zA:=x.zA+1,zN:=x.zN+1} (T7.o.at_.later hb) ap e5 t ec
  have h2:uN yL {x with zA:=x.zA+1,zN:=x.zN+1} t=th:=cx
  rw[h2] at h1
  exact h1
 have ae:=V c1
 have a4:0≤x.zP∧x.zP+t.length≤4294967296:=by
  have h2:=H.o.fit.N3.size
  omega
 have bs:=V a4
 clear a4
 try clear bc
 try clear c2
 try clear c4
 try clear ce
 try clear c6
 try clear D
 try clear dq
 try clear K2
 try clear K4
 try clear K6
 try clear K9
 try clear dr
 try clear c5
 try clear ac
 try clear bb
 try clear b9
 try clear c7
 try clear dp
 try clear hfu1
 try clear hfu2
 try clear hen
 try clear gw
 try clear fk
 try clear f9
 try clear fa
 try clear e8
 try clear e9
 try clear aw
 try clear f8
 try clear fj
 try clear fh
 try clear ec
 try clear e5
 try clear ap
 try clear cx
 try clear a7
 try clear c1
 have d':g < v.heap.size:=T7.o.at_.blk.lt
 have fs:=(Ox v (.cells #[I 0,I 0,RP ⟨#[]⟩,I 0,RO none 0 0,RO none 0 0,I 0,I 0] 83) (Y g 14) d').trans bd
 go_cut [17] (fun p M=>∃B,p=RQ (some (Y B 0))∧Z (zL w5 M g q {x with zA:=x.zA+1,zN:=x.zN+1} q)∧Z (NG M B 83 #[I (x.zN+1),I th,Oa t,I at_,RO Ak kl.length ck,RO none 0 0,I (x.zA+1),I (x.zA+1)])∧Z (w5.heap.size≤B))
 case first=>
  go_region_with (first
   |(go_at_call 75;refine(ae.o _ (zG _)).mono ?_;rintro e f ⟨rfl,ag⟩;have G:=uk ag;have eh:f.cell? (Y g 14)=some (I (x.zN+1)):=(T7.o.at_.later G).JS;have fb:g < f.heap.size:=OJ d' G.size;have fv:=(Ox f (.cells #[I 0,I 0,RP ⟨#[]⟩,I 0,RO none 0 0,RO none 0 0,I 0,I 0] 83) (Y g 14) fb).trans eh;have a9:=V G;clear ag G)
   |(go_at_call 75;refine(ae.o _ (zj (zt _ _) (zG _))).mono ?_;rintro e f ⟨rfl,ag⟩;have G:=uk ag;have u:=(NG.new v 83 #[I 0,I 0,RP ⟨#[]⟩,I 0,RO none 0 0,RO none 0 0,I 0,I 0]).below G zv;have z0:f.cell? (Y v.heap.size 0)=some (I 0):=u.cell 0;have gr:=u.frozen 0;have z1:f.cell? (Y v.heap.size 1)=some (I 0):=u.cell 1;have gs:=u.frozen 1;have z2:f.cell? (Y v.heap.size 2)=some (RP ⟨#[]⟩):=u.cell 2;have gv:=u.frozen 2;have z3:f.cell? (Y v.heap.size 3)=some (I 0):=u.cell 3;have gx:=u.frozen 3;have z4:f.cell? (Y v.heap.size 4)=some (RO none 0 0):=u.cell 4;have gz:=u.frozen 4;have z5:f.cell? (Y v.heap.size 5)=some (RO none 0 0):=u.cell 5;have g':=u.frozen 5;have z6:f.cell? (Y v.heap.size 6)=some (I 0):=u.cell 6;have h6:=u.frozen 6;have z7:f.cell? (Y v.heap.size 7)=some (I 0):=u.cell 7;have h7:=u.frozen 7;have a9:=V (zj (zt _ _) G);have eh:f.cell? (Y g 14)=some (I (x.zN+1)):=(T7.o.at_.later a9.o).JS;have HZ:=V u;clear ag G u)
   |fail)
  all_goals
   go_wp2_with fail
   go_meet
   first
   |(have u:=HZ.o;exact⟨v.heap.size,rfl,V ((T7.o.yO a9.o).newer H5.o (S:=[v.heap.size]) (((((((((NH.refl [v.heap.size] f).set (.inl zv) _).set (.inl zv) _).set (.inl zv) _).set (.inl zv) _).set (.inl zv) _).set (.inl zv) _).set (.inl zv) _).set (.inl zv) _) (fun k hk=>by simp at hk;have h1:=T7.o.N4.size;omega)),V ((((((((u.set 0 _).set 1 _).set 2 _).set 3 _).set 4 _).set 5 _).set 6 _).set 7 _),V T7.o.N4.size⟩)
   |(exact⟨f.heap.size,rfl,V ((T7.o.yO a9.o).yO (zt _ _)),V (NG.new f _ _),V (by have h1:=T7.o.N4.size;have h2:=a9.o.size;omega)⟩)
 case rest=>
  obtain⟨B,rfl,T8,BM,N⟩:=hcut
  obtain⟨wm,rfl⟩:∃wm:Oc,wm=wc:=⟨_,rfl⟩
  have b0:wm.cell? (Y B 0)=some (I (x.zN+1)):=BM.o.cell 0
  have b1:wm.cell? (Y B 1)=some (I th):=BM.o.cell 1
  have f6:wm.frozen? (Y B 1)=false:=BM.o.frozen 1
  clear bd ae
  go_upto_if 107 with(fail)
  go_cut [18] (fun hw M=>hw=I (if th=0 then 1 else 2)∧Z (NH [B] wm M)∧Z (NG M B 83 #[I (x.zN+1),I (if th=0 then x.zN+1 else th),Oa t,I at_,RO Ak kl.length ck,RO none 0 0,I (x.zA+1),I (x.zA+1)]))
  case first=>
   exact Mg
  case rest=>
   obtain⟨rfl,d7,d2⟩:=hcut
   obtain⟨wn,rfl⟩:∃wn:Oc,wn=wc:=⟨_,rfl⟩
   obtain⟨a,a'⟩:∃a,(if th=0 then x.zN+1 else th)=a:=⟨_,rfl⟩
   obtain⟨bk,am⟩:∃bk:Int,(if th=0 then (1:Int) else 2)=bk:=⟨_,rfl⟩
   rw[a'] at d2
   rw[am]
   have ev:=V a'
   have da:=V am
   have T9:Z (zL w5 wn g q {x with zA:=x.zA+1,zN:=x.zN+1} q):=V (T8.o.newer H5.o d7.o (fun k hk=>by simp at hk;have:=N.o;omega))
   have eo:=V (a5.o.fresh ba.o H.o.at_ T9.o.N4)
   clear b0 b1 f6 d7 BM T8 a' am
   obtain⟨i0,hi,bm,fn,fo⟩:=info_parts Try.infoMember2
   obtain⟨c,bj⟩:∃c,l.length=c:=⟨_,rfl⟩
   rw[bj] at a5 eo ⊢
   have qp:=V bj
   have ft:c≤4294967296:=by rw[←bj];exact P
   have em:Z (bW w w5 wn g q {x with zA:=x.zA+1,zN:=x.zN+1} l B (I (x.zN+1)) (I a) (RP ⟨t.toArray⟩) (I at_) (RO Ak kl.length ck) (I (x.zA+1)) (I (x.zA+1)) 0 (RO none 0 0)):=V ⟨by
    have h1:=(zL.of_below H.o.at_ y.o).trans T9.o
    exact h1,T9.o.N4,d2.o,⟨none,Sl.nil _ _ _,fun b hb=>by cases hb⟩⟩
   clear bj
   go_upto_block 1 with(fail)
   go_cut [] (fun M=>∃L D,Z (bW w w5 M g q {x with zA:=x.zA+1,zN:=x.zN+1} l B (I (x.zN+1)) (I a) (RP ⟨t.toArray⟩) (I at_) (RO Ak kl.length ck) (I (x.zA+1)) (I (x.zA+1)) c (RO L c D)))
   case first=>
    go_wp2_with fail
    go_loopw [113] (fun i wr=>∃(k:Nat) (L:OC Addr) (D:Nat),k≤c∧i=I k∧Z (bW w w5 wr g q {x with zA:=x.zA+1,zN:=x.zN+1} l B (I (x.zN+1)) (I a) (RP ⟨t.toArray⟩) (I at_) (RO Ak kl.length ck) (I (x.zA+1)) (I (x.zA+1)) k (RO L k D))) (fun i _=>c - (intOf i).toNat)
    case atStart=>exact⟨0,none,0,OE _,rfl,em⟩
    case round=>
     obtain⟨k,L,D,hk,rfl,F⟩:=hrel
     by_cases af:k < c
     ·have a7:k < l.length:=JB
      obtain⟨b3,ej,f1,_,cz,_,_,be,dv⟩:=a5.o.at_ O
      injection cz with hv1 hv2 cz
      subst hv1 cz
      clear hv2
      have hS:=a5.o.fresh ba.o H.o.at_ F.o.ch
      obtain⟨b4,fx,f2,_,fm,_,_,cg,bu⟩:=hS.at_ O
      injection fm with hv5 hv6 hv7
      injection hv5 with hv8
      injection hv8 with hv9 hv10
      subst hv9 hv10
      have cs:wr.cell? (Y b3 (ej+k))=some (I l[k]):=(bu k O).1.trans (by simp[a7])
      have hid:l[k]∈ids (zM (l.take k) x.zg).1:=by
       rw[vX]
       exact U.o _ (Oj a7)
      have e6:=dj.o k a7
      have bx:=fun W (hb:Od wr wr W)=>cZ W g q _ (F.o.st.at_.later hb) (by
       show (zM (l.take k) x.zg).1.length≤_
       rw[vh]
       exact bw) l[k] hid e6
      obtain⟨hh,Q,ao⟩:=F.o.mem
      have el:=V Q
      have de:=V ao
      have cB:wr.cell? (Y B 5)=some (RO L k D):=F.o.blk.cell 5
      have fB:wr.frozen? (Y B 5)=false:=F.o.blk.frozen 5
      have du:B < wr.heap.size:=F.o.blk.lt
      obtain⟨id,a2⟩:∃id,l[k]=id:=⟨_,rfl⟩
      have d:∀W,Od wr wr W→C 76 #[Y g 0,I id] W fun e w'=>e=RR (.agg #[I id,I (yb (zM (l.take k) x.zg).1 l[k])])∧zL W w' g q {{x with zA:=x.zA+1,zN:=x.zN+1} with zg:=JR l[k] (zM (l.take k) x.zg).1} q:=fun W hb=>by
       have h1:=bx W hb
       rw[←a2]
       exact h1
      have br:=V d
      have Cb:=V a2
      rw[a2] at cs
      obtain⟨Fs,ar⟩:∃Fs,yb (zM (l.take k) x.zg).1 l[k]=Fs:=⟨_,rfl⟩
      rw[ar] at br
      have Fq:=V ar
      clear dv bu hS bx d Q ao a2 ar e6 hid hv6 hv7
      go_wp2_with fail
      go_region_law (first
       |(refine yK zF zF (O9 func76 zQ rfl) X9 (br.o _ (zG _)) ?_;rintro e f ⟨rfl,eb⟩;refine⟨_,rfl,?_⟩;have a6:Z (zL wr f g q {{x with zA:=x.zA+1,zN:=x.zN+1} with zg:=JR l[k] (zM (l.take k) x.zg).1} q):=V ((zL.of_below F.o.st.at_ (zG _)).trans eb);have cb:=V (el.o.fresh (fun b hb=>Ol y.o.size (de.o b hb)) H.o.at_ a6.o.N4);have f0:f.cell? (Y B 5)=some (RO L k D):=(F.o.blk.fresh (Ol y.o.size N.o) H.o.at_ a6.o.N4).cell 5;have f5:f.frozen? (Y B 5)=false:=(F.o.blk.fresh (Ol y.o.size N.o) H.o.at_ a6.o.N4).frozen 5;have dt:B < f.heap.size:=OJ du a6.o.N4.size;have e1:B∉hh.toList:=(fun hm=>cb.o.vu (F.o.blk.fresh (Ol y.o.size N.o) H.o.at_ a6.o.N4) zD B yT rfl);clear eb)
       |(refine ye _ zF (.tmp 118) (.tmp 122) _ zF underlying81 hi bm fn fo rfl O (cb.o.alloc _) uE f.heap.size #[I id,I Fs] (e':=153) (fr:=(0,0)) (heap_alloc_new f _) 1 1 uE zF xt yV O ?_;intro v2 h2 w9 oh Fv Fu;obtain⟨c3,cd,rfl,_,_⟩:=oh.form;have gp:w9.frozen? (Y B 5)=false:=(Fv.frozen (p:=⟨B,5,none⟩) zT e1).trans ((Pn _ _ _ dt).trans f5);have gk:w9.cell? (Y B 5)=some (RO L k D):=(Fv.cell (p:=⟨B,5,none⟩) zT e1).trans ((Pw _ _ _ dt).trans f0))
       |fail)
      all_goals
       have uo:=V (F.o.next (mv':=RO c3 (k+1) cd) H.o.at_ N.o y.o.size a7 (a6.o.yO (zt _ _)) (cb.o.alloc _) de.o IW Fv Fu)
       exact Nh
     ·have fg:k=c:=O
      subst fg
      go_wp2_with fail
      go_meet
      exact⟨L,D,F⟩
   case rest=>
    obtain⟨L,D,F⟩:=hcut
    obtain⟨j,rfl⟩:∃j:Oc,j=wc:=⟨_,rfl⟩
    have cy:l.take c=l:=Ou bC
    have s:zL w j g q {{x with zA:=x.zA+1,zN:=x.zN+1} with zg:=(zM l x.zg).1} q:=by
     have h1:=F.o.st
     rw[cy] at h1
     exact h1
    obtain⟨fi,Q,ao⟩:=F.o.mem
    rw[cy] at Q
    have cl:=F.o.ch
    have n:=F.o.blk
    have cp:=ca.o.fresh b8.o H.o.at_ cl
    obtain⟨mm,a3⟩:∃mm:xd,mm=⟨⟨x.zN+1,a,t,at_,kl,(zM l x.zg).2,x.zA+1,x.zA+1⟩,RO Ak kl.length ck,RO L c D⟩:=⟨_,rfl⟩
    have d:(zM l x.zg).2.length=c:=by rw[ZN,qp.o]
    have au:xB j (q.own g) mm:=by
     rw[a3]
     refine⟨cp.reads _ (fun b hb hm=>?_),?_,cp.ty,Q.ty⟩
     ·have h1:=H.o.at_.lt b hm
      have h2:=b8.o b hb
      omega
     ·have h3:Sl j 153 2 (RO L c D) fi (zM l x.zg).2.length (zU yC (zM l x.zg).2):=by
       rw[d]
       exact Q
      refine h3.reads _ (fun b hb hm=>?_)
      have h1:=H.o.at_.lt b hm
      have h2:=ao b hb
      have h4:=y.o.size
      omega
    have e3:xV mm=[I (x.zN+1),I a,RP ⟨t.toArray⟩,I at_,RO Ak kl.length ck,RO L c D,I (x.zA+1),I (x.zA+1)]:=by
     rw[a3]
     rfl
    have e4:mm.p=⟨x.zN+1,a,t,at_,kl,(zM l x.zg).2,x.zA+1,x.zA+1⟩:=by rw[a3]
    obtain⟨Am,cm,T,_,_⟩:=H.o.at_.zC.form
    have cq:Sl j 83 8 (RO Am x.zC.length cm) q.hm x.zC.length (zU xV q.ms):=by
     rw[←T]
     exact s.at_.zC
    obtain⟨nm,K⟩:∃nm,x.zC.length=nm:=⟨_,rfl⟩
    rw[K] at cq
    have ap:nm≤4294967296:=by
     have h1:=H.o.fit.nm
     have h2:=H.o.fit.zA
     have h3:=H.o.fit.N3.mod
     omega
    have bc:j.cell? (Y g 11)=some (RO Am nm cm):=by
     rw[←K,←T]
     exact s.at_.xj
    have ds:j.frozen? (Y g 11)=false:=s.at_.frozen 11
    have bi:g < j.heap.size:=s.at_.blk.lt
    have b0:j.cell? (Y B 0)=some (I (x.zN+1)):=n.cell 0
    have b1:j.cell? (Y B 1)=some (I a):=n.cell 1
    have b2:j.cell? (Y B 2)=some (RP ⟨t.toArray⟩):=n.cell 2
    have b3:j.cell? (Y B 3)=some (I at_):=n.cell 3
    have b4:j.cell? (Y B 4)=some (RO Ak kl.length ck):=n.cell 4
    have b5:j.cell? (Y B 5)=some (RO L c D):=n.cell 5
    have b6:j.cell? (Y B 6)=some (I (x.zA+1)):=n.cell 6
    have b7:j.cell? (Y B 7)=some (I (x.zA+1)):=n.cell 7
    obtain⟨j0,hj,fc,fd,ff⟩:=info_parts Try.infoMail
    have df:=V cq
    have a0:=V s
    have aa:=V au
    have dd:=V e3
    have ek:=V e4
    have d8:=V cl
    have c8:=V n
    have dg:=V K
    have ex:=V T
    have cn:g∉q.hm.toList:=fun hm=>a0.o.at_.apart.hm yT
    clear cq s au e3 e4 cl n cp Q ao a3 cy K T d F ca b8 dj
    go_upto_region 28 with(fail)
    go_cut [] (fun M=>∃q',Z (zL w M g q {{x with zA:=x.zA+1,zN:=x.zN+1} with zg:=(zM l x.zg).1,zC:=x.zC++[mm.p]} q')∧Z (NH (q.own g) w5 M)∧Z (NH (q.own g) j M)∧Z (B∉q'.own g))
    case first=>
     go_region_law (first
      |(refine ye _ zF (.tmp 130) (.tmp 132) _ zF underlying117 hj fc fd ff rfl O ((df.o.alloc _).heap zF) yl j.heap.size #[I (x.zN+1),I a,Oa t,I at_,RO Ak kl.length ck,RO L c D,I (x.zA+1),I (x.zA+1)] (e':=83) (fr:=(0,0)) (heap_alloc_new j _) 1 1 yl zF xt yV O ?_;intro v2 h2 w9 oh Fv Fu;obtain⟨c3,cd,rfl,_,_⟩:=oh.form;have go:w9.cell? (Y g 11)=some (RO Am nm cm):=(Fv.cell (p:=⟨g,11,none⟩) zT cn).trans ((Pw _ _ _ bi).trans bc);have h8:w9.frozen? (Y g 11)=false:=(Fv.frozen (p:=⟨g,11,none⟩) zT cn).trans ((Pn _ _ _ bi).trans ds))
      |fail)
     all_goals
      have av:=(a0.o.at_.alloc (.cells #[I (x.zN+1),I a,Oa t,I at_,RO Ak kl.length ck,RO L c D,I (x.zA+1),I (x.zA+1)] 83)).eN mm (aa.o.step (NH.of_below (zt j _) _) (fun k hk=>.inl hk)) (v':=RO c3 (nm+1) cd) (h':=h2) (w':=w9) (by
       show Sl w9 _ 8 _ h2 (x.zC.length+1) _
       rw[dg.o,dd.o]
       exact oh) ⟨Fv.os,Fv.tape,Fv.output,Fv.size,Fv.block⟩ Fu
      have z:=V av
      clear av oh Fv Fu
      go_wp2_with fail
      go_meet
      exact⟨_,V ((a0.o.yO (zt j _)).trans z.o),V ((d8.o.alloc _).trans z.o.N4 (fun i hi=>.inl hi)),V (((NH.refl _ j).alloc _).trans z.o.N4 (fun i hi=>.inl hi)),V (fun hm=>by
       rcases z.o.own B hm with h1|h1
       ·have h2:=H.o.at_.lt B h1
        have h3:=y.o.size
        have h4:=N.o
        omega
       ·have h2:=c8.o.lt
        rw[O3] at h1
        omega)⟩
    case rest=>
     obtain⟨q',ad,d6,bp,d5⟩:=hcut
     obtain⟨wf,rfl⟩:∃wf:Oc,wf=wc:=⟨_,rfl⟩
     obtain⟨E,a8⟩:∃E:Acc,E={{x with zA:=x.zA+1,zN:=x.zN+1} with zg:=(zM l x.zg).1,zC:=x.zC++[mm.p]}:=⟨_,rfl⟩
     rw[←a8] at ad
     have cr:E.zP=x.zP:=by rw[a8]
     have cg:E.zg=(zM l x.zg).1:=by rw[a8]
     have e2:E.log=x.log:=by rw[a8]
     have ey:=V a8
     clear a8
     have az:=a5.o.fresh ba.o H.o.at_ d6.o
     have al:=c8.o.fresh (Ol y.o.size N.o) H.o.at_ bp.o
     have ce:wf.cell? (Y g 15)=some (I x.zP):=by rw[←cr];exact ad.o.at_.QA
     have f4:wf.frozen? (Y g 15)=false:=ad.o.at_.frozen 15
     have a4:=bs.o
     have f7:Ov.wrap (x.zP+(t.length:Int))=x.zP+(t.length:Int):=Og _ O
     have dk:=V az
     have d4:=V al
     have gi:=V cr
     have d3:=V cg
     have db:=V e2
     clear az al bc ds bi b0 b1 b2 b3 b4 b5 b6 b7 cn df a0 aa dd d8 c8 dg ex a4 cr cg e2
     go_upto_region 30 with(fail)
     obtain⟨wg,d0⟩:∃wg:Oc,wg=wf.setCell (Y g 15) (I (x.zP+t.length)):=⟨_,rfl⟩
     rw[←d0]
     have cc:=V d0
     clear d0 ce f4 f7 bs
     have cf:zL wf wg g q' {E with zP:=x.zP+t.length} q':=by
      rw[cc.o]
      exact ad.o.at_.kX _
     have al:NG wg B 83 #[I (x.zN+1),I a,Oa t,I at_,RO Ak kl.length ck,RO L c D,I (x.zA+1),I (x.zA+1)]:=by
      rw[cc.o]
      exact d4.o.far (p:=⟨g,15,none⟩) (fun e=>d5.o (by rw[e];exact zW.ZP)) _
     have az:Sl wg 3 1 (RO A3 c p3) h3 c (l.map yJ):=by
      rw[cc.o]
      refine dk.o.far (p:=⟨g,15,none⟩) (fun e=>?_) _
      have h1:=H.o.at_.blk.lt
      have h2:w.heap.size≤g:=ba.o g e
      omega
     have er:=V (ad.o.trans cf)
     have a1:=V cf.at_
     have X:=V al
     have bt:=V az
     clear cf al az dk d4 d6 bp
     have ed:∀W,Od wg wg W→C 78 #[Y g 0,I (x.zA+1),RO A3 c p3] W fun e w'=>∃v' hh,e=RR v'∧Sl w' 159 4 v' hh c (yR (zX (x.zA+1) l))∧(∀b,hh=some b→W.heap.size≤b)∧zL W w' g q' {{E with zP:=x.zP+t.length} with zg:=zI (x.zA+1) l E.zg} q':=fun W hb=>by
      have h2:Sl W 3 1 (RO A3 c p3) h3 c (l.map yJ):=bt.o.keep (fun b hb2=>hb.block b (bt.o.lt b hb2))
      have h3:NN W [] 1 (RO A3 c p3) l.length (l.map yJ):=by
       rw[qp.o]
       exact h2.reads [] zv
      have h4:E.zg.length≤1099511627776:=by
       rw[d3.o,vh]
       exact bw
      have h5:∀i∈l,i∈ids E.zg:=fun i hi=>by
       rw[d3.o,vX]
       exact U.o i hi
      have h1:=Y2 W g q' {E with zP:=x.zP+t.length} (a1.o.later hb) h4 (x.zA+1) l (RO A3 c p3) [] h3 (Ol P zD) h5
      rw[en.o,qp.o] at h1
      exact h1
     have ew:=V ed
     clear ed
     have gj:wg.cell? (Y g 12)=some (RQ (some (Y q'.gl 0))):=a1.o.xp
     have b0:wg.cell? (Y B 0)=some (I (x.zN+1)):=X.o.cell 0
     have b1:wg.cell? (Y B 1)=some (I a):=X.o.cell 1
     have du:B < wg.heap.size:=X.o.lt
     have bi:g < wg.heap.size:=a1.o.blk.lt
     obtain⟨e0,he,ha,hc,hd⟩:=info_parts Try.infoEntry
     go_cut [] (fun M=>∃d1,Z (zL w M g q {{E with zP:=x.zP+t.length} with zg:=zI (x.zA+1) l E.zg,log:=x.log.add (zX (x.zA+1) l++[⟨x.zA+1,2,x.zN+1,1⟩,⟨x.zA+1,3,a,bk⟩])} d1)∧M.cell? (Y B 0)=some (I (x.zN+1)))
     case first=>
      have an:1≤E.log.most∧E.log.most≤1099511627776∧E.log.es.length≤1099511627776:=by
       rw[db.o]
       exact pA
      have dc:=V an
      clear an
      refine Ks wg g B q' {E with zP:=x.zP+t.length} {{E with zP:=x.zP+t.length} with zg:=zI (x.zA+1) l E.zg} (x.zA+1) (x.zN+1) a bk c A3 p3 (zX (x.zA+1) l) _ _ _ _ _ _ _ _ _ _ _ _ _ _ _ _ _ _ _ _ _ _ _ _ _ _ _ _ _ _ _ _ _ _ _ _ _ _ _ _ _ _ _ _ _ _ _ _ _ _ _ _ _ _ _ _ _ _ _ _ _ _ _ _ _ _ _ _ _ _ _ _ _ _ _ _ _ _ _ _ _ _ _ _ _ _ _ _ _ _ _ _ _ _ _ _ _ _ _ _ _ _ _ _ _ _ _ _ _ _ _ _ _ _ _ _ _ _ _ _ _ _ _ _ _ _ _ _ _ _ _ _ _ _ _ _ _ _ _ _ _ _ _ _ _ _ _ _ _ _ _ _ _ _ _ _ _ _ _ _ _ _ _ _ _ _ a1.o X.o b0 b1 d5.o (by rw[xP,qp.o]) O dc.o ew.o ?_
      intro fy fz f' g0 g1 g2 g3 g4 g5 g6 g7 g8 g9 ga gb gc gd gf gg gh M fp c0 bv
      have bm:M.cell? (Y B 0)=some (I (x.zN+1)):=bv.cell 0
      have ez:=V bm
      have dl:=V c0
      clear bm c0 bv
      go_wp2_with fail
      go_meet
      exact⟨fp,V (by
       have h1:=er.o.trans dl.o
       rw[←db.o]
       exact h1),ez.o⟩
     case rest=>
      obtain⟨d1,et,h9⟩:=hcut
      obtain⟨wz,rfl⟩:∃wz:Oc,wz=wc:=⟨_,rfl⟩
      have d9:Z (ZH w g q r (RR (.tuple #[I (x.zN+1),I 0])) wz):=V (by
       rw[ab.o]
       refine⟨rfl,d1,?_⟩
       have h1:=et.o
       rw[ey.o,ek.o] at h1
       unfold LH
       rw[ev.o,da.o]
       exact h1)
      go_wp2_with fail
      go_ret2
      exact d9.o
end
section
theorem VH (w:Oc)(g:Nat)(q:zW)(x:Acc)(is:Ob Int)(vb:Oe)(Sb:Ob Nat)(ks:yF)(vk:Oe)(Sk:Ob Nat)(at_:Int)(t:Ob Oz)(h:Ys w g q x is vb Sb ks vk Sk t) :
  C 26 #[Y g 0,vb,vk,I at_,Oa t] w (ZH w g q (ya yL x is ks at_ t)):=by
 by_cases a:is=[]∨at_ < 0∨253402300799 < at_
 ·exact rQ at_ w g q x is vb Sb ks vk Sk t h a
 by_cases b:(yz ks).2=0
 case neg=>exact mC at_ w g q x is vb Sb ks vk Sk t h a b
 cases c:(rise is).any (fun id=>!zZ x.zg id) with
 |true=>exact mD at_ w g q x is vb Sb ks vk Sk t h a b c
 |false=>
  by_cases d:x.N3.xb≤(x.zC.length:Int)
  ·exact iA at_ w g q x is vb Sb ks vk Sk t h a b c d
  by_cases e:x.N3.yA - x.zP < (t.length:Int)
  ·exact iB at_ w g q x is vb Sb ks vk Sk t h a b c d e
  by_cases f:x.N3.ym≤x.zA
  ·exact mB at_ w g q x is vb Sb ks vk Sk t h a b c d e f
  cases i:(rise is).any x.spent with
  |true=>exact iC at_ w g q x is vb Sb ks vk Sk t h a b c d e f i
  |false=>exact wY at_ w g q x is vb Sb ks vk Sk t h a b c d e f i
end
end Go.Proofs.YtnofkliaofgiaaaGreatDoor
