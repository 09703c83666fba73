/-
  The walk of the reference's Append where it brings the email. Printed by gen_refapp2.py.
-/
import Derived.Test.YtnofkliaofgiaaaGreatDoorGRA
import Derived.Test.YtnofkliaofgiaaaGreatDoorGRD
set_option maxRecDepth 100000
set_option maxHeartbeats 8000000
open Go.Proofs.Tryz
open Bool renaming false_eq_true→Px
open Exists renaming intro→OA
open Go renaming Value→Oe,World→Oc
open Go.Ending renaming returned→RR
open Go.IntKind renaming i64→Ov
open Go.IntWalk renaming i64_in→Og
open Go.Proofs renaming enters_of→O9
open Go.RowKit renaming Below→Od
open Go.RowKit.Below renaming refl→Ok
open Go.Value renaming pointer→RQ,slice→RO,string→RP
open Go.World renaming cell?_alloc_lt→Ox,cell?_alloc_past→Pw,frozen?_alloc_past→Pn,size_alloc→O3
open List renaming eq_nil_of_length_eq_zero→Oi,getElem_mem→Oj,length_append→Oo,take_of_length_le→Ou
open Nat renaming le_refl→Oq,le_trans→Ol,lt_of_lt_of_le→OJ,zero_le→OE
open _root_ renaming List→Ob,Option→OC,UInt8→Oz,decide_eq_false→OD,if_neg→Om
namespace Go.Proofs.YtnofkliaofgiaaaGreatDoor
open Go.Shelf Go.RowKit
attribute [local go_sem ↓] Go.wp_at_zero Go.wp_at_succ
theorem cC {B:Nat}{w w':Oc}(h:Od B w w')(b:Nat)(hb:B≤b)(u0 u1 u2 u3 u4 u5 u6 u7:Oe):Od B w ((((((((w'.setCell (Y b 0) u0).setCell (Y b 1) u1).setCell (Y b 2) u2).setCell (Y b 3) u3).setCell (Y b 4) u4).setCell (Y b 5) u5).setCell (Y b 6) u6).setCell (Y b 7) u7):=
 (((((((h.setCell hb u0).setCell hb u1).setCell hb u2).setCell hb u3).setCell hb u4).setCell hb u5).setCell hb u6).setCell hb u7
def wX (x:Acc)(l:Ob Int)(kl:Ob yx)(at_:Int)(t:yx)(th:Int):Acc×Int×Int:=
 ({x with zA:=x.zA+1,zN:=x.zN+1,zg:=zI (x.zA+1) l (zM l x.zg).1,zP:=x.zP+t.length,zC:=x.zC++[⟨x.zN+1,if th=0 then x.zN+1 else th,t,at_,kl,(zM l x.zg).2,x.zA+1,x.zA+1⟩],log:=x.log.add (zX (x.zA+1) l++[⟨x.zA+1,2,x.zN+1,1⟩,⟨x.zA+1,3,if th=0 then x.zN+1 else th,if th=0 then 1 else 2⟩])},x.zN+1,0)
theorem tR (at_:Int)(w:Oc)(g:Nat)(q:zW)(x:Acc)(is:Ob Int)(vb:Oe)(Sb:Ob Nat)(ks:yF)(vk:Oe)(Sk:Ob Nat)(t:Ob Oz)(h:vO w g q x is vb Sb ks vk Sk t)(hgood:¬(is=[]∨at_ < 0∨253402300799 < at_))(hke:(yz ks).2=0)(hwa:(rise is).any (fun id=>!zZ x.zg id)=false)(hfu1:¬x.N3.xb≤(x.zC.length:Int))(hfu2:¬x.N3.yA - x.zP < (t.length:Int))(hsp:(rise is).any x.spent=false)(hen:x.ends=false) :
  C 62 #[Y g 0,vb,vk,I at_,Oa t] w (Zo w g q (ya yL x is ks at_ t)):=by
 obtain⟨r,hr⟩:∃r,ya yL x is ks at_ t=r:=⟨_,rfl⟩
 rw[hr]
 obtain⟨th,ds⟩:∃th,uN yL x t=th:=⟨_,rfl⟩
 have cw:r=wX x (rise is) (yz ks).1 at_ t th:=by
  rw[←hr,←ds]
  unfold ya xO
  rw[Om hgood,Om ZZ,Om Yr,Om O,Om (by rw[hen,hsp];simp)]
  rfl
 have ap:=V cw
 have fa:=h.fit.zN
 have fv:t.length≤2147483648:=by
  exact GA
 have fd:∀m∈x.zC,m.text.length≤2147483648:=fun m hm=>by
  have h1:=h.fit.zP
  have h2:=h.fit.N3.size
  have h3:=Q7 hm
  omega
 have bl:x.zC.length≤1099511627776:=by
  have h1:=h.fit.nm
  have h2:=h.fit.zA
  have h3:=h.fit.N3.mod
  omega
 have f7:Ov.wrap (x.zN+1)=x.zN+1:=Og _ (by
  have h2:=h.fit.zA
  have h3:=h.fit.N3.mod
  omega)
 have g3:=V fd
 have eb:=V bl
 have g8:=V fv
 have i6:=V fa
 have a1:=V (JP hwa)
 have ej:=V hsp
 have en:=V ds
 clear fa fv fd bl ds
 have fl:=h.rc (JP hwa) hsp
 have eh:=V fl
 have dq:=h.sc hen
 simp only[Px,if_false,Bool.not_false] at dq
 have ei:=V dq
 clear fl dq hsp hen
 obtain⟨A,i9,fx,_,_⟩:=h.zg.form
 have jw:is.length≠0:=fun h0=>hgood (.inl (Oi h0))
 have hc:((is.length:Int)==0)=false:=Zt
 have gz:¬at_ < 0:=fun h0=>hgood (.inr (.inl h0))
 have g':¬253402300799 < at_:=fun h0=>hgood (.inr (.inr h0))
 have dg:=h.kc
 have dp:=h.oc
 rw[fx] at dp ⊢
 rw[hke] at dg
 have f0:=h.bc hwa
 obtain⟨Am,cm,hg,P⟩:=h.room
 have fy:=h.zc
 obtain⟨nm,ff⟩:∃nm,x.zC.length=nm:=⟨_,rfl⟩
 rw[ff] at P hfu1
 have hd:=h.fit.N3.size
 have fi:0≤x.zP:=by
  rw[h.fit.zP.1]
  exact xo _
 have fj:=h.fit.zP.2
 have gw:Ov.wrap (x.N3.yA - x.zP)=x.N3.yA - x.zP:=Og _ O
 obtain⟨dx,cr⟩:∃dx,x.N3.xb=dx:=⟨_,rfl⟩
 rw[cr] at P hfu1
 obtain⟨er,f4⟩:∃er,x.N3.yA - x.zP=er:=⟨_,rfl⟩
 have aq:=V P
 have eo:=V fy
 have f1:decide (dx≤(nm:Int))=false:=OD hfu1
 have f2:decide (x.N3.yA - x.zP < (t.length:Int))=false:=OD hfu2
 clear hfu1 hfu2
 have H:=V h
 have e7:=V dg
 have ee:=V dp
 have e1:=V f0
 clear fx h cw hr hgood jw dg hke dp f0 hwa P fy hd fi fj hg ff cr f4
 go_enter func62,ntmps62
 go_upto_region 9 with(first
  |(go_at_call 126;refine e7.o.mono ?_;rintro e w1 ⟨Ak,ck,hk,rfl,fp,f3,f6⟩;have d5:=V fp;have c5:=V f3;have d2:=V f6;clear fp f3 f6)
  |(go_at_call 127;refine(ee.o _ c5.o).mono ?_;rintro e w2 ⟨A3,p3,h3,rfl,fm,ba,fh⟩;have d0:=V (zj c5.o ba);have c7:=V fm;have am:Z (∀b,h3=some b→w.heap.size≤b):=V (fun b hb=>Ol c5.o.size (fh b hb));have ar:=V (d5.o.keep (fun b hb=>ba.block b (d5.o.lt b hb)));clear fm ba fh)
  |(go_at_call 128;refine(e1.o _ d0.o _ (c7.o.reads [] zv)).mono ?_;rintro e w3 ⟨rfl,bb⟩;have ag:=V (zj d0.o bb);have a2:=V (c7.o.keep (fun b hb=>bb.block b (c7.o.lt b hb)));have au:=V (ar.o.keep (fun b hb=>bb.block b (ar.o.lt b hb)));clear bb)
  |fail)
 obtain⟨ca,c2,c4⟩:=aq.o _ ag.o
 go_quiet ((go_at_call 129;exact dG (eo.o _ (zO ag.o _))))
 go_upto_region 14 with(first
  |(go_at_call 130;refine(eh.o _ (zO ag.o _) _ ((a2.o.heap zF).reads [] zv)).mono ?_;rintro e w4 ⟨rfl,ez⟩;have cb:=Zx ez;have f:=V (zj ag.o cb);have K:=V (a2.o.keep (fun b hb=>cb.block b (a2.o.lt b hb)));have av:=V (au.o.keep (fun b hb=>cb.block b (au.o.lt b hb)));clear ez cb)
  |(go_at_call 116;refine(ei.o _ f.o).mono ?_;rintro e w5 ⟨rfl,cf⟩;have d7:=V cf;have s:w5.cell? (Y g 14)=some (I x.zN):=cf.at_.JS;have gg:w5.frozen? (Y g 14)=false:=cf.at_.frozen 14;clear cf)
  |fail)
 have H4:Z (zJ w4 g q x):=V (H.o.at_.later f.o)
 have bi:(rise is).length≤4294967296:=by
  have h1:=xG is
  have h2:=H.o.nb
  omega
 have co:=H.o.Kk
 have cu:=Yx H.o.fit.N3 H.o.fit.idsB H.o.fit.box
 generalize ac:(yz ks).1=kl at av ap
 have bm:∀k (hk:k < (rise is).length),0≤yb (zM ((rise is).take k) x.zg).1 (rise is)[k]∧yb (zM ((rise is).take k) x.zg).1 (rise is)[k]≤4294967296:=fun k hk=>
  cu ((rise is).take k) ((xZ is).sublist (List.take_sublist _ _)) (fun i hi=>by
   have h1:=(List.any_eq_false.1 ej.o) i (List.mem_of_mem_take hi)
   have h2:¬x.N3.vC < yb x.zg i:=Jt
   omega) _ (a1.o _ (Oj hk))
 generalize rise is=l at K ap a1 bi bm
 have ed:=V bm
 clear bm cu ac ej
 obtain⟨j,dv⟩:∃j:Oc,j=w5.setCell (Y g 14) (I (x.zN+1)):=⟨_,rfl⟩
 rw[←dv]
 have t7:zK w4 j g q {x with zA:=x.zA+1,zN:=x.zN+1} q:=by
  rw[dv]
  exact d7.o.trans (d7.o.at_.vn 14 (I (x.zN+1)) {x with zA:=x.zA+1,zN:=x.zN+1} rfl rfl rfl rfl)
 have T7:=V t7
 clear dv t7 s gg aq eo eh ei ee e1 e7 c5 d0 ag d5 ar au c7 a2 d7 ca c2 c4 f1 f2 hc gz g' gw f7
 have cx:∀W,Od j j W→C 131 #[Y g 0,Oa t] W fun e w'=>e=RR (I th)∧Od W W w':=fun W hb=>by
  have h1:=ot W g q {x with zA:=x.zA+1,zN:=x.zN+1} (T7.o.at_.later hb) eb.o g3.o t g8.o
  have h2:uN yL {x with zA:=x.zA+1,zN:=x.zN+1} t=th:=en.o
  rw[h2] at h1
  exact h1
 have az:=V cx
 have hK:∀W,Od j j W→W.cell? (Y g 14)=some (I (x.zN+1))∧W.cell? (Y g 9)=some (I (x.zA+1)):=fun W hb=>⟨(T7.o.at_.later hb).JS,(T7.o.at_.later hb).vF⟩
 have n:=V hK
 obtain⟨s,c9⟩:=hK j (Ok _ _)
 clear cx hK
 go_cut [15] (fun p wx=>∃B,p=RQ (some (Y B 0))∧Z (zK w4 wx g q {x with zA:=x.zA+1,zN:=x.zN+1} q)∧Z (NG wx B 83 #[I (x.zN+1),I th,Oa t,I at_,RO Ak kl.length ck,RO none 0 0,I (x.zA+1),I (x.zA+1)])∧Z (w4.heap.size≤B))
 case first=>
  have dd:g < j.heap.size:=T7.o.at_.blk.lt
  have ep:=(Ox j (.cells #[I 0,I 0,RP ⟨#[]⟩,I 0,RO none 0 0,RO none 0 0,I 0,I 0] 83) (Y g 14) dd).trans s
  have ga:=(Ox j (.cells #[I 0,I 0,RP ⟨#[]⟩,I 0,RO none 0 0,RO none 0 0,I 0,I 0] 83) (Y g 9) dd).trans c9
  go_region_held3 (fun W=>W.cell? (Y g 14)=some (I (x.zN+1))∧W.cell? (Y g 9)=some (I (x.zA+1))) (first|(refine⟨?_,?_⟩ <;> first|(with_reducible exact(n.o _ F.o).1)|(with_reducible exact(n.o _ F.o).2)|(with_reducible exact(n.o _ (zG _)).1)|(with_reducible exact(n.o _ (zG _)).2)|(with_reducible exact(n.o _ (Ok _ _)).1)|(with_reducible exact(n.o _ (Ok _ _)).2)|(with_reducible exact(n.o _ (zj F.o (zt _ _))).1)|(with_reducible exact(n.o _ (zj F.o (zt _ _))).2)|(with_reducible exact(n.o _ (zj (zt _ _) (zG _))).1)|(with_reducible exact(n.o _ (zj (zt _ _) (zG _))).2)|(with_reducible exact(n.o _ (zt _ _)).1)|(with_reducible exact(n.o _ (zt _ _)).2)|(with_reducible exact(n.o _ (cC F.o B0 (Nat.le_of_eq c'.o) _ _ _ _ _ _ _ _)).1)|(with_reducible exact(n.o _ (cC F.o B0 (Nat.le_of_eq c'.o) _ _ _ _ _ _ _ _)).2))|fail) (first
   |(go_at_call 131;(refine(az.o _ (by with_reducible exact zG _)).mono ?_);rintro e E ⟨rfl,bd⟩;have F:Z (Od j j E):=V (uk bd);clear bd)
   |(go_at_call 131;(refine(az.o _ (by with_reducible exact zj (zt _ _) (zG _))).mono ?_);rintro e E ⟨rfl,bd⟩;have dc:=uk bd;have M:=(NG.new j 83 #[I 0,I 0,RP ⟨#[]⟩,I 0,RO none 0 0,RO none 0 0,I 0,I 0]).below dc zv;have z0:E.cell? (Y j.heap.size 0)=some (I 0):=M.cell 0;have gj:=M.frozen 0;have z1:E.cell? (Y j.heap.size 1)=some (I 0):=M.cell 1;have gk:=M.frozen 1;have z2:E.cell? (Y j.heap.size 2)=some (RP ⟨#[]⟩):=M.cell 2;have gn:=M.frozen 2;have z3:E.cell? (Y j.heap.size 3)=some (I 0):=M.cell 3;have go:=M.frozen 3;have z4:E.cell? (Y j.heap.size 4)=some (RO none 0 0):=M.cell 4;have gp:=M.frozen 4;have z5:E.cell? (Y j.heap.size 5)=some (RO none 0 0):=M.cell 5;have gr:=M.frozen 5;have z6:E.cell? (Y j.heap.size 6)=some (I 0):=M.cell 6;have gs:=M.frozen 6;have z7:E.cell? (Y j.heap.size 7)=some (I 0):=M.cell 7;have gv:=M.frozen 7;have F:Z (Od j j E):=V (zj (zt _ _) dc);have HZ:=V M;clear bd dc M;obtain⟨B0,db⟩:∃B0,j.heap.size=B0:=⟨_,rfl⟩;rw[db] at z0 gj z1 gk z2 gn z3 go z4 gp z5 gr z6 gs z7 gv ⊢;have c':=V db;clear db s c9 ep ga dd)
   |fail)
  all_goals
   go_wp2_with fail
   go_meet
   first
   |(have M:=HZ.o;have gx:=c'.o;subst gx;exact⟨j.heap.size,rfl,V ((T7.o.yO F.o).newer H4.o (S:=[j.heap.size]) (((((((((NH.refl [j.heap.size] E).set (.inl zv) _).set (.inl zv) _).set (.inl zv) _).set (.inl zv) _).set (.inl zv) _).set (.inl zv) _).set (.inl zv) _).set (.inl zv) _) (fun k hk=>by simp at hk;have h1:=T7.o.N4.size;omega)),V ((((((((M.set 0 _).set 1 _).set 2 _).set 3 _).set 4 _).set 5 _).set 6 _).set 7 _),V T7.o.N4.size⟩)
   |exact⟨E.heap.size,rfl,V ((T7.o.yO F.o).yO (zt _ _)),V (NG.new E _ _),V (by have h1:=T7.o.N4.size;have h2:=F.o.size;omega)⟩
 case rest=>
  obtain⟨B,rfl,T8,BM,R⟩:=hcut
  obtain⟨wm,rfl⟩:∃wm:Oc,wm=wc:=⟨_,rfl⟩
  have b1:wm.cell? (Y B 1)=some (I th):=BM.o.cell 1
  have gi:wm.frozen? (Y B 1)=false:=BM.o.frozen 1
  have gf:wm.cell? (Y g 14)=some (I (x.zN+1)):=T8.o.at_.JS
  clear s c9 az n T7
  go_upto_if 108 with(fail)
  go_cut [16] (fun hw wx=>hw=I (if th=0 then 1 else 2)∧Z (NH [B] wm wx)∧Z (NG wx B 83 #[I (x.zN+1),I (if th=0 then x.zN+1 else th),Oa t,I at_,RO Ak kl.length ck,RO none 0 0,I (x.zA+1),I (x.zA+1)]))
  case first=>
   exact Mg
  case rest=>
   obtain⟨rfl,e4,dy⟩:=hcut
   obtain⟨wn,rfl⟩:∃wn:Oc,wn=wc:=⟨_,rfl⟩
   obtain⟨a,bw⟩:∃a,(if th=0 then x.zN+1 else th)=a:=⟨_,rfl⟩
   obtain⟨bp,bh⟩:∃bp:Int,(if th=0 then (1:Int) else 2)=bp:=⟨_,rfl⟩
   rw[bw] at dy
   rw[bh]
   have g7:=V bw
   have e6:=V bh
   have T9:Z (zK w4 wn g q {x with zA:=x.zA+1,zN:=x.zN+1} q):=V (T8.o.newer H4.o e4.o (fun k hk=>by simp at hk;have:=R.o;omega))
   have g6:=V (K.o.yE am.o H.o.at_ T9.o.N4)
   clear b1 gi gf e4 BM T8 bw bh
   obtain⟨i0,hi,hq,hs,ht⟩:=info_parts Try.infoMember2
   obtain⟨d,cd⟩:∃d,l.length=d:=⟨_,rfl⟩
   rw[cd] at K g6 ⊢
   have qp:=V cd
   have i3:d≤4294967296:=by rw[←cd];exact bi
   have g5:Z (UX w w4 wn g q {x with zA:=x.zA+1,zN:=x.zN+1} l B (I (x.zN+1)) (I a) (RP ⟨t.toArray⟩) (I at_) (RO Ak kl.length ck) (I (x.zA+1)) (I (x.zA+1)) 0 (RO none 0 0)):=V ⟨by
    have h1:=(zK.of_below H.o.at_ f.o).trans T9.o
    exact h1,T9.o.N4,dy.o,⟨none,Sl.nil _ _ _,fun b hb=>by cases hb⟩⟩
   clear cd
   go_upto_block 1 with(fail)
   go_cut [] (fun wx=>∃A9 c9,Z (UX w w4 wx g q {x with zA:=x.zA+1,zN:=x.zN+1} l B (I (x.zN+1)) (I a) (RP ⟨t.toArray⟩) (I at_) (RO Ak kl.length ck) (I (x.zA+1)) (I (x.zA+1)) d (RO A9 d c9)))
   case first=>
    go_wp2_with fail
    go_loopw [17] (fun i wr=>∃(k:Nat) (A9:OC Addr) (c9:Nat),k≤d∧i=I k∧Z (UX w w4 wr g q {x with zA:=x.zA+1,zN:=x.zN+1} l B (I (x.zN+1)) (I a) (RP ⟨t.toArray⟩) (I at_) (RO Ak kl.length ck) (I (x.zA+1)) (I (x.zA+1)) k (RO A9 k c9))) (fun i _=>d - (intOf i).toNat)
    case atStart=>exact⟨0,none,0,OE _,rfl,g5⟩
    case round=>
     obtain⟨k,A9,c9,hk,rfl,D⟩:=hrel
     by_cases af:k < d
     ·have ac:k < l.length:=JB
      have h9:(k:Int) < (d:Int):=O
      have ii:(0:Int)≤(k:Int):=O
      have ij:Ov.wrap ((k:Int)+1)=(k:Int)+1:=Og _ O
      obtain⟨b3,c1,gc,f8,du,_,_,ba,ey⟩:=K.o.at_ O
      injection du with hv1 hv2 du
      subst hv1 du
      clear hv2
      have hS:=K.o.yE am.o H.o.at_ D.o.ch
      obtain⟨b4,i4,gd,_,hf,_,_,bb,cj⟩:=hS.at_ O
      injection hf with hv5 hv6 hv7
      injection hv5 with hv8
      injection hv8 with hv9 hv10
      subst hv9 hv10
      have cs:wr.cell? (Y b3 (c1+k))=some (I l[k]):=(cj k O).1.trans (by simp[ac])
      have hid:l[k]∈ids (zM (l.take k) x.zg).1:=by
       rw[vX]
       exact a1.o _ (Oj ac)
      have fg:=ed.o k ac
      have ct:=fun W (hb:Od wr wr W)=>kS W g q _ (D.o.st.at_.later hb) (by
       show (zM (l.take k) x.zg).1.length≤_
       rw[vh]
       exact co) l[k] hid fg
      obtain⟨hh,ae,ad⟩:=D.o.mem
      have g2:=V ae
      have e9:=V ad
      have cB:wr.cell? (Y B 5)=some (RO A9 k c9):=D.o.blk.cell 5
      have fB:wr.frozen? (Y B 5)=false:=D.o.blk.frozen 5
      have a9:B < wr.heap.size:=D.o.blk.lt
      obtain⟨id,a4⟩:∃id,l[k]=id:=⟨_,rfl⟩
      obtain⟨Fs,bo⟩:∃Fs,yb (zM (l.take k) x.zg).1 l[k]=Fs:=⟨_,rfl⟩
      have y:∀W,Od wr wr W→C 132 #[Y g 0,I id] W fun e w'=>e=RR (I Fs)∧zK W w' g q {{x with zA:=x.zA+1,zN:=x.zN+1} with zg:=JR l[k] (zM (l.take k) x.zg).1} q:=fun W hb=>by
       have h1:=ct W hb
       rw[←a4,←bo]
       exact h1
      have cn:b3∉q.own g:=fun hm=>by
       have h1:=H.o.at_.lt b3 hm
       have h2:=am.o b3 f8
       omega
      have cl:b3 < wr.heap.size:=OJ ba D.o.ch.size
      have e0:=V cn
      have d':=V cl
      have ec:=V y
      have Cb:=V a4
      rw[a4] at cs
      have Fq:=V bo
      clear ey cj hS ct y ae ad a4 bo fg hid hv6 hv7 cn cl f8
      go_wp2_with fail
      go_region_law (first
       |(refine yK zF zF (O9 func132 zQ rfl) uE (ec.o _ (zG _)) ?_;rintro e E ⟨rfl,fs⟩;refine⟨_,rfl,?_⟩;have X:Z (zK wr E g q {{x with zA:=x.zA+1,zN:=x.zN+1} with zg:=JR l[k] (zM (l.take k) x.zg).1} q):=V ((zK.of_below D.o.st.at_ (zG _)).trans fs);have d3:=V (g2.o.yE (fun b hb=>Ol f.o.size (e9.o b hb)) H.o.at_ X.o.N4);have gb:E.cell? (Y B 5)=some (RO A9 k c9):=(D.o.blk.yE (Ol f.o.size R.o) H.o.at_ X.o.N4).cell 5;have gh:E.frozen? (Y B 5)=false:=(D.o.blk.yE (Ol f.o.size R.o) H.o.at_ X.o.N4).frozen 5;have ev:B < E.heap.size:=OJ a9 X.o.N4.size;have f9:B∉hh.toList:=(fun hm=>d3.o.vu (D.o.blk.yE (Ol f.o.size R.o) H.o.at_ X.o.N4) zD B yT rfl);have ia:E.cell? (Y b3 (c1+k))=some (I id):=(X.o.N4.cell (p:=⟨b3,c1+k,none⟩) d'.o e0.o).trans cs;clear fs)
       |(refine ye _ zF (.tmp 121) (.tmp 133) _ zF underlying81 hi hq hs ht rfl O (d3.o.alloc _) uE E.heap.size #[I id,I Fs] (e':=153) (fr:=(0,0)) (heap_alloc_new E _) 1 1 uE zF xt yV O ?_;intro v2 h2 w9 oh Fv Fu;obtain⟨cy,d9,rfl,_,_⟩:=oh.form;have ie:w9.frozen? (Y B 5)=false:=(Fv.frozen (p:=⟨B,5,none⟩) zT f9).trans ((Pn _ _ _ ev).trans gh);have i8:w9.cell? (Y B 5)=some (RO A9 k c9):=(Fv.cell (p:=⟨B,5,none⟩) zT f9).trans ((Pw _ _ _ ev).trans gb))
       |fail)
      all_goals
       have uo:=V (D.o.next (mv':=RO cy (k+1) d9) H.o.at_ R.o f.o.size ac (X.o.yO (zt _ _)) (d3.o.alloc _) e9.o IW Fv Fu)
       exact Nh
     ·have h8:k=d:=O
      subst h8
      have h9:¬(k:Int) < (k:Int):=O
      go_wp2_with fail
      go_meet
      exact⟨A9,c9,D⟩
   case rest=>
    obtain⟨A9,c9,D⟩:=hcut
    obtain⟨we,rfl⟩:∃we:Oc,we=wc:=⟨_,rfl⟩
    have dt:l.take d=l:=Ou bC
    have bu:zK w we g q {{x with zA:=x.zA+1,zN:=x.zN+1} with zg:=(zM l x.zg).1} q:=by
     have h1:=D.o.st
     rw[dt] at h1
     exact h1
    have ek:=V bu
    have dr:=K.o.yE am.o H.o.at_ D.o.ch
    have i7:=V dr
    have bx:C 133 #[Y g 0,RO A3 d p3] we fun e w'=>∃Ae ce he,e=RR (RO Ae d ce)∧Sl w' 159 4 (RO Ae d ce) he d (yR (zX (x.zA+1) l))∧(∀b,he=some b→we.heap.size≤b)∧zK we w' g q {{x with zA:=x.zA+1,zN:=x.zN+1} with zg:=zI (x.zA+1) l (zM l x.zg).1} q:=by
     have h1:=UF we g q {{x with zA:=x.zA+1,zN:=x.zN+1} with zg:=(zM l x.zg).1} bu.at_ (by
      show (zM l x.zg).1.length≤_
      rw[vh]
      exact co) l (RO A3 d p3) (by
      rw[qp.o]
      exact dr.reads (q.own g) (fun b hb hm=>by
       have h1:=H.o.at_.lt b hm
       have h2:=am.o b hb
       omega)) (by rw[qp.o];omega) (fun i hi=>by
      show i∈ids (zM l x.zg).1
      rw[vX]
      exact a1.o i hi)
     refine h1.mono ?_
     rintro e w' ⟨v',Cw,rfl,sw,Cv,Cu⟩
     rw[qp.o] at sw
     exact fQ
    have a':=V bx
    clear bu dr bx
    go_upto_region 24 with(first
     |(go_at_call 133;refine a'.o.mono ?_;rintro e z ⟨Ae,ce,he,rfl,fn,fk,ft⟩;have d4:=V fn;have ef:=V fk;have aw:=V ft;clear fn fk ft)
     |fail)
    obtain⟨x3,b'⟩:∃x3:Acc,x3={{x with zA:=x.zA+1,zN:=x.zN+1} with zg:=zI (x.zA+1) l (zM l x.zg).1}:=⟨_,rfl⟩
    have aa:zK w z g q x3 q:=by
     rw[b']
     exact ek.o.trans aw.o
    have ex:NH (q.own g) w4 z:=D.o.ch.trans aw.o.N4 (fun i hi=>.inl hi)
    obtain⟨ha,ae,ad⟩:=D.o.mem
    rw[dt] at ae
    have G:=D.o.blk.yE (Ol f.o.size R.o) H.o.at_ aw.o.N4
    have bk:=ae.yE (fun b hb=>Ol f.o.size (ad b hb)) H.o.at_ aw.o.N4
    have dj:=av.o.yE d2.o H.o.at_ ex
    obtain⟨mm,a5⟩:∃mm:xd,mm=⟨⟨x.zN+1,a,t,at_,kl,(zM l x.zg).2,x.zA+1,x.zA+1⟩,RO Ak kl.length ck,RO A9 d c9⟩:=⟨_,rfl⟩
    have y:(zM l x.zg).2.length=d:=by rw[ZN,qp.o]
    have br:xB z (q.own g) mm:=by
     rw[a5]
     refine⟨dj.reads _ (fun b hb hm=>?_),?_,dj.ty,bk.ty⟩
     ·have h1:=H.o.at_.lt b hm
      have h2:=d2.o b hb
      omega
     ·have h3:Sl z 153 2 (RO A9 d c9) ha (zM l x.zg).2.length (zU yC (zM l x.zg).2):=by
       rw[y]
       exact bk
      refine h3.reads _ (fun b hb hm=>?_)
      have h1:=H.o.at_.lt b hm
      have h2:=ad b hb
      have h4:=f.o.size
      omega
    have fb:xV mm=[I (x.zN+1),I a,RP ⟨t.toArray⟩,I at_,RO Ak kl.length ck,RO A9 d c9,I (x.zA+1),I (x.zA+1)]:=by
     rw[a5]
     rfl
    have fc:mm.p=⟨x.zN+1,a,t,at_,kl,(zM l x.zg).2,x.zA+1,x.zA+1⟩:=by rw[a5]
    obtain⟨cz,da,bz,_,_⟩:=H.o.at_.zC.form
    have cc:x3.zC=x.zC:=by rw[b']
    have dl:Sl z 83 8 (RO cz x.zC.length da) q.hm x.zC.length (zU xV q.ms):=by
     rw[←bz,←cc]
     exact aa.at_.zC
    obtain⟨a0,a6⟩:∃a0,x.zC.length=a0:=⟨_,rfl⟩
    rw[a6] at dl
    have bl:a0≤4294967296:=by
     have h1:=H.o.fit.nm
     have h2:=H.o.fit.zA
     have h3:=H.o.fit.N3.mod
     omega
    have ca:z.cell? (Y g 11)=some (RO cz a0 da):=by
     rw[←a6,←bz]
     exact aa.at_.xj
    have et:z.frozen? (Y g 11)=false:=aa.at_.frozen 11
    have df:g < z.heap.size:=aa.at_.blk.lt
    have b0:z.cell? (Y B 0)=some (I (x.zN+1)):=G.cell 0
    have b1:z.cell? (Y B 1)=some (I a):=G.cell 1
    have b2:z.cell? (Y B 2)=some (RP ⟨t.toArray⟩):=G.cell 2
    have b3:z.cell? (Y B 3)=some (I at_):=G.cell 3
    have b4:z.cell? (Y B 4)=some (RO Ak kl.length ck):=G.cell 4
    have b5:z.cell? (Y B 5)=some (RO A9 d c9):=G.cell 5
    have b6:z.cell? (Y B 6)=some (I (x.zA+1)):=G.cell 6
    have b7:z.cell? (Y B 7)=some (I (x.zA+1)):=G.cell 7
    obtain⟨j0,hj,h5,h6,h7⟩:=info_parts Try.infoMail
    have ea:=V dl
    have c8:=V aa
    have ao:=V br
    have e8:=V fb
    have g1:=V fc
    have e2:=V G
    have g4:=V (cc ▸ a6:x3.zC.length=a0)
    have d8:=V b'
    have hx:=V cc
    have de:g∉q.hm.toList:=fun hm=>c8.o.at_.apart.hm yT
    have f':Z (B∉q.own g):=V (fun hm=>by
     have h1:=H.o.at_.lt B hm
     have h2:=f.o.size
     have h3:=R.o
     omega)
    have c6:Z (∀b,he=some b→b≠B∧w.heap.size≤b):=V (fun b hb=>by
     have h1:=ef.o b hb
     have h2:=D.o.blk.lt
     have h3:=D.o.ch.size
     have h4:=f.o.size
     omega)
    clear dl aa br fb fc G dj ae bk ad a5 dt a6 bz y D av d2 ed cc ex a'
    go_cut [] (fun wx=>∃q',Z (zK w wx g q {x3 with zC:=x.zC++[mm.p]} q')∧Z (NH (q.own g) z wx)∧Z (∀b,b < z.heap.size→b∉q.own g→b∉q'.own g))
    case first=>
     subst b'
     go_region_law (first
      |(refine ye _ zF (.tmp 143) (.tmp 145) _ zF underlying117 hj h5 h6 h7 rfl O ((ea.o.alloc _).heap zF) yl z.heap.size #[I (x.zN+1),I a,Oa t,I at_,RO Ak kl.length ck,RO A9 d c9,I (x.zA+1),I (x.zA+1)] (e':=83) (fr:=(0,0)) (heap_alloc_new z _) 1 1 yl zF xt yV O ?_;intro v2 h2 w9 oh Fv Fu;obtain⟨cy,d9,rfl,_,_⟩:=oh.form;have ib:w9.cell? (Y g 11)=some (RO cz a0 da):=(Fv.cell (p:=⟨g,11,none⟩) zT de).trans ((Pw _ _ _ df).trans ca);have ih:w9.frozen? (Y g 11)=false:=(Fv.frozen (p:=⟨g,11,none⟩) zT de).trans ((Pn _ _ _ df).trans et))
      |fail)
     all_goals
      have bs:=(c8.o.at_.alloc (.cells #[I (x.zN+1),I a,Oa t,I at_,RO Ak kl.length ck,RO A9 d c9,I (x.zA+1),I (x.zA+1)] 83)).eN mm (ao.o.step (NH.of_below (zt z _) _) (fun k hk=>.inl hk)) (v':=RO cy (a0+1) d9) (h':=h2) (w':=w9) (by
       rw[g4.o,e8.o]
       exact oh) ⟨Fv.os,Fv.tape,Fv.output,Fv.size,Fv.block⟩ Fu
      have U:=V bs
      clear bs oh Fv Fu
      go_wp2_with fail
      go_meet
      exact⟨_,V ((c8.o.yO (zt z _)).trans U.o),V (((NH.refl _ z).alloc _).trans U.o.N4 (fun i hi=>.inl hi)),V (fun b hb hn hm=>by
       rcases U.o.own b hm with h1|h1
       ·exact hn h1
       ·rw[O3] at h1
        omega)⟩
    case rest=>
     clear b'
     obtain⟨q',a8,e3,eg⟩:=hcut
     obtain⟨J,rfl⟩:∃J:Oc,J=wc:=⟨_,rfl⟩
     obtain⟨x4,c0⟩:∃x4:Acc,x4={x3 with zC:=x.zC++[mm.p]}:=⟨_,rfl⟩
     rw[←c0] at a8
     have ab:=e2.o.yE (Ol f.o.size R.o) H.o.at_ e3.o
     have fo:Sl J 159 4 (RO Ae d ce) he d (yR (zX (x.zA+1) l)):=d4.o.yE (fun b hb=>(c6.o b hb).2) H.o.at_ e3.o
     have cq:x4.zA=x.zA+1:=by rw[c0,d8.o]
     have dk:x4.log=x.log:=by rw[c0,d8.o]
     have hK:∀W,Od J J W→W.cell? (Y B 0)=some (I (x.zN+1))∧W.cell? (Y B 1)=some (I a):=fun W hb=>⟨(hb.cell (p:=⟨B,0,none⟩) ab.lt).trans (ab.cell 0),(hb.cell (p:=⟨B,1,none⟩) ab.lt).trans (ab.cell 1)⟩
     have hS:∀W,Od J J W→Sl W 159 4 (RO Ae d ce) he d (yR (zX (x.zA+1) l)):=fun W hb=>fo.N4 (NH.of_below hb []) zv
     have hE:∀W,Od J J W→∀k i h,C 118 #[Y g 0,I k,I i,I h] W fun e w'=>e=RR (.agg #[I (x.zA+1),I k,I i,I h])∧Od W W w':=fun W hb k i h=>by
      have h0:=Zm W g q' x4 k i h (a8.o.at_.later hb)
      rw[cq] at h0
      exact h0
     have f5:∀b,he=some b→b∉q'.own g:=fun b hb hm=>by
      have h1:=d4.o.lt b hb
      refine eg.o b h1 (fun hm2=>?_) hm
      have h2:=H.o.at_.lt b hm2
      have h3:=(c6.o b hb).2
      omega
     have ew:B∉q'.own g:=fun hm=>eg.o B e2.o.lt f'.o hm
     have bj:1≤x4.log.most∧x4.log.most≤1099511627776∧x4.log.es.length≤1099511627776:=by
      rw[dk]
      exact pA
     obtain⟨k0,k1⟩:=hK J (Ok _ _)
     have a9:B < J.heap.size:=ab.lt
     have b8:B∉he.toList:=fun hm=>(c6.o B yT).1 rfl
     obtain⟨y0,hy,hl,ho,hp⟩:=info_parts Try.infoEntry
     have n:=V hK
     have d6:=V hS
     have HE:=V hE
     have e5:=V f5
     have g0:=V ew
     have T:=V bj
     have g9:=V c0
     have i5:=V dk
     clear hK hS hE f5 ew bj ab fo cq dk c0 ca et df de b0 b1 b2 b3 b4 b5 b6 b7 ea ao e8 c8 d4 ef aw
     go_upto_region 25 with(fail)
     go_cut [18] (fun v wx=>∃a7 s N,v=RO a7 (d+2) s∧Z (Sl wx 159 4 (RO a7 (d+2) s) N (d+2) (yR (zX (x.zA+1) l++[⟨x.zA+1,2,x.zN+1,1⟩,⟨x.zA+1,3,a,bp⟩]))∧NH he.toList J wx∧(N=he∨∃b,N=some b∧J.heap.size≤b)))
     case first=>
      go_region_held3 (fun W=>W.cell? (Y B 0)=some (I (x.zN+1))∧W.cell? (Y B 1)=some (I a))
       (first
        |exact an.o
        |exact n.o _ (zj c.o (zt _ _))
        |exact n.o _ c.o
        |exact n.o _ tq.o
        |exact n.o _ (zj tq.o (zG _))
        |exact n.o _ (Ok _ _)
        |exact n.o _ (zG _)
        |go_keep)
       (first
        |(go_at_call 118;refine(HE.o _ Ka _ _ _).mono ?_;rintro e c3 ⟨rfl,Cx⟩;have c:Z (Od J J c3):=V Kb;have kk:=n.o _ c.o;have i1:=World.new_ne c3 _ kk.1;have i2:=World.new_ne c3 _ kk.2;clear Cx kk)
        |(go_at_call 118;refine(HE.o _ uO _ _ _).mono ?_;rintro e hv ⟨rfl,b9⟩;have tq:Z (Od J J hv):=V (by first|exact b9|exact zj (zG J) b9);clear b9)
        |(refine ye _ zF (.tmp 149) (.tmp 159) _ zF underlying156 hy hl ho hp rfl O (d6.o _ (zj c.o (zt _ _))) yl c3.heap.size #[I (x.zA+1),I 2,I (x.zN+1),I 1,I (x.zA+1),I 3,I a,I bp] (e':=159) (fr:=(0,0)) (heap_alloc_new c3 _) 2 2 yl zF xt yV O ?_;intro v2 N u bt a3 cv;obtain⟨a7,s,rfl,_,_⟩:=bt.form;have an:Z (u.cell? (Y B 0)=some (I (x.zN+1))∧u.cell? (Y B 1)=some (I a)):=V ⟨(a3.cell (p:=⟨B,0,none⟩) (OJ a9 (zj c.o (zt _ _)).size) b8).trans (n.o _ (zj c.o (zt _ _))).1,(a3.cell (p:=⟨B,1,none⟩) (OJ a9 (zj c.o (zt _ _)).size) b8).trans (n.o _ (zj c.o (zt _ _))).2⟩)
        |fail)
      all_goals
       have al:Z (Sl u 159 4 (RO a7 (d+2) s) N (d+2) (yR (zX (x.zA+1) l++[⟨x.zA+1,2,x.zN+1,1⟩,⟨x.zA+1,3,a,bp⟩]))∧NH he.toList J u∧(N=he∨∃b,N=some b∧J.heap.size≤b)):=V ⟨by
        rw[vB]
        exact bt,(NH.of_below (zj c.o (zt _ _)) _).trans a3 (fun i hi=>.inl hi),by
        rcases cv with h1|⟨b,h1,h2⟩
        ·exact .inl h1
        ·exact .inr ⟨b,h1,Ol (zj c.o (zt _ _)).size h2⟩⟩
       clear bt a3 cv
       go_wp2_with fail
       go_meet
       exact⟨a7,s,N,rfl,al⟩
     case rest=>
      obtain⟨a7,s,N,rfl,L⟩:=hcut
      obtain⟨u,rfl⟩:∃u:Oc,u=wc:=⟨_,rfl⟩
      have Q:zJ u g q' x4:=zJ.chgE a8.o.at_ (d6.o J (Ok _ _)) e5.o L.o.2.1
      have cg:zK w u g q x4 q':=⟨Q,a8.o.N4.trans L.o.2.1 (fun k hk=>.inr ((c6.o k yi).2)),a8.o.own⟩
      have ci:=XZ Q T.o.1 T.o.2.1 T.o.2.2 L.o.1 (by
       rw[Oo,xP,qp.o]
       rfl) O (fun b hb hm=>by
       rcases L.o.2.2 with h1|⟨b2,h1,h2⟩
       ·exact e5.o b X8 hm
       ·rw[h1] at hb
        injection hb with hb
        have:=a8.o.at_.lt b hm
        omega)
      have ik:u.cell? (Y g 12)=some (RQ (some (Y q'.gl 0))):=Q.xp
      have be:B < u.heap.size:=OJ a9 L.o.2.1.size
      have cp:u.cell? (Y B 0)=some (I (x.zN+1)):=(L.o.2.1.cell (p:=⟨B,0,none⟩) a9 b8).trans k0
      have el:=V cg
      have an:=V cp
      have d1:=V be
      clear Q cg k0 k1 n d6 HE cp be
      go_wp2_with (first
       |(go_at_call 117;refine ci.mono ?_;rintro e fz ⟨rfl,hu,_,bv⟩;have em:=V bv;have z0:fz.cell? (Y B 0)=some (I (x.zN+1)):=(bv.N4.cell (p:=⟨B,0,none⟩) d1.o g0.o).trans an.o;clear bv ci)
       |fail)
      have al:Z (Zo w g q r (RR (.tuple #[I (x.zN+1),I 0])) fz):=V (by
       rw[ap.o]
       refine⟨rfl,hu,?_⟩
       have h1:=(el.o.trans em.o).zP (x.zP+t.length)
       rw[g9.o,d8.o,g1.o] at h1
       unfold wX
       rw[g7.o,e6.o]
       exact h1)
      go_ret2
      exact al.o
theorem nO (w:Oc)(g:Nat)(q:zW)(x:Acc)(is:Ob Int)(vb:Oe)(Sb:Ob Nat)(ks:yF)(vk:Oe)(Sk:Ob Nat)(at_:Int)(t:Ob Oz)(h:vO w g q x is vb Sb ks vk Sk t) :
  C 62 #[Y g 0,vb,vk,I at_,Oa t] w (Zo w g q (ya yL x is ks at_ t)):=by
 by_cases f:is=[]
 ·exact kF at_ w g q x is vb Sb ks vk Sk t h f
 by_cases j:at_ < 0
 ·exact kG at_ w g q x is vb Sb ks vk Sk t h f j
 by_cases d:253402300799 < at_
 ·exact kD at_ w g q x is vb Sb ks vk Sk t h f j d
 have b:¬(is=[]∨at_ < 0∨253402300799 < at_):=by simp[f,j,d]
 by_cases a:(yz ks).2=0
 case neg=>exact kC at_ w g q x is vb Sb ks vk Sk t h b a
 cases c:(rise is).any (fun id=>!zZ x.zg id) with
 |true=>exact kE at_ w g q x is vb Sb ks vk Sk t h b a c
 |false=>
  by_cases e:x.N3.xb≤(x.zC.length:Int)
  ·exact eO at_ w g q x is vb Sb ks vk Sk t h b a c e
  by_cases i:x.N3.yA - x.zP < (t.length:Int)
  ·exact eP at_ w g q x is vb Sb ks vk Sk t h b a c e i
  cases k:(rise is).any x.spent with
  |true=>exact eQ at_ w g q x is vb Sb ks vk Sk t h b a c e i k
  |false=>
   cases l:x.ends with
   |true=>exact kB at_ w g q x is vb Sb ks vk Sk t h b a c e i k l
   |false=>exact tR at_ w g q x is vb Sb ks vk Sk t h b a c e i k l
end Go.Proofs.YtnofkliaofgiaaaGreatDoor
