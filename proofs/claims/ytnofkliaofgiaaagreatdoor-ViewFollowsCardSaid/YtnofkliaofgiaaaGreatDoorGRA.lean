/-
  The reference's Append: words, and the ways in which it refuses. Printed by gen_refapp.py. Words for the loop of the reference's Append that numbers the members. Printed by gen_refapp2.py out of XAppendW.
-/
import Derived.Test.YtnofkliaofgiaaaGreatDoorGR7
import Derived.Test.YtnofkliaofgiaaaGreatDoorGRK
import Derived.Test.YtnofkliaofgiaaaGreatDoorGRM
set_option maxRecDepth 100000
set_option maxHeartbeats 8000000
open Go.Proofs.Tryz
open Go renaming TypeId→Pa,Value→Oe,World→Oc
open Go.Ending renaming returned→RR
open Go.IntKind renaming i64→Ov
open Go.IntWalk renaming i64_in→Og
open Go.RowKit renaming Below→Od
open Go.Value renaming slice→RO
open List renaming eq_nil_of_length_eq_zero→Oi,mem_cons→OB,mem_cons_of_mem→OP,take_succ_eq_append_getElem→Oh
open Nat renaming le_trans→Ol
open _root_ renaming List→Ob,Option→OC,UInt8→Oz,decide_eq_false→OD,decide_eq_true→OS,if_neg→Om,if_pos→OG
namespace Go.Proofs.YtnofkliaofgiaaaGreatDoor
open Go.Shelf Go.RowKit
section
attribute [local go_sem ↓] Go.wp_at_zero Go.wp_at_succ
section
variable {w W W2:Oc} {g:Nat} {q:zW} {x x1:Acc}
theorem Sl.yE {e:Pa}{size n:Nat}{v:Oe}{h:OC Nat}{xs:Ob Oe}(hs:Sl W e size v h n xs)(hf:∀b,h=some b→w.heap.size≤b)(hw:zJ w g q x)(hc:NH (q.own g) W W2):Sl W2 e size v h n xs:=
 hs.N4 hc fun b hb hm=>by
  have h1:=hw.lt b hm
  have h2:=hf b hb
  omega
theorem NG.yE {b:Nat}{t:Pa}{cs:Array Oe}(hB:NG W b t cs)(hf:w.heap.size≤b)(hw:zJ w g q x)(hc:NH (q.own g) W W2):NG W2 b t cs:=
 hB.N4 hc fun hm=>by
  have h1:=hw.lt b hm
  omega
theorem zK.yO (h:zK w W g q x1 q)(hb:Od W W W2):zK w W2 g q x1 q:=h.trans (zK.of_below h.at_ hb)
end
structure vO (w:Oc)(g:Nat)(q:zW)(x:Acc)(is:Ob Int)(vb:Oe)(Sb:Ob Nat)(ks:yF)(vk:Oe)(Sk:Ob Nat)(t:Ob Oz):Prop where
 at_:zJ w g q x
 fit:Fit x
 zg:NN w Sb 1 vb is.length (is.map yJ)
 nb:is.length≤4294967296
 keys:NN w Sk 1 vk ks.length (ks.map encStr)
 nk:ks.length≤1099511627776
 short:dX ks
 text:t.length≤1099511627776
section
variable {w:Oc} {g:Nat} {q:zW} {x:Acc} {is:Ob Int} {vb:Oe} {Sb:Ob Nat} {ks:yF} {vk:Oe} {Sk:Ob Nat} {t:Ob Oz}
theorem vO.Kk (h:vO w g q x is vb Sb ks vk Sk t):x.zg.length≤1099511627776:=by
 exact pp
theorem vO.kc (h:vO w g q x is vb Sb ks vk Sk t):C 126 #[vk] w fun e w'=>∃A cap hh,e=RR (.tuple #[RO A (yz ks).1.length cap,I (yz ks).2])∧Sl w' 9 1 (RO A (yz ks).1.length cap) hh (yz ks).1.length ((yz ks).1.map encStr)∧Od w w w'∧∀b,hh=some b→w.heap.size≤b:=
 VR w vk ks.length ks rfl h.nk (h.keys.sub (fun _ _ _ hm=>by cases hm)) h.short
theorem vO.oc (h:vO w g q x is vb Sb ks vk Sk t)(W:Oc)(hb:Od w w W):C 127 #[vb] W fun e w'=>∃A cap hh,e=RR (RO A (rise is).length cap)∧Sl w' 3 1 (RO A (rise is).length cap) hh (rise is).length ((rise is).map yJ)∧Od W W w'∧∀b,hh=some b→W.heap.size≤b:=
 Q2 W vb Sb is (h.zg.below hb) (Ol h.nb zD)
theorem vO.bc (h:vO w g q x is vb Sb ks vk Sk t){b:Bool}(hb2:(rise is).any (fun id=>!zZ x.zg id)=b)(W:Oc)(hb:Od w w W)(v:Oe)(hr:NN W [] 1 v (rise is).length ((rise is).map yJ)):C 128 #[Y g 0,v] W fun e w'=>e=RR (.bool (!b))∧Od W W w':=by
 exact FY
theorem vO.rc (h:vO w g q x is vb Sb ks vk Sk t)(hall:∀i∈rise is,i∈ids x.zg){b:Bool}(hb2:(rise is).any x.spent=b)(W:Oc)(hb:Od w w W)(v:Oe)(hr:NN W [] 1 v (rise is).length ((rise is).map yJ)):C 130 #[Y g 0,v] W fun e w'=>e=RR (.bool (!b))∧Od W W w':=by
 rw[←hb2]
 exact kV W g q x v [] (rise is) (h.at_.later hb) h.Kk hr pI hall
theorem vO.zc (h:vO w g q x is vb Sb ks vk Sk t)(W:Oc)(hb:Od w w W):C 129 #[Y g 0] W fun e w'=>e=RR (I x.zP)∧W=w':=
 DA W g q x (h.at_.later hb) h.fit
theorem vO.sc (h:vO w g q x is vb Sb ks vk Sk t){b:Bool}(hb2:x.ends=b)(W:Oc)(hb:Od w w W):C 116 #[Y g 0] W fun e w'=>e=RR (.bool (!b))∧zK W w' g q (if b then x else {x with zA:=x.zA+1}) q:=by
 rw[←hb2]
 exact ZQ W g q x (h.at_.later hb) h.fit
theorem vO.room (h:vO w g q x is vb Sb ks vk Sk t):∃A c,q.vm=RO A x.zC.length c∧∀W,Od w w W→W.cell? (Y g 11)=some (RO A x.zC.length c)∧W.cell? (Y g 2)=some (I x.N3.xb)∧W.cell? (Y g 4)=some (I x.N3.yA):=by
 obtain⟨A,c,b,_,_⟩:=h.at_.zC.form
 refine⟨A,c,b,fun W hb=>?_⟩
 have a:=h.at_.later hb
 exact⟨a.xj.trans (by rw[b]),a.cells 2,a.cells 4⟩
end
theorem kF (at_:Int)(w:Oc)(g:Nat)(q:zW)(x:Acc)(is:Ob Int)(vb:Oe)(Sb:Ob Nat)(ks:yF)(vk:Oe)(Sk:Ob Nat)(t:Ob Oz)(h:vO w g q x is vb Sb ks vk Sk t)(hbad:is=[]) :
  C 62 #[Y g 0,vb,vk,I at_,Oa t] w (Zo w g q (ya yL x is ks at_ t)):=by
 have a:ya yL x is ks at_ t=(x,0,1):=by
  unfold ya xO
  rw[OG (.inl hbad)]
 rw[a]
 have d:((is.length:Int)==0)=true:=by rw[hbad];rfl
 obtain⟨A,c,b,_,_⟩:=h.zg.form
 rw[b]
 have H:=V h
 clear b h a hbad
 go_enter func62,ntmps62
 go_wp2_with fail
 go_ret2
 exact⟨rfl,q,zK.refl H.o.at_⟩
theorem kG (at_:Int)(w:Oc)(g:Nat)(q:zW)(x:Acc)(is:Ob Int)(vb:Oe)(Sb:Ob Nat)(ks:yF)(vk:Oe)(Sk:Ob Nat)(t:Ob Oz)(h:vO w g q x is vb Sb ks vk Sk t)(hne:is≠[])(hbad:at_ < 0) :
  C 62 #[Y g 0,vb,vk,I at_,Oa t] w (Zo w g q (ya yL x is ks at_ t)):=by
 have mr:ya yL x is ks at_ t=(x,0,1):=by
  unfold ya xO
  rw[OG (.inr (.inl hbad))]
 exact MT
theorem kD (at_:Int)(w:Oc)(g:Nat)(q:zW)(x:Acc)(is:Ob Int)(vb:Oe)(Sb:Ob Nat)(ks:yF)(vk:Oe)(Sk:Ob Nat)(t:Ob Oz)(h:vO w g q x is vb Sb ks vk Sk t)(hne:is≠[])(hg1:¬at_ < 0)(hbad:253402300799 < at_) :
  C 62 #[Y g 0,vb,vk,I at_,Oa t] w (Zo w g q (ya yL x is ks at_ t)):=by
 have mr:ya yL x is ks at_ t=(x,0,1):=by
  unfold ya xO
  rw[OG (.inr (.inr hbad))]
 exact MT
theorem kC (at_:Int)(w:Oc)(g:Nat)(q:zW)(x:Acc)(is:Ob Int)(vb:Oe)(Sb:Ob Nat)(ks:yF)(vk:Oe)(Sk:Ob Nat)(t:Ob Oz)(h:vO w g q x is vb Sb ks vk Sk t)(hgood:¬(is=[]∨at_ < 0∨253402300799 < at_))(hke:(yz ks).2≠0) :
  C 62 #[Y g 0,vb,vk,I at_,Oa t] w (Zo w g q (ya yL x is ks at_ t)):=by
 have a:ya yL x is ks at_ t=(x,0,(yz ks).2):=by
  unfold ya xO
  rw[Om hgood,OG hke]
 rw[a]
 obtain⟨A,n,i,_,_⟩:=h.zg.form
 have jw:is.length≠0:=fun h0=>hgood (.inl (Oi h0))
 have s:((is.length:Int)==0)=false:=Zt
 have p:¬at_ < 0:=fun h0=>hgood (.inr (.inl h0))
 have r:¬253402300799 < at_:=fun h0=>hgood (.inr (.inr h0))
 have b:=h.kc
 rw[i]
 have H:=V h
 generalize (yz ks).2=ke at hke b ⊢
 have z:(ke !=0)=true:=by simpa using hke
 have k:=V b
 clear i h a hgood jw b hke
 go_enter func62,ntmps62
 go_wp2_with (first
  |(go_at_call 126;refine k.o.mono ?_;rintro e B ⟨u,v,y,rfl,f,c,d⟩;have m:=V f;have j:=V c;have l:=V d;clear f c d)
  |fail)
 go_ret2
 exact⟨rfl,q,zK.of_below H.o.at_ j.o⟩
theorem kE (at_:Int)(w:Oc)(g:Nat)(q:zW)(x:Acc)(is:Ob Int)(vb:Oe)(Sb:Ob Nat)(ks:yF)(vk:Oe)(Sk:Ob Nat)(t:Ob Oz)(h:vO w g q x is vb Sb ks vk Sk t)(hgood:¬(is=[]∨at_ < 0∨253402300799 < at_))(hke:(yz ks).2=0)(hwa:(rise is).any (fun id=>!zZ x.zg id)=true) :
  C 62 #[Y g 0,vb,vk,I at_,Oa t] w (Zo w g q (ya yL x is ks at_ t)):=by
 have d:ya yL x is ks at_ t=(x,0,6):=by
  unfold ya xO
  rw[Om hgood,Om ZZ,OG hwa]
 rw[d]
 obtain⟨A,M,z,_,_⟩:=h.zg.form
 have jw:is.length≠0:=fun h0=>hgood (.inl (Oi h0))
 have R:((is.length:Int)==0)=false:=Zt
 have P:¬at_ < 0:=fun h0=>hgood (.inr (.inl h0))
 have Q:¬253402300799 < at_:=fun h0=>hgood (.inr (.inr h0))
 have k:=h.kc
 have l:=h.oc
 rw[z] at l ⊢
 rw[hke] at k
 have p:=h.bc hwa
 have H:=V h
 have E:=V k
 have F:=V l
 have D:=V p
 clear z h d hgood jw k hke l p hwa
 go_enter func62,ntmps62
 go_wp2_with (first
  |(go_at_call 126;refine E.o.mono ?_;rintro e w1 ⟨T,U,W,rfl,y,r,s⟩;have n:=V y;have f:=V r;have K:=V s;clear y r s)
  |(go_at_call 127;refine(F.o _ f.o).mono ?_;rintro e w2 ⟨S,X,N,rfl,v,j,u⟩;have m:=V (zj f.o j);have i:=V v;have L:Z (∀b,N=some b→w.heap.size≤b):=V (fun b hb=>Ol f.o.size (u b hb));have c:=V (n.o.keep (fun b hb=>j.block b (n.o.lt b hb)));clear v j u)
  |(go_at_call 128;refine(D.o _ m.o _ (i.o.reads [] zv)).mono ?_;rintro e w3 ⟨rfl,a⟩;have B:=V (zj m.o a);have J:=V (i.o.keep (fun b hb=>a.block b (i.o.lt b hb)));have G:=V (c.o.keep (fun b hb=>a.block b (c.o.lt b hb)));clear a)
  |fail)
 go_ret2
 exact⟨rfl,q,zK.of_below H.o.at_ B.o⟩
theorem eO (at_:Int)(w:Oc)(g:Nat)(q:zW)(x:Acc)(is:Ob Int)(vb:Oe)(Sb:Ob Nat)(ks:yF)(vk:Oe)(Sk:Ob Nat)(t:Ob Oz)(h:vO w g q x is vb Sb ks vk Sk t)(hgood:¬(is=[]∨at_ < 0∨253402300799 < at_))(hke:(yz ks).2=0)(hwa:(rise is).any (fun id=>!zZ x.zg id)=false)(hfu1:x.N3.xb≤(x.zC.length:Int)) :
  C 62 #[Y g 0,vb,vk,I at_,Oa t] w (Zo w g q (ya yL x is ks at_ t)):=by
 have i:ya yL x is ks at_ t=(x,0,8):=by
  unfold ya xO
  rw[Om hgood,Om ZZ,Om Yr,OG (.inl hfu1)]
 rw[i]
 obtain⟨A,a4,M,_,_⟩:=h.zg.form
 have jw:is.length≠0:=fun h0=>hgood (.inl (Oi h0))
 have a7:((is.length:Int)==0)=false:=Zt
 have a5:¬at_ < 0:=fun h0=>hgood (.inr (.inl h0))
 have a6:¬253402300799 < at_:=fun h0=>hgood (.inr (.inr h0))
 have n:=h.kc
 have p:=h.oc
 rw[M] at p ⊢
 rw[hke] at n
 have y:=h.bc hwa
 obtain⟨Am,cm,T,a⟩:=h.room
 have N:=h.zc
 obtain⟨U,E⟩:∃U,x.zC.length=U:=⟨_,rfl⟩
 rw[E] at a hfu1
 have S:=h.fit.N3.size
 have G:0≤x.zP:=by
  rw[h.fit.zP.1]
  exact xo _
 have J:=h.fit.zP.2
 have gw:Ov.wrap (x.N3.yA - x.zP)=x.N3.yA - x.zP:=Og _ O
 obtain⟨r,f⟩:∃r,x.N3.xb=r:=⟨_,rfl⟩
 rw[f] at a hfu1
 obtain⟨v,B⟩:∃v,x.N3.yA - x.zP=v:=⟨_,rfl⟩
 have k:=V a
 have a2:=V N
 have f1:decide (r≤(U:Int))=true:=OS hfu1
 clear hfu1 gw
 have H:=V h
 have Q:=V n
 have R:=V p
 have P:=V y
 clear M h i hgood jw n hke p y hwa a N S G J T E f B
 go_enter func62,ntmps62
 go_upto_region 9 with(first
  |(go_at_call 126;refine Q.o.mono ?_;rintro e w1 ⟨Ak,ck,hk,rfl,L,z,D⟩;have u:=V L;have j:=V z;have a0:=V D;clear L z D)
  |(go_at_call 127;refine(R.o _ j.o).mono ?_;rintro e w2 ⟨A3,p3,h3,rfl,K,m,F⟩;have s:=V (zj j.o m);have l:=V K;have a1:Z (∀b,h3=some b→w.heap.size≤b):=V (fun b hb=>Ol j.o.size (F b hb));have d:=V (u.o.keep (fun b hb=>m.block b (u.o.lt b hb)));clear K m F)
  |(go_at_call 128;refine(P.o _ s.o _ (l.o.reads [] zv)).mono ?_;rintro e w3 ⟨rfl,c⟩;have bn:=V (zj s.o c);have X:=V (l.o.keep (fun b hb=>c.block b (l.o.lt b hb)));have W:=V (d.o.keep (fun b hb=>c.block b (d.o.lt b hb)));clear c)
  |fail)
 obtain⟨a3,c2,c4⟩:=k.o _ bn.o
 go_quiet (fail)
 exact Hi
theorem eP (at_:Int)(w:Oc)(g:Nat)(q:zW)(x:Acc)(is:Ob Int)(vb:Oe)(Sb:Ob Nat)(ks:yF)(vk:Oe)(Sk:Ob Nat)(t:Ob Oz)(h:vO w g q x is vb Sb ks vk Sk t)(hgood:¬(is=[]∨at_ < 0∨253402300799 < at_))(hke:(yz ks).2=0)(hwa:(rise is).any (fun id=>!zZ x.zg id)=false)(hfu1:¬x.N3.xb≤(x.zC.length:Int))(hfu2:x.N3.yA - x.zP < (t.length:Int)) :
  C 62 #[Y g 0,vb,vk,I at_,Oa t] w (Zo w g q (ya yL x is ks at_ t)):=by
 have i:ya yL x is ks at_ t=(x,0,8):=by
  unfold ya xO
  rw[Om hgood,Om ZZ,Om Yr,OG (.inr hfu2)]
 rw[i]
 obtain⟨A,a4,M,_,_⟩:=h.zg.form
 have jw:is.length≠0:=fun h0=>hgood (.inl (Oi h0))
 have a7:((is.length:Int)==0)=false:=Zt
 have a5:¬at_ < 0:=fun h0=>hgood (.inr (.inl h0))
 have a6:¬253402300799 < at_:=fun h0=>hgood (.inr (.inr h0))
 have n:=h.kc
 have p:=h.oc
 rw[M] at p ⊢
 rw[hke] at n
 have y:=h.bc hwa
 obtain⟨Am,cm,U,a⟩:=h.room
 have N:=h.zc
 obtain⟨W,E⟩:∃W,x.zC.length=W:=⟨_,rfl⟩
 rw[E] at a hfu1
 have T:=h.fit.N3.size
 have G:0≤x.zP:=by
  rw[h.fit.zP.1]
  exact xo _
 have J:=h.fit.zP.2
 have gw:Ov.wrap (x.N3.yA - x.zP)=x.N3.yA - x.zP:=Og _ O
 obtain⟨r,f⟩:∃r,x.N3.xb=r:=⟨_,rfl⟩
 rw[f] at a hfu1
 obtain⟨v,B⟩:∃v,x.N3.yA - x.zP=v:=⟨_,rfl⟩
 have k:=V a
 have S:=V N
 have f1:decide (r≤(W:Int))=false:=OD hfu1
 have f2:decide (x.N3.yA - x.zP < (t.length:Int))=true:=OS hfu2
 clear hfu1 hfu2
 have H:=V h
 have Q:=V n
 have R:=V p
 have P:=V y
 clear M h i hgood jw n hke p y hwa a N T G J U E f B
 go_enter func62,ntmps62
 go_upto_region 9 with(first
  |(go_at_call 126;refine Q.o.mono ?_;rintro e w1 ⟨Ak,ck,hk,rfl,L,z,D⟩;have u:=V L;have j:=V z;have a1:=V D;clear L z D)
  |(go_at_call 127;refine(R.o _ j.o).mono ?_;rintro e w2 ⟨A3,p3,h3,rfl,K,m,F⟩;have s:=V (zj j.o m);have l:=V K;have a2:Z (∀b,h3=some b→w.heap.size≤b):=V (fun b hb=>Ol j.o.size (F b hb));have d:=V (u.o.keep (fun b hb=>m.block b (u.o.lt b hb)));clear K m F)
  |(go_at_call 128;refine(P.o _ s.o _ (l.o.reads [] zv)).mono ?_;rintro e w3 ⟨rfl,c⟩;have bn:=V (zj s.o c);have a0:=V (l.o.keep (fun b hb=>c.block b (l.o.lt b hb)));have X:=V (d.o.keep (fun b hb=>c.block b (d.o.lt b hb)));clear c)
  |fail)
 obtain⟨a3,c2,c4⟩:=k.o _ bn.o
 go_quiet ((go_at_call 129;exact dG (S.o _ (zO bn.o _))))
 exact Hi
theorem eQ (at_:Int)(w:Oc)(g:Nat)(q:zW)(x:Acc)(is:Ob Int)(vb:Oe)(Sb:Ob Nat)(ks:yF)(vk:Oe)(Sk:Ob Nat)(t:Ob Oz)(h:vO w g q x is vb Sb ks vk Sk t)(hgood:¬(is=[]∨at_ < 0∨253402300799 < at_))(hke:(yz ks).2=0)(hwa:(rise is).any (fun id=>!zZ x.zg id)=false)(hfu1:¬x.N3.xb≤(x.zC.length:Int))(hfu2:¬x.N3.yA - x.zP < (t.length:Int))(hsp:(rise is).any x.spent=true) :
  C 62 #[Y g 0,vb,vk,I at_,Oa t] w (Zo w g q (ya yL x is ks at_ t)):=by
 have m:ya yL x is ks at_ t=(x,0,11):=by
  unfold ya xO
  rw[Om hgood,Om ZZ,Om Yr,Om O,OG (by rw[hsp];simp)]
 rw[m]
 have Q:=h.rc (JP hwa) hsp
 have a2:=V Q
 clear Q
 obtain⟨A,ab,T,_,_⟩:=h.zg.form
 have jw:is.length≠0:=fun h0=>hgood (.inl (Oi h0))
 have ae:((is.length:Int)==0)=false:=Zt
 have ac:¬at_ < 0:=fun h0=>hgood (.inr (.inl h0))
 have ad:¬253402300799 < at_:=fun h0=>hgood (.inr (.inr h0))
 have u:=h.kc
 have v:=h.oc
 rw[T] at v ⊢
 rw[hke] at u
 have F:=h.bc hwa
 obtain⟨Am,cm,a5,a⟩:=h.room
 have U:=h.zc
 obtain⟨nm,L⟩:∃nm,x.zC.length=nm:=⟨_,rfl⟩
 rw[L] at a hfu1
 have a4:=h.fit.N3.size
 have N:0≤x.zP:=by
  rw[h.fit.zP.1]
  exact xo _
 have P:=h.fit.zP.2
 have gw:Ov.wrap (x.N3.yA - x.zP)=x.N3.yA - x.zP:=Og _ O
 obtain⟨y,l⟩:∃y,x.N3.xb=y:=⟨_,rfl⟩
 rw[l] at a hfu1
 obtain⟨D,J⟩:∃D,x.N3.yA - x.zP=D:=⟨_,rfl⟩
 have p:=V a
 have a3:=V U
 have f1:decide (y≤(nm:Int))=false:=OD hfu1
 have f2:decide (x.N3.yA - x.zP < (t.length:Int))=false:=OD hfu2
 clear hfu1 hfu2
 have H:=V h
 have a0:=V u
 have a1:=V v
 have X:=V F
 clear T h m hgood jw u hke v F hwa a U a4 N P a5 L l J
 go_enter func62,ntmps62
 go_upto_region 9 with(first
  |(go_at_call 126;refine a0.o.mono ?_;rintro e w1 ⟨Ak,ck,hk,rfl,S,G,K⟩;have B:=V S;have n:=V G;have a8:=V K;clear S G K)
  |(go_at_call 127;refine(a1.o _ n.o).mono ?_;rintro e w2 ⟨A3,p3,h3,rfl,R,s,M⟩;have z:=V (zj n.o s);have r:=V R;have a9:Z (∀b,h3=some b→w.heap.size≤b):=V (fun b hb=>Ol n.o.size (M b hb));have j:=V (B.o.keep (fun b hb=>s.block b (B.o.lt b hb)));clear R s M)
  |(go_at_call 128;refine(X.o _ z.o _ (r.o.reads [] zv)).mono ?_;rintro e w3 ⟨rfl,f⟩;have d:=V (zj z.o f);have c:=V (r.o.keep (fun b hb=>f.block b (r.o.lt b hb)));have k:=V (j.o.keep (fun b hb=>f.block b (j.o.lt b hb)));clear f)
  |fail)
 obtain⟨aa,c2,c4⟩:=p.o _ d.o
 go_quiet ((go_at_call 129;exact dG (a3.o _ (zO d.o _))))
 go_wp2_with (first
  |(go_at_call 130;refine(a2.o _ (zO d.o _) _ ((c.o.heap zF).reads [] zv)).mono ?_;rintro e w4 ⟨rfl,E⟩;have i:=Zx E;have W:=V (zj d.o i);have a7:=V (c.o.keep (fun b hb=>i.block b (c.o.lt b hb)));have a6:=V (k.o.keep (fun b hb=>i.block b (k.o.lt b hb)));clear E i)
  |fail)
 go_ret2
 exact⟨rfl,q,zK.of_below H.o.at_ W.o⟩
theorem kB (at_:Int)(w:Oc)(g:Nat)(q:zW)(x:Acc)(is:Ob Int)(vb:Oe)(Sb:Ob Nat)(ks:yF)(vk:Oe)(Sk:Ob Nat)(t:Ob Oz)(h:vO w g q x is vb Sb ks vk Sk t)(hgood:¬(is=[]∨at_ < 0∨253402300799 < at_))(hke:(yz ks).2=0)(hwa:(rise is).any (fun id=>!zZ x.zg id)=false)(hfu1:¬x.N3.xb≤(x.zC.length:Int))(hfu2:¬x.N3.yA - x.zP < (t.length:Int))(hsp:(rise is).any x.spent=false)(hen:x.ends=true) :
  C 62 #[Y g 0,vb,vk,I at_,Oa t] w (Zo w g q (ya yL x is ks at_ t)):=by
 have m:ya yL x is ks at_ t=(x,0,11):=by
  unfold ya xO
  rw[Om hgood,Om ZZ,Om Yr,Om O,OG (by rw[hen];simp)]
 rw[m]
 have S:=h.rc (JP hwa) hsp
 have a4:=V S
 have y:=h.sc hen
 simp only[if_true,Bool.not_true] at y
 have a5:=V y
 clear S y hsp
 obtain⟨A,ag,X,_,_⟩:=h.zg.form
 have jw:is.length≠0:=fun h0=>hgood (.inl (Oi h0))
 have an:((is.length:Int)==0)=false:=Zt
 have al:¬at_ < 0:=fun h0=>hgood (.inr (.inl h0))
 have am:¬253402300799 < at_:=fun h0=>hgood (.inr (.inr h0))
 have u:=h.kc
 have v:=h.oc
 rw[X] at v ⊢
 rw[hke] at u
 have J:=h.bc hwa
 obtain⟨Am,cm,a9,a⟩:=h.room
 have a0:=h.zc
 obtain⟨nm,N⟩:∃nm,x.zC.length=nm:=⟨_,rfl⟩
 rw[N] at a hfu1
 have a8:=h.fit.N3.size
 have Q:0≤x.zP:=by
  rw[h.fit.zP.1]
  exact xo _
 have R:=h.fit.zP.2
 have gw:Ov.wrap (x.N3.yA - x.zP)=x.N3.yA - x.zP:=Og _ O
 obtain⟨z,l⟩:∃z,x.N3.xb=z:=⟨_,rfl⟩
 rw[l] at a hfu1
 obtain⟨F,L⟩:∃F,x.N3.yA - x.zP=F:=⟨_,rfl⟩
 have p:=V a
 have a7:=V a0
 have f1:decide (z≤(nm:Int))=false:=OD hfu1
 have f2:decide (x.N3.yA - x.zP < (t.length:Int))=false:=OD hfu2
 clear hfu1 hfu2
 have H:=V h
 have a2:=V u
 have a3:=V v
 have a1:=V J
 clear X h m hgood jw u hke v J hwa a a0 a8 Q R a9 N l L
 go_enter func62,ntmps62
 go_upto_region 9 with(first
  |(go_at_call 126;refine a2.o.mono ?_;rintro e w1 ⟨Ak,ck,hk,rfl,U,K,M⟩;have E:=V U;have n:=V K;have ac:=V M;clear U K M)
  |(go_at_call 127;refine(a3.o _ n.o).mono ?_;rintro e w2 ⟨A3,p3,h3,rfl,T,s,P⟩;have B:=V (zj n.o s);have r:=V T;have ad:Z (∀b,h3=some b→w.heap.size≤b):=V (fun b hb=>Ol n.o.size (P b hb));have j:=V (E.o.keep (fun b hb=>s.block b (E.o.lt b hb)));clear T s P)
  |(go_at_call 128;refine(a1.o _ B.o _ (r.o.reads [] zv)).mono ?_;rintro e w3 ⟨rfl,f⟩;have d:=V (zj B.o f);have c:=V (r.o.keep (fun b hb=>f.block b (r.o.lt b hb)));have k:=V (j.o.keep (fun b hb=>f.block b (j.o.lt b hb)));clear f)
  |fail)
 obtain⟨ae,c2,c4⟩:=p.o _ d.o
 go_quiet ((go_at_call 129;exact dG (a7.o _ (zO d.o _))))
 go_wp2_with (first
  |(go_at_call 130;refine(a4.o _ (zO d.o _) _ ((c.o.heap zF).reads [] zv)).mono ?_;rintro e w4 ⟨rfl,G⟩;have i:=Zx G;have D:=V (zj d.o i);have ab:=V (c.o.keep (fun b hb=>i.block b (c.o.lt b hb)));have aa:=V (k.o.keep (fun b hb=>i.block b (k.o.lt b hb)));clear G i)
  |(go_at_call 116;refine(a5.o _ D.o).mono ?_;rintro e w5 ⟨rfl,W⟩;have a6:=V W;clear W)
  |fail)
 go_ret2
 exact⟨rfl,q,(zK.of_below H.o.at_ D.o).trans a6.o⟩
end
section
structure UX (w w5 wr:Oc)(g:Nat)(q:zW)(x2:Acc)(l:Ob Int)(B:Nat)(c0 c1 c2 c3 c4 c6 c7:Oe)(k:Nat)(mv:Oe):Prop where
 st:zK w wr g q {x2 with zg:=(zM (l.take k) x2.zg).1} q
 ch:NH (q.own g) w5 wr
 blk:NG wr B 83 #[c0,c1,c2,c3,c4,mv,c6,c7]
 mem:∃h,Sl wr 153 2 mv h k (zU yC (zM (l.take k) x2.zg).2)∧∀b,h=some b→w5.heap.size≤b
theorem UX.next {w w5 wr W W2:Oc}{g:Nat}{q:zW}{x x2:Acc}{l:Ob Int}{B:Nat}{c0 c1 c2 c3 c4 c6 c7:Oe}{k:Nat}{mv mv':Oe}(h:UX w w5 wr g q x2 l B c0 c1 c2 c3 c4 c6 c7 k mv)(hw:zJ w g q x)(hB5:w5.heap.size≤B)(h5:w.heap.size≤w5.heap.size)(hk:k < l.length)(ht:zK wr W g q {x2 with zg:=JR l[k] (zM (l.take k) x2.zg).1} q){hh h':OC Nat}(hs:Sl W 153 2 mv hh k (zU yC (zM (l.take k) x2.zg).2))(hf:∀b,hh=some b→w5.heap.size≤b)(hs2:Sl W2 153 2 mv' h' (k+1) (zU yC (zM (l.take k) x2.zg).2++[I l[k],I (yb (zM (l.take k) x2.zg).1 l[k])]))(hc:NH hh.toList W W2)(ho:h'=hh∨∃g,h'=some g∧W.heap.size≤g) :
  UX w w5 (W2.setCell (Y B 5) mv') g q x2 l B c0 c1 c2 c3 c4 c6 c7 (k+1) mv':=by
 have Bu:=ZO (l.take k) l[k] x2.zg
 rw[←Oh hk] at Bu
 have c:=ht.N4.size
 have d:=h.ch.size
 have a:B < wr.heap.size:=h.blk.lt
 have Bw:NG W B 83 #[c0,c1,c2,c3,c4,mv,c6,c7]:=h.blk.yE O hw ht.N4
 exact L8
end
end Go.Proofs.YtnofkliaofgiaaaGreatDoor
