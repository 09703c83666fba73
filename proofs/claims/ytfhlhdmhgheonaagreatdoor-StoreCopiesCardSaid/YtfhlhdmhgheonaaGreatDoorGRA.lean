/-
  The reference's Append: words, and the ways in which it refuses. Printed by gen_refapp.py. Words for the loop of the reference's Append that numbers the members. Printed by gen_refapp2.py out of XAppendW.
-/
import Derived.Test.YtfhlhdmhgheonaaGreatDoorGR7
import Derived.Test.YtfhlhdmhgheonaaGreatDoorGRK
import Derived.Test.YtfhlhdmhgheonaaGreatDoorGRM
set_option maxRecDepth 100000
set_option maxHeartbeats 8000000
namespace Go.Proofs.YtfhlhdmhgheonaaGreatDoor
open Go.Shelf Go.RowKit
attribute [local go_sem ↓] Go.wp_at_zero Go.wp_at_succ
section
variable {w W W2:World} {g:Nat} {q:zl} {x x1:Acc}
theorem Sl.zI {e:TypeId}{size n:Nat}{v:Value}{h:Option Nat}{xs:List Value}(hs:Sl W e size v h n xs)(hf:∀b,h=some b→w.heap.size≤b)(hw:zi w g q x)(hc:Chg (q.own g) W W2):Sl W2 e size v h n xs:=
 hs.chg hc fun b hb hm=>by
  have h1:=hw.lt b hm
  have h2:=hf b hb
  omega
theorem Blk.zI {b:Nat}{t:TypeId}{cs:Array Value}(hB:Blk W b t cs)(hf:w.heap.size≤b)(hw:zi w g q x)(hc:Chg (q.own g) W W2):Blk W2 b t cs:=
 hB.chg hc fun hm=>by
  have h1:=hw.lt b hm
  omega
theorem ze.zL (h:ze w W g q x1 q)(hb:Below W.heap.size W W2):ze w W2 g q x1 q:=h.trans (ze.of_below h.at_ hb)
end
structure xB (w:World)(g:Nat)(q:zl)(x:Acc)(is:List Int)(vb:Value)(Sb:List Nat)(ks:zN)(vk:Value)(Sk:List Nat)(t:List UInt8):Prop where
 at_:zi w g q x
 fit:Fit x
 boxes:RdS w Sb 1 vb is.length (is.map encI)
 nb:is.length≤4294967296
 keys:RdS w Sk 1 vk ks.length (ks.map encStr)
 nk:ks.length≤1099511627776
 short:Short ks
 text:t.length≤1099511627776
section
variable {w:World} {g:Nat} {q:zl} {x:Acc} {is:List Int} {vb:Value} {Sb:List Nat} {ks:zN} {vk:Value} {Sk:List Nat} {t:List UInt8}
theorem xB.zcp (h:xB w g q x is vb Sb ks vk Sk t):x.boxes.length≤1099511627776:=by
 have a:=h.fit.nb
 have b:=h.fit.clock
 have c:=h.fit.cfg.mod
 omega
theorem xB.kc (h:xB w g q x is vb Sb ks vk Sk t):Calls Tryz.prog 118 #[vk] w fun e w'=>∃A cap hh,e=.returned (.tuple #[.slice A (zG ks).1.length cap,.int .i64 (zG ks).2])∧Sl w' 9 1 (.slice A (zG ks).1.length cap) hh (zG ks).1.length ((zG ks).1.map encStr)∧Below w.heap.size w w'∧∀b,hh=some b→w.heap.size≤b:=
 YM w vk ks.length ks rfl h.nk (h.keys.sub (fun _ _ _ hm=>by cases hm)) h.short
theorem xB.oc (h:xB w g q x is vb Sb ks vk Sk t)(W:World)(hb:Below w.heap.size w W):Calls Tryz.prog 119 #[vb] W fun e w'=>∃A cap hh,e=.returned (.slice A (rise is).length cap)∧Sl w' 3 1 (.slice A (rise is).length cap) hh (rise is).length ((rise is).map encI)∧Below W.heap.size W w'∧∀b,hh=some b→W.heap.size≤b:=
 Vr W vb Sb is (h.boxes.below hb) (Nat.le_trans h.nb (by decide))
theorem xB.bc (h:xB w g q x is vb Sb ks vk Sk t){b:Bool}(hb2:(rise is).any (fun id=>!zu x.boxes id)=b)(W:World)(hb:Below w.heap.size w W)(v:Value)(hr:RdS W [] 1 v (rise is).length ((rise is).map encI)):Calls Tryz.prog 120 #[.pointer (some ⟨g,0,none⟩),v] W fun e w'=>e=.returned (.bool (!b))∧Below W.heap.size W w':=by
 rw[←hb2]
 exact UI W g q x v [] (rise is) (h.at_.later hb) h.zcp hr (by have:=zY is;have:=h.nb;omega)
theorem xB.rc (h:xB w g q x is vb Sb ks vk Sk t)(hall:∀i∈rise is,i∈ids x.boxes){b:Bool}(hb2:(rise is).any x.spent=b)(W:World)(hb:Below w.heap.size w W)(v:Value)(hr:RdS W [] 1 v (rise is).length ((rise is).map encI)):Calls Tryz.prog 122 #[.pointer (some ⟨g,0,none⟩),v] W fun e w'=>e=.returned (.bool (!b))∧Below W.heap.size W w':=by
 rw[←hb2]
 exact JK W g q x v [] (rise is) (h.at_.later hb) h.zcp hr (by have:=zY is;have:=h.nb;omega) hall
theorem xB.zc (h:xB w g q x is vb Sb ks vk Sk t)(W:World)(hb:Below w.heap.size w W):Calls Tryz.prog 121 #[.pointer (some ⟨g,0,none⟩)] W fun e w'=>e=.returned (.int .i64 x.octets)∧W=w':=
 zdE W g q x (h.at_.later hb) h.fit
theorem xB.sc (h:xB w g q x is vb Sb ks vk Sk t){b:Bool}(hb2:x.ends=b)(W:World)(hb:Below w.heap.size w W):Calls Tryz.prog 107 #[.pointer (some ⟨g,0,none⟩)] W fun e w'=>e=.returned (.bool (!b))∧ze W w' g q (if b then x else {x with clock:=x.clock+1}) q:=by
 rw[←hb2]
 exact uI W g q x (h.at_.later hb) h.fit
theorem xB.room (h:xB w g q x is vb Sb ks vk Sk t):∃A c,q.vm=.slice A x.mails.length c∧∀W,Below w.heap.size w W→W.cell? ⟨g,11,none⟩=some (.slice A x.mails.length c)∧W.cell? ⟨g,2,none⟩=some (.int .i64 x.cfg.maxMails)∧W.cell? ⟨g,4,none⟩=some (.int .i64 x.cfg.maxSize):=by
 obtain⟨A,c,b,_,_⟩:=h.at_.mails.form
 refine⟨A,c,b,fun W hb=>?_⟩
 have a:=h.at_.later hb
 exact⟨a.zU.trans (by rw[b]),a.cells 2,a.cells 4⟩
end
theorem Qa (at_:Int)(w:World)(g:Nat)(q:zl)(x:Acc)(is:List Int)(vb:Value)(Sb:List Nat)(ks:zN)(vk:Value)(Sk:List Nat)(t:List UInt8)(h:xB w g q x is vb Sb ks vk Sk t)(hbad:is=[]) :
  Calls Tryz.prog 50 #[.pointer (some ⟨g,0,none⟩),vb,vk,.int .i64 at_,.string ⟨t.toArray⟩] w (vS w g q (zq zO x is ks at_ t)):=by
 have a:zq zO x is ks at_ t=(x,0,1):=by
  unfold zq yS
  rw[if_pos (.inl hbad)]
 rw[a]
 have c:((is.length:Int)==0)=true:=by rw[hbad];rfl
 obtain⟨A,d,b,_,_⟩:=h.boxes.form
 rw[b]
 have H:=zdG h
 clear b h a hbad
 go_enter Tryz.func50,Tryz.ntmps50
 go_wp2_with fail
 go_ret2
 exact⟨rfl,q,ze.refl H.out.at_⟩
theorem Qs (at_:Int)(w:World)(g:Nat)(q:zl)(x:Acc)(is:List Int)(vb:Value)(Sb:List Nat)(ks:zN)(vk:Value)(Sk:List Nat)(t:List UInt8)(h:xB w g q x is vb Sb ks vk Sk t)(hne:is≠[])(hbad:at_ < 0) :
  Calls Tryz.prog 50 #[.pointer (some ⟨g,0,none⟩),vb,vk,.int .i64 at_,.string ⟨t.toArray⟩] w (vS w g q (zq zO x is ks at_ t)):=by
 have a:zq zO x is ks at_ t=(x,0,1):=by
  unfold zq yS
  rw[if_pos (.inr (.inl hbad))]
 rw[a]
 have c:((is.length:Int)==0)=false:=by simpa using hne
 obtain⟨A,d,b,_,_⟩:=h.boxes.form
 rw[b]
 have H:=zdG h
 clear b h a hne
 go_enter Tryz.func50,Tryz.ntmps50
 go_wp2_with fail
 go_ret2
 exact⟨rfl,q,ze.refl H.out.at_⟩
theorem J7 (at_:Int)(w:World)(g:Nat)(q:zl)(x:Acc)(is:List Int)(vb:Value)(Sb:List Nat)(ks:zN)(vk:Value)(Sk:List Nat)(t:List UInt8)(h:xB w g q x is vb Sb ks vk Sk t)(hne:is≠[])(hg1:¬at_ < 0)(hbad:253402300799 < at_) :
  Calls Tryz.prog 50 #[.pointer (some ⟨g,0,none⟩),vb,vk,.int .i64 at_,.string ⟨t.toArray⟩] w (vS w g q (zq zO x is ks at_ t)):=by
 have a:zq zO x is ks at_ t=(x,0,1):=by
  unfold zq yS
  rw[if_pos (.inr (.inr hbad))]
 rw[a]
 have c:((is.length:Int)==0)=false:=by simpa using hne
 obtain⟨A,d,b,_,_⟩:=h.boxes.form
 rw[b]
 have H:=zdG h
 clear b h a hne
 go_enter Tryz.func50,Tryz.ntmps50
 go_wp2_with fail
 go_ret2
 exact⟨rfl,q,ze.refl H.out.at_⟩
theorem Jt (at_:Int)(w:World)(g:Nat)(q:zl)(x:Acc)(is:List Int)(vb:Value)(Sb:List Nat)(ks:zN)(vk:Value)(Sk:List Nat)(t:List UInt8)(h:xB w g q x is vb Sb ks vk Sk t)(hgood:¬(is=[]∨at_ < 0∨253402300799 < at_))(hke:(zG ks).2≠0) :
  Calls Tryz.prog 50 #[.pointer (some ⟨g,0,none⟩),vb,vk,.int .i64 at_,.string ⟨t.toArray⟩] w (vS w g q (zq zO x is ks at_ t)):=by
 have a:zq zO x is ks at_ t=(x,0,(zG ks).2):=by
  unfold zq yS
  rw[if_neg hgood,if_pos hke]
 rw[a]
 obtain⟨A,s,d,_,_⟩:=h.boxes.form
 have c:is.length≠0:=fun h0=>hgood (.inl (List.eq_nil_of_length_eq_zero h0))
 have m:((is.length:Int)==0)=false:=by simpa using c
 have n:¬at_ < 0:=fun h0=>hgood (.inr (.inl h0))
 have o:¬253402300799 < at_:=fun h0=>hgood (.inr (.inr h0))
 have b:=h.kc
 rw[d]
 have H:=zdG h
 generalize (zG ks).2=ke at hke b ⊢
 have u:(ke !=0)=true:=by simpa using hke
 have k:=zdG b
 clear d h a hgood c b hke
 go_enter Tryz.func50,Tryz.ntmps50
 go_wp2_with (first
  |(go_at_call 118;refine k.out.mono ?_;rintro e v ⟨y,z,B,rfl,f,i,j⟩;have p:=zdG f;have l:=zdG i;have r:=zdG j;clear f i j)
  |fail)
 go_ret2
 exact⟨rfl,q,ze.of_below H.out.at_ l.out⟩
theorem JM (at_:Int)(w:World)(g:Nat)(q:zl)(x:Acc)(is:List Int)(vb:Value)(Sb:List Nat)(ks:zN)(vk:Value)(Sk:List Nat)(t:List UInt8)(h:xB w g q x is vb Sb ks vk Sk t)(hgood:¬(is=[]∨at_ < 0∨253402300799 < at_))(hke:(zG ks).2=0)(hwa:(rise is).any (fun id=>!zu x.boxes id)=true) :
  Calls Tryz.prog 50 #[.pointer (some ⟨g,0,none⟩),vb,vk,.int .i64 at_,.string ⟨t.toArray⟩] w (vS w g q (zq zO x is ks at_ t)):=by
 have c:zq zO x is ks at_ t=(x,0,6):=by
  unfold zq yS
  rw[if_neg hgood,if_neg (by rw[hke];simp),if_pos hwa]
 rw[c]
 obtain⟨A,N,r,_,_⟩:=h.boxes.form
 have m:is.length≠0:=fun h0=>hgood (.inl (List.eq_nil_of_length_eq_zero h0))
 have I:((is.length:Int)==0)=false:=by simpa using m
 have J:¬at_ < 0:=fun h0=>hgood (.inr (.inl h0))
 have K:¬253402300799 < at_:=fun h0=>hgood (.inr (.inr h0))
 have f:=h.kc
 have i:=h.oc
 rw[r] at i ⊢
 rw[hke] at f
 have n:=h.bc hwa
 have H:=zdG h
 have B:=zdG f
 have C:=zdG i
 have D:=zdG n
 clear r h c hgood m f hke i n hwa
 go_enter Tryz.func50,Tryz.ntmps50
 go_wp2_with (first
  |(go_at_call 118;refine B.out.mono ?_;rintro e P ⟨Q,R,S,rfl,s,u,v⟩;have o:=zdG s;have j:=zdG u;have L:=zdG v;clear s u v)
  |(go_at_call 119;refine(C.out _ j.out).mono ?_;rintro e T ⟨U,V,O,rfl,y,l,z⟩;have p:=zdG (za j.out l);have k:=zdG y;have M:Hid (∀b,O=some b→w.heap.size≤b):=zdG (fun b hb=>Nat.le_trans j.out.size (z b hb));have d:=zdG (o.out.keep (fun b hb=>l.block b (o.out.lt b hb)));clear y l z)
  |(go_at_call 120;refine(D.out _ p.out _ (k.out.reads [] (by simp))).mono ?_;rintro e W ⟨rfl,a⟩;have E:=zdG (za p.out a);have F:=zdG (k.out.keep (fun b hb=>a.block b (k.out.lt b hb)));have G:=zdG (d.out.keep (fun b hb=>a.block b (d.out.lt b hb)));clear a)
  |fail)
 go_ret2
 exact⟨rfl,q,ze.of_below H.out.at_ E.out⟩
theorem U0 (at_:Int)(w:World)(g:Nat)(q:zl)(x:Acc)(is:List Int)(vb:Value)(Sb:List Nat)(ks:zN)(vk:Value)(Sk:List Nat)(t:List UInt8)(h:xB w g q x is vb Sb ks vk Sk t)(hgood:¬(is=[]∨at_ < 0∨253402300799 < at_))(hke:(zG ks).2=0)(hwa:(rise is).any (fun id=>!zu x.boxes id)=false)(hfu1:x.cfg.maxMails≤(x.mails.length:Int)) :
  Calls Tryz.prog 50 #[.pointer (some ⟨g,0,none⟩),vb,vk,.int .i64 at_,.string ⟨t.toArray⟩] w (vS w g q (zq zO x is ks at_ t)):=by
 have d:zq zO x is ks at_ t=(x,0,8):=by
  unfold zq yS
  rw[if_neg hgood,if_neg (by rw[hke];simp),if_neg (by rw[hwa];simp),if_pos (.inl hfu1)]
 rw[d]
 obtain⟨A,a2,D,_,_⟩:=h.boxes.form
 have r:is.length≠0:=fun h0=>hgood (.inl (List.eq_nil_of_length_eq_zero h0))
 have V:((is.length:Int)==0)=false:=by simpa using r
 have W:¬at_ < 0:=fun h0=>hgood (.inr (.inl h0))
 have X:¬253402300799 < at_:=fun h0=>hgood (.inr (.inr h0))
 have j:=h.kc
 have k:=h.oc
 rw[D] at k ⊢
 rw[hke] at j
 have s:=h.bc hwa
 obtain⟨Am,cm,R,a⟩:=h.room
 have u:=h.zc
 obtain⟨S,E⟩:∃S,x.mails.length=S:=⟨_,rfl⟩
 rw[E] at a hfu1
 have N:=h.fit.cfg.size
 have v:0≤x.octets:=by
  rw[h.fit.octets.1]
  exact zW _
 have y:=h.fit.octets.2
 have Y:IntKind.i64.wrap (x.cfg.maxSize - x.octets)=x.cfg.maxSize - x.octets:=IntWalk.i64_in _ (by omega)
 obtain⟨o,i⟩:∃o,x.cfg.maxMails=o:=⟨_,rfl⟩
 rw[i] at a hfu1
 obtain⟨F,G⟩:∃F,x.cfg.maxSize - x.octets=F:=⟨_,rfl⟩
 have l:=zdG a
 have Z:=zdG u
 have f1:decide (o≤(S:Int))=true:=decide_eq_true hfu1
 clear hfu1 Y
 have H:=zdG h
 have O:=zdG j
 have P:=zdG k
 have Q:=zdG s
 clear D h d hgood r j hke k s hwa a u N v y R E i G
 go_enter Tryz.func50,Tryz.ntmps50
 go_upto_region 9 with(first
  |(go_at_call 118;refine O.out.mono ?_;rintro e w1 ⟨Ak,ck,hk,rfl,I,J,K⟩;have z:=zdG I;have m:=zdG J;have a0:=zdG K;clear I J K)
  |(go_at_call 119;refine(P.out _ m.out).mono ?_;rintro e w2 ⟨A3,p3,h3,rfl,L,p,M⟩;have B:=zdG (za m.out p);have n:=zdG L;have a1:Hid (∀b,h3=some b→w.heap.size≤b):=zdG (fun b hb=>Nat.le_trans m.out.size (M b hb));have f:=zdG (z.out.keep (fun b hb=>p.block b (z.out.lt b hb)));clear L p M)
  |(go_at_call 120;refine(Q.out _ B.out _ (n.out.reads [] (by simp))).mono ?_;rintro e w3 ⟨rfl,c⟩;have C:=zdG (za B.out c);have T:=zdG (n.out.keep (fun b hb=>c.block b (n.out.lt b hb)));have U:=zdG (f.out.keep (fun b hb=>c.block b (f.out.lt b hb)));clear c)
  |fail)
 obtain⟨a3,c2,c4⟩:=l.out _ C.out
 go_quiet (fail)
 go_wp2_with fail
 go_ret2
 exact⟨rfl,q,ze.of_below H.out.at_ (below_drewN' C.out _)⟩
theorem Ji (at_:Int)(w:World)(g:Nat)(q:zl)(x:Acc)(is:List Int)(vb:Value)(Sb:List Nat)(ks:zN)(vk:Value)(Sk:List Nat)(t:List UInt8)(h:xB w g q x is vb Sb ks vk Sk t)(hgood:¬(is=[]∨at_ < 0∨253402300799 < at_))(hke:(zG ks).2=0)(hwa:(rise is).any (fun id=>!zu x.boxes id)=false)(hfu1:¬x.cfg.maxMails≤(x.mails.length:Int))(hfu2:x.cfg.maxSize - x.octets < (t.length:Int)) :
  Calls Tryz.prog 50 #[.pointer (some ⟨g,0,none⟩),vb,vk,.int .i64 at_,.string ⟨t.toArray⟩] w (vS w g q (zq zO x is ks at_ t)):=by
 have d:zq zO x is ks at_ t=(x,0,8):=by
  unfold zq yS
  rw[if_neg hgood,if_neg (by rw[hke];simp),if_neg (by rw[hwa];simp),if_pos (.inr hfu2)]
 rw[d]
 obtain⟨A,a1,D,_,_⟩:=h.boxes.form
 have s:is.length≠0:=fun h0=>hgood (.inl (List.eq_nil_of_length_eq_zero h0))
 have W:((is.length:Int)==0)=false:=by simpa using s
 have X:¬at_ < 0:=fun h0=>hgood (.inr (.inl h0))
 have Y:¬253402300799 < at_:=fun h0=>hgood (.inr (.inr h0))
 have j:=h.kc
 have k:=h.oc
 rw[D] at k ⊢
 rw[hke] at j
 have u:=h.bc hwa
 obtain⟨Am,cm,S,a⟩:=h.room
 have v:=h.zc
 obtain⟨T,E⟩:∃T,x.mails.length=T:=⟨_,rfl⟩
 rw[E] at a hfu1
 have N:=h.fit.cfg.size
 have y:0≤x.octets:=by
  rw[h.fit.octets.1]
  exact zW _
 have z:=h.fit.octets.2
 have gw:IntKind.i64.wrap (x.cfg.maxSize - x.octets)=x.cfg.maxSize - x.octets:=IntWalk.i64_in _ (by omega)
 obtain⟨p,i⟩:∃p,x.cfg.maxMails=p:=⟨_,rfl⟩
 rw[i] at a hfu1
 obtain⟨F,G⟩:∃F,x.cfg.maxSize - x.octets=F:=⟨_,rfl⟩
 have l:=zdG a
 have O:=zdG v
 have f1:decide (p≤(T:Int))=false:=decide_eq_false hfu1
 have f2:decide (x.cfg.maxSize - x.octets < (t.length:Int))=true:=decide_eq_true hfu2
 clear hfu1 hfu2
 have H:=zdG h
 have P:=zdG j
 have Q:=zdG k
 have R:=zdG u
 clear D h d hgood s j hke k u hwa a v N y z S E i G
 go_enter Tryz.func50,Tryz.ntmps50
 go_upto_region 9 with(first
  |(go_at_call 118;refine P.out.mono ?_;rintro e w1 ⟨Ak,ck,hk,rfl,I,J,K⟩;have B:=zdG I;have m:=zdG J;have Z:=zdG K;clear I J K)
  |(go_at_call 119;refine(Q.out _ m.out).mono ?_;rintro e w2 ⟨A3,p3,h3,rfl,L,r,M⟩;have C:=zdG (za m.out r);have n:=zdG L;have a0:Hid (∀b,h3=some b→w.heap.size≤b):=zdG (fun b hb=>Nat.le_trans m.out.size (M b hb));have f:=zdG (B.out.keep (fun b hb=>r.block b (B.out.lt b hb)));clear L r M)
  |(go_at_call 120;refine(R.out _ C.out _ (n.out.reads [] (by simp))).mono ?_;rintro e w3 ⟨rfl,c⟩;have o:=zdG (za C.out c);have U:=zdG (n.out.keep (fun b hb=>c.block b (n.out.lt b hb)));have V:=zdG (f.out.keep (fun b hb=>c.block b (f.out.lt b hb)));clear c)
  |fail)
 obtain⟨a2,c2,c4⟩:=l.out _ o.out
 go_quiet ((go_at_call 121;exact XE (O.out _ (below_drewN' o.out _))))
 go_wp2_with fail
 go_ret2
 exact⟨rfl,q,ze.of_below H.out.at_ (below_drewN' o.out _)⟩
theorem U9 (at_:Int)(w:World)(g:Nat)(q:zl)(x:Acc)(is:List Int)(vb:Value)(Sb:List Nat)(ks:zN)(vk:Value)(Sk:List Nat)(t:List UInt8)(h:xB w g q x is vb Sb ks vk Sk t)(hgood:¬(is=[]∨at_ < 0∨253402300799 < at_))(hke:(zG ks).2=0)(hwa:(rise is).any (fun id=>!zu x.boxes id)=false)(hfu1:¬x.cfg.maxMails≤(x.mails.length:Int))(hfu2:¬x.cfg.maxSize - x.octets < (t.length:Int))(hsp:(rise is).any x.spent=true) :
  Calls Tryz.prog 50 #[.pointer (some ⟨g,0,none⟩),vb,vk,.int .i64 at_,.string ⟨t.toArray⟩] w (vS w g q (zq zO x is ks at_ t)):=by
 have j:zq zO x is ks at_ t=(x,0,11):=by
  unfold zq yS
  rw[if_neg hgood,if_neg (by rw[hke];simp),if_neg (by rw[hwa];simp),if_neg (by omega),if_pos (by rw[hsp];simp)]
 rw[j]
 have y:=h.rc (all_in hwa) hsp
 have S:=zdG y
 clear y
 obtain⟨A,a7,I,_,_⟩:=h.boxes.form
 have z:is.length≠0:=fun h0=>hgood (.inl (List.eq_nil_of_length_eq_zero h0))
 have a2:((is.length:Int)==0)=false:=by simpa using z
 have a3:¬at_ < 0:=fun h0=>hgood (.inr (.inl h0))
 have a4:¬253402300799 < at_:=fun h0=>hgood (.inr (.inr h0))
 have n:=h.kc
 have o:=h.oc
 rw[I] at o ⊢
 rw[hke] at n
 have B:=h.bc hwa
 obtain⟨Am,cm,Z,a⟩:=h.room
 have C:=h.zc
 obtain⟨nm,J⟩:∃nm,x.mails.length=nm:=⟨_,rfl⟩
 rw[J] at a hfu1
 have T:=h.fit.cfg.size
 have D:0≤x.octets:=by
  rw[h.fit.octets.1]
  exact zW _
 have E:=h.fit.octets.2
 have gw:IntKind.i64.wrap (x.cfg.maxSize - x.octets)=x.cfg.maxSize - x.octets:=IntWalk.i64_in _ (by omega)
 obtain⟨u,m⟩:∃u,x.cfg.maxMails=u:=⟨_,rfl⟩
 rw[m] at a hfu1
 obtain⟨K,L⟩:∃K,x.cfg.maxSize - x.octets=K:=⟨_,rfl⟩
 have p:=zdG a
 have U:=zdG C
 have f1:decide (u≤(nm:Int))=false:=decide_eq_false hfu1
 have f2:decide (x.cfg.maxSize - x.octets < (t.length:Int))=false:=decide_eq_false hfu2
 clear hfu1 hfu2
 have H:=zdG h
 have V:=zdG n
 have W:=zdG o
 have X:=zdG B
 clear I h j hgood z n hke o B hwa a C T D E Z J m L
 go_enter Tryz.func50,Tryz.ntmps50
 go_upto_region 9 with(first
  |(go_at_call 118;refine V.out.mono ?_;rintro e w1 ⟨Ak,ck,hk,rfl,M,N,O⟩;have F:=zdG M;have r:=zdG N;have a5:=zdG O;clear M N O)
  |(go_at_call 119;refine(W.out _ r.out).mono ?_;rintro e w2 ⟨A3,p3,h3,rfl,P,v,Q⟩;have G:=zdG (za r.out v);have s:=zdG P;have a6:Hid (∀b,h3=some b→w.heap.size≤b):=zdG (fun b hb=>Nat.le_trans r.out.size (Q b hb));have k:=zdG (F.out.keep (fun b hb=>v.block b (F.out.lt b hb)));clear P v Q)
  |(go_at_call 120;refine(X.out _ G.out _ (s.out.reads [] (by simp))).mono ?_;rintro e w3 ⟨rfl,i⟩;have d:=zdG (za G.out i);have c:=zdG (s.out.keep (fun b hb=>i.block b (s.out.lt b hb)));have l:=zdG (k.out.keep (fun b hb=>i.block b (k.out.lt b hb)));clear i)
  |fail)
 obtain⟨a8,c2,c4⟩:=p.out _ d.out
 go_quiet ((go_at_call 121;exact XE (U.out _ (below_drewN' d.out _))))
 go_wp2_with (first
  |(go_at_call 122;refine(S.out _ (below_drewN' d.out _) _ ((c.out.heap (by rfl)).reads [] (by simp))).mono ?_;rintro e w4 ⟨rfl,R⟩;have f:=uf R;have Y:=zdG (za d.out f);have a0:=zdG (c.out.keep (fun b hb=>f.block b (c.out.lt b hb)));have a1:=zdG (l.out.keep (fun b hb=>f.block b (l.out.lt b hb)));clear R f)
  |fail)
 go_ret2
 exact⟨rfl,q,ze.of_below H.out.at_ Y.out⟩
theorem Qr (at_:Int)(w:World)(g:Nat)(q:zl)(x:Acc)(is:List Int)(vb:Value)(Sb:List Nat)(ks:zN)(vk:Value)(Sk:List Nat)(t:List UInt8)(h:xB w g q x is vb Sb ks vk Sk t)(hgood:¬(is=[]∨at_ < 0∨253402300799 < at_))(hke:(zG ks).2=0)(hwa:(rise is).any (fun id=>!zu x.boxes id)=false)(hfu1:¬x.cfg.maxMails≤(x.mails.length:Int))(hfu2:¬x.cfg.maxSize - x.octets < (t.length:Int))(hsp:(rise is).any x.spent=false)(hen:x.ends=true) :
  Calls Tryz.prog 50 #[.pointer (some ⟨g,0,none⟩),vb,vk,.int .i64 at_,.string ⟨t.toArray⟩] w (vS w g q (zq zO x is ks at_ t)):=by
 have j:zq zO x is ks at_ t=(x,0,11):=by
  unfold zq yS
  rw[if_neg hgood,if_neg (by rw[hke];simp),if_neg (by rw[hwa];simp),if_neg (by omega),if_pos (by rw[hen];simp)]
 rw[j]
 have z:=h.rc (all_in hwa) hsp
 have V:=zdG z
 have n:=h.sc hen
 simp only[if_true,Bool.not_true] at n
 have W:=zdG n
 clear z n hsp
 obtain⟨A,ab,K,_,_⟩:=h.boxes.form
 have B:is.length≠0:=fun h0=>hgood (.inl (List.eq_nil_of_length_eq_zero h0))
 have a6:((is.length:Int)==0)=false:=by simpa using B
 have a7:¬at_ < 0:=fun h0=>hgood (.inr (.inl h0))
 have a8:¬253402300799 < at_:=fun h0=>hgood (.inr (.inr h0))
 have o:=h.kc
 have p:=h.oc
 rw[K] at p ⊢
 rw[hke] at o
 have C:=h.bc hwa
 obtain⟨Am,cm,a3,a⟩:=h.room
 have D:=h.zc
 obtain⟨nm,L⟩:∃nm,x.mails.length=nm:=⟨_,rfl⟩
 rw[L] at a hfu1
 have X:=h.fit.cfg.size
 have E:0≤x.octets:=by
  rw[h.fit.octets.1]
  exact zW _
 have F:=h.fit.octets.2
 have gw:IntKind.i64.wrap (x.cfg.maxSize - x.octets)=x.cfg.maxSize - x.octets:=IntWalk.i64_in _ (by omega)
 obtain⟨v,m⟩:∃v,x.cfg.maxMails=v:=⟨_,rfl⟩
 rw[m] at a hfu1
 obtain⟨M,N⟩:∃M,x.cfg.maxSize - x.octets=M:=⟨_,rfl⟩
 have r:=zdG a
 have Y:=zdG D
 have f1:decide (v≤(nm:Int))=false:=decide_eq_false hfu1
 have f2:decide (x.cfg.maxSize - x.octets < (t.length:Int))=false:=decide_eq_false hfu2
 clear hfu1 hfu2
 have H:=zdG h
 have Z:=zdG o
 have a0:=zdG p
 have a1:=zdG C
 clear K h j hgood B o hke p C hwa a D X E F a3 L m N
 go_enter Tryz.func50,Tryz.ntmps50
 go_upto_region 9 with(first
  |(go_at_call 118;refine Z.out.mono ?_;rintro e w1 ⟨Ak,ck,hk,rfl,O,P,Q⟩;have G:=zdG O;have s:=zdG P;have a9:=zdG Q;clear O P Q)
  |(go_at_call 119;refine(a0.out _ s.out).mono ?_;rintro e w2 ⟨A3,p3,h3,rfl,R,y,S⟩;have I:=zdG (za s.out y);have u:=zdG R;have aa:Hid (∀b,h3=some b→w.heap.size≤b):=zdG (fun b hb=>Nat.le_trans s.out.size (S b hb));have k:=zdG (G.out.keep (fun b hb=>y.block b (G.out.lt b hb)));clear R y S)
  |(go_at_call 120;refine(a1.out _ I.out _ (u.out.reads [] (by simp))).mono ?_;rintro e w3 ⟨rfl,i⟩;have d:=zdG (za I.out i);have c:=zdG (u.out.keep (fun b hb=>i.block b (u.out.lt b hb)));have l:=zdG (k.out.keep (fun b hb=>i.block b (k.out.lt b hb)));clear i)
  |fail)
 obtain⟨ac,c2,c4⟩:=r.out _ d.out
 go_quiet ((go_at_call 121;exact XE (Y.out _ (below_drewN' d.out _))))
 go_wp2_with (first
  |(go_at_call 122;refine(V.out _ (below_drewN' d.out _) _ ((c.out.heap (by rfl)).reads [] (by simp))).mono ?_;rintro e w4 ⟨rfl,T⟩;have f:=uf T;have J:=zdG (za d.out f);have a4:=zdG (c.out.keep (fun b hb=>f.block b (c.out.lt b hb)));have a5:=zdG (l.out.keep (fun b hb=>f.block b (l.out.lt b hb)));clear T f)
  |(go_at_call 107;refine(W.out _ J.out).mono ?_;rintro e w5 ⟨rfl,U⟩;have a2:=zdG U;clear U)
  |fail)
 go_ret2
 exact⟨rfl,q,(ze.of_below H.out.at_ J.out).trans a2.out⟩
end Go.Proofs.YtfhlhdmhgheonaaGreatDoor
namespace Go.Proofs.YtfhlhdmhgheonaaGreatDoor
open Go.Shelf Go.RowKit
structure Xk (w w5 wr:World)(g:Nat)(q:zl)(x2:Acc)(l:List Int)(B:Nat)(c0 c1 c2 c3 c4 c6 c7:Value)(k:Nat)(mv:Value):Prop where
 st:ze w wr g q {x2 with boxes:=(numbers (l.take k) x2.boxes).1} q
 ch:Chg (q.own g) w5 wr
 blk:Blk wr B 54 #[c0,c1,c2,c3,c4,mv,c6,c7]
 mem:∃h,Sl wr 56 2 mv h k (zk zA (numbers (l.take k) x2.boxes).2)∧∀b,h=some b→w5.heap.size≤b
theorem Xk.next {w w5 wr W W2:World}{g:Nat}{q:zl}{x x2:Acc}{l:List Int}{B:Nat}{c0 c1 c2 c3 c4 c6 c7:Value}{k:Nat}{mv mv':Value}(h:Xk w w5 wr g q x2 l B c0 c1 c2 c3 c4 c6 c7 k mv)(hw:zi w g q x)(hB5:w5.heap.size≤B)(h5:w.heap.size≤w5.heap.size)(hk:k < l.length)(ht:ze wr W g q {x2 with boxes:=bump l[k] (numbers (l.take k) x2.boxes).1} q){hh h':Option Nat}(hs:Sl W 56 2 mv hh k (zk zA (numbers (l.take k) x2.boxes).2))(hf:∀b,hh=some b→w5.heap.size≤b)(hs2:Sl W2 56 2 mv' h' (k+1) (zk zA (numbers (l.take k) x2.boxes).2++[.int .i64 l[k],.int .i64 (zw (numbers (l.take k) x2.boxes).1 l[k])]))(hc:Chg hh.toList W W2)(ho:h'=hh∨∃g,h'=some g∧W.heap.size≤g) :
  Xk w w5 (W2.setCell ⟨B,5,none⟩ mv') g q x2 l B c0 c1 c2 c3 c4 c6 c7 (k+1) mv':=by
 have c:=uG (l.take k) l[k] x2.boxes
 rw[←List.take_succ_eq_append_getElem hk] at c
 have r:=ht.chg.size
 have s:=h.ch.size
 have t:B < wr.heap.size:=h.blk.lt
 have a:Blk W B 54 #[c0,c1,c2,c3,c4,mv,c6,c7]:=h.blk.zI (by omega) hw ht.chg
 have d:∀b,hh=some b→b≠B:=hs.yN a (by decide)
 have f:Chg (B :: hh.toList) W (W2.setCell ⟨B,5,none⟩ mv'):=(hc.mono fun j hj=>.inl (List.mem_cons_of_mem _ hj)).set (.inl (by simp)) mv'
 have m:∀j∈B :: hh.toList,w5.heap.size≤j:=fun j hj=>by
  rcases List.mem_cons.1 hj with rfl|hj
  ·omega
  ·exact hf j (by simpa using hj)
 have n:∀b,h'=some b→w5.heap.size≤b:=fun b hb=>by
  rcases ho with h1|⟨g2,h1,h2⟩
  ·exact hf b (by rw[←h1];exact hb)
  ·rw[h1] at hb
   injection hb with hb
   omega
 have o:h'≠some B:=fun e=>by
  rcases ho with h1|⟨g2,h1,h2⟩
  ·exact d B (by rw[←h1];exact e) rfl
  ·rw[h1] at e
   injection e with e
   omega
 refine⟨?_,?_,?_,⟨h',?_,n⟩⟩
 ·rw[c]
  exact(h.st.trans ht).newer hw f fun j hj=>Nat.le_trans h5 (m j hj)
 ·exact(h.ch.trans ht.chg (fun i hi=>.inl hi)).trans f fun i hi=>.inr (m i hi)
 ·exact(a.chg hc (fun hm=>d B (by simpa using hm) rfl)).set 5 mv'
 ·rw[c,Zf]
  exact hs2.far (p:=⟨B,5,none⟩) o mv'
end Go.Proofs.YtfhlhdmhgheonaaGreatDoor
