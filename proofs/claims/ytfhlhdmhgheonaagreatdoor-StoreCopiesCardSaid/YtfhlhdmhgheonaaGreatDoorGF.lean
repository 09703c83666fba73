/-
  The walk of the store's Append: what it hands back, and the account behind it, are appendP's. The walk of the store's Append, further: the clock at its end, a mailbox without a number left. What Append's last region is shown over: the log's Add at an account, and behind the entries' append; a region of a function's code, picked out. The walk of the mailboxes that an email is in. The last drawn reg
-/
import Derived.Test.YtfhlhdmhgheonaaGreatDoorGE
import Derived.Test.YtfhlhdmhgheonaaGreatDoorGD
import Derived.Test.YtfhlhdmhgheonaaGreatDoorGC
import Derived.Deep.QuietTactic
import Derived.BigQuiet
import Derived.Deep.RegionLaw
import Derived.Deep.DrawnRows
import Derived.Deep.DeepCutAuto
import Derived.Deep.CutBlock
set_option maxRecDepth 100000
set_option maxHeartbeats 8000000
namespace Go.Proofs.YtfhlhdmhgheonaaGreatDoor
open Go.Shelf Go.RowKit
attribute [local go_sem ↓] Go.wp_at_zero Go.wp_at_succ
theorem Try.infoMail:(Tryz.prog.info? 54).map (fun i=>(i.zero,i.size,i.bytes))=some (some (.agg #[.int .i64 0,.int .i64 0,.string ⟨#[]⟩,.int .i64 0,.slice none 0 0,.slice none 0 0,.int .i64 0,.int .i64 0]),8,104):=by kernel_rfl
theorem below_drewN' {B:Nat}{w w':World}(h:Below B w w')(n:Nat):Below B w (w'.drewN n):=⟨h.os,h.tape,h.output,h.size,h.block⟩
structure Zx (w:World)(g:Nat)(q:zl)(x:Acc)(is:List Int)(vb:Value)(Sb:List Nat)(ks:zN)(vk:Value)(Sk:List Nat)(t:List UInt8):Prop where
 at_:zh w g q x
 fit:Fit x
 boxes:RdS w Sb 1 vb is.length (is.map encI)
 nb:is.length≤4294967296
 keys:RdS w Sk 1 vk ks.length (ks.map encStr)
 nk:ks.length≤1099511627776
 short:Short ks
 text:t.length≤1099511627776
def vX (w:World)(g:Nat)(q:zl)(r:Acc×Int×Int)(e:Ending)(w':World):Prop:=e=.returned (.tuple #[.int .i64 r.2.1,.int .i64 r.2.2])∧∃q',Turned w w' g q r.1 q'
section
variable {w:World} {g:Nat} {q:zl} {x:Acc} {is:List Int} {vb:Value} {Sb:List Nat} {ks:zN} {vk:Value} {Sk:List Nat} {t:List UInt8}
theorem Zx.kc (h:Zx w g q x is vb Sb ks vk Sk t):Calls Tryz.prog 90 #[vk] w fun e w'=>∃A cap hh,e=.returned (.tuple #[.slice A (zG ks).1.length cap,.int .i64 (zG ks).2])∧Sl w' 9 1 (.slice A (zG ks).1.length cap) hh (zG ks).1.length ((zG ks).1.map encStr)∧Below w.heap.size w w'∧∀b,hh=some b→w.heap.size≤b:=
 zaR w vk ks.length ks rfl h.nk (h.keys.sub (fun _ _ _ hm=>by cases hm)) h.short
theorem Zx.zcp (h:Zx w g q x is vb Sb ks vk Sk t):x.boxes.length≤1099511627776:=by
 have a:=h.fit.nb
 have b:=h.fit.clock
 have c:=h.fit.cfg.mod
 omega
theorem Zx.wc (h:Zx w g q x is vb Sb ks vk Sk t)(W:World)(hb:Below w.heap.size w W):Calls Tryz.prog 91 #[.pointer (some ⟨g,0,none⟩),vb] W fun e w'=>∃v' hh,e=.returned (.tuple #[v',.bool (!(rise is).any (fun id=>!zu x.boxes id))])∧Sl w' 3 1 v' hh (rise is).length ((rise is).map encI)∧(∀b,hh=some b→W.heap.size≤b)∧Below W.heap.size W w':=
 uQ W g q x (h.at_.later hb) h.zcp is vb Sb (h.boxes.below hb) (Nat.le_trans h.nb (by decide))
theorem Zx.sc (h:Zx w g q x is vb Sb ks vk Sk t)(hall:∀i∈rise is,i∈ids x.boxes)(W:World)(hb:Below w.heap.size w W)(v:Value)(hh:Option Nat)(hs:Sl W 3 1 v hh (rise is).length ((rise is).map encI)) :
  Calls Tryz.prog 93 #[v,.func (.func 94) #[.pointer (some ⟨g,0,none⟩)] #[]] W fun e w'=>e=.returned (.bool ((rise is).any x.spent))∧Below W.heap.size W w':=by
 have b:∀args W,(callFunc 94 args).run Tryz.prog W=.ok (.enter 94 args) W:=enters_of Tryz.func94 (by kernel_rfl) rfl
 refine Jb v [] (rise is) x.spent _ _ b W (hs.reads [] (by simp)) (by have:=zY is;have:=h.nb;omega) (fun W2 hb2 id hid=>?_)
 refine(Vy W2 g q x (h.at_.later (za hb hb2)) h.zcp id (hall id hid)).mono ?_
 rintro e w' ⟨c,a⟩
 exact⟨c,za hb2 a⟩
end
theorem zb5 (at_:Int)(w:World)(g:Nat)(q:zl)(x:Acc)(is:List Int)(vb:Value)(Sb:List Nat)(ks:zN)(vk:Value)(Sk:List Nat)(t:List UInt8)(h:Zx w g q x is vb Sb ks vk Sk t)(hbad:is=[]∨at_ < 0∨253402300799 < at_) :
  Calls Tryz.prog 38 #[.pointer (some ⟨g,0,none⟩),vb,vk,.int .i64 at_,.string ⟨t.toArray⟩] w (vX w g q (zq zO x is ks at_ t)):=by
 have b:zq zO x is ks at_ t=(x,0,1):=by
  unfold zq yS
  rw[if_pos hbad]
 rw[b]
 have c:∀e,e=.returned (.tuple #[.int .i64 0,.int .i64 1])→vX w g q (x,0,1) e w:=fun e he=>⟨he,q,Turned.refl h.at_⟩
 obtain⟨A,l,rfl,_,_⟩:=h.boxes.form
 obtain⟨n,k⟩:∃n,is.length=n:=⟨_,rfl⟩
 rw[k]
 have d:n=0∨(¬n=0∧at_ < 0)∨(¬n=0∧¬at_ < 0∧253402300799 < at_):=by
  by_cases a:n=0
  ·exact .inl a
  ·rcases hbad with h1|h1|h1
   ·exact absurd (by rw[←k,h1];rfl) a
   ·exact .inr (.inl ⟨a,h1⟩)
   ·by_cases j:at_ < 0
    ·exact .inr (.inl ⟨a,j⟩)
    ·exact .inr (.inr ⟨a,j,h1⟩)
 have f:=zdG c
 clear b hbad h c k
 rcases d with rfl|⟨a,h1⟩|⟨a,j,h1⟩
 ·go_enter Tryz.func38,Tryz.ntmps38
  go_wp2
  go_ret2
  exact f.out _ rfl
 ·have i:((n:Int)==0)=false:=by simpa using a
  go_enter Tryz.func38,Tryz.ntmps38
  go_wp2
  go_ret2
  exact f.out _ rfl
 ·have i:((n:Int)==0)=false:=by simpa using a
  go_enter Tryz.func38,Tryz.ntmps38
  go_wp2
  go_ret2
  exact f.out _ rfl
theorem zao (at_:Int)(w:World)(g:Nat)(q:zl)(x:Acc)(is:List Int)(vb:Value)(Sb:List Nat)(ks:zN)(vk:Value)(Sk:List Nat)(t:List UInt8)(h:Zx w g q x is vb Sb ks vk Sk t)(hgood:¬(is=[]∨at_ < 0∨253402300799 < at_))(hke:(zG ks).2≠0) :
  Calls Tryz.prog 38 #[.pointer (some ⟨g,0,none⟩),vb,vk,.int .i64 at_,.string ⟨t.toArray⟩] w (vX w g q (zq zO x is ks at_ t)):=by
 have b:zq zO x is ks at_ t=(x,0,(zG ks).2):=by
  unfold zq yS
  rw[if_neg hgood,if_pos hke]
 rw[b]
 obtain⟨A,m,d,_,_⟩:=h.boxes.form
 have c:is.length≠0:=fun h0=>hgood (.inl (List.eq_nil_of_length_eq_zero h0))
 have j:((is.length:Int)==0)=false:=by simpa using c
 have k:¬at_ < 0:=fun h0=>hgood (.inr (.inl h0))
 have l:¬253402300799 < at_:=fun h0=>hgood (.inr (.inr h0))
 have a:=h.kc
 rw[d]
 have H:=zdG h
 clear d hgood c h
 generalize zG ks=kf at a hke ⊢
 obtain⟨r,n⟩:=kf
 simp only at a hke ⊢
 have p:(n==0)=false:=by simpa using hke
 clear b
 go_enter Tryz.func38,Tryz.ntmps38
 go_wp2_with (first
  |(go_at_call 90;refine a.mono ?_;rintro e s ⟨u,v,o,rfl,_,f,_⟩;have i:=zdG f;clear a f)
  |fail)
 go_ret2
 exact⟨rfl,q,Turned.of_below H.out.at_ i.out⟩
theorem zan (at_:Int)(w:World)(g:Nat)(q:zl)(x:Acc)(is:List Int)(vb:Value)(Sb:List Nat)(ks:zN)(vk:Value)(Sk:List Nat)(t:List UInt8)(h:Zx w g q x is vb Sb ks vk Sk t)(hgood:¬(is=[]∨at_ < 0∨253402300799 < at_))(hke:(zG ks).2=0)(hwa:(rise is).any (fun id=>!zu x.boxes id)=true) :
  Calls Tryz.prog 38 #[.pointer (some ⟨g,0,none⟩),vb,vk,.int .i64 at_,.string ⟨t.toArray⟩] w (vX w g q (zq zO x is ks at_ t)):=by
 have b:zq zO x is ks at_ t=(x,0,6):=by
  unfold zq yS
  rw[if_neg hgood,if_neg (by rw[hke];simp),if_pos hwa]
 rw[b]
 obtain⟨A,C,j,_,_⟩:=h.boxes.form
 have f:is.length≠0:=fun h0=>hgood (.inl (List.eq_nil_of_length_eq_zero h0))
 have u:((is.length:Int)==0)=false:=by simpa using f
 have v:¬at_ < 0:=fun h0=>hgood (.inr (.inl h0))
 have y:¬253402300799 < at_:=fun h0=>hgood (.inr (.inr h0))
 have c:=h.kc
 have a:=h.wc
 rw[j] at a ⊢
 have H:=zdG h
 clear j hgood f h
 rw[hwa] at a
 rw[hke] at c
 have o:=zdG a
 clear b hwa a
 go_enter Tryz.func38,Tryz.ntmps38
 go_wp2_with (first
  |(go_at_call 90;refine c.mono ?_;rintro e D ⟨F,G,E,rfl,k,d,l⟩;have z:=zdG k;have p:=zdG d;have B:=zdG l;have i:=o.out D d;clear c k d l)
  |(go_at_call 91;refine i.mono ?_;rintro e I ⟨J,K,rfl,m,s,n⟩;clear i;obtain⟨L,M,rfl,_,_⟩:=m.form;have r:=zdG (za p.out n);clear m s n)
  |fail)
 go_ret2
 exact⟨rfl,q,Turned.of_below H.out.at_ r.out⟩
theorem JN (at_:Int)(w:World)(g:Nat)(q:zl)(x:Acc)(is:List Int)(vb:Value)(Sb:List Nat)(ks:zN)(vk:Value)(Sk:List Nat)(t:List UInt8)(h:Zx w g q x is vb Sb ks vk Sk t)(hgood:¬(is=[]∨at_ < 0∨253402300799 < at_))(hke:(zG ks).2=0)(hwa:(rise is).any (fun id=>!zu x.boxes id)=false)(hfu:x.cfg.maxMails≤(x.mails.length:Int)) :
  Calls Tryz.prog 38 #[.pointer (some ⟨g,0,none⟩),vb,vk,.int .i64 at_,.string ⟨t.toArray⟩] w (vX w g q (zq zO x is ks at_ t)):=by
 have f:zq zO x is ks at_ t=(x,0,8):=by
  unfold zq yS
  rw[if_neg hgood,if_neg (by rw[hke];simp),if_neg (by rw[hwa];simp),if_pos (.inl hfu)]
 rw[f]
 obtain⟨Am,cm,s,_,_⟩:=h.at_.mails.form
 have b:=fun W (hb:Below w.heap.size w W)=>h.at_.later hb
 have c:=fun W hb=>(b W hb).zU
 rw[s] at c
 have J:∀W,Below w.heap.size w W→W.cell? ⟨g,2,none⟩=some (.int .i64 x.cfg.maxMails):=fun W hb=>(b W hb).cells 2
 have K:∀W,Below w.heap.size w W→W.cell? ⟨g,4,none⟩=some (.int .i64 x.cfg.maxSize):=fun W hb=>(b W hb).cells 4
 have L:∀W,Below w.heap.size w W→W.cell? ⟨g,6,none⟩=some (.int .i64 x.cfg.maxMod):=fun W hb=>(b W hb).cells 6
 have M:∀W,Below w.heap.size w W→W.cell? ⟨g,9,none⟩=some (.int .i64 x.clock):=fun W hb=>(b W hb).yo
 have o:∀W,Below w.heap.size w W→W.cell? ⟨g,15,none⟩=some (.int .i64 x.octets):=fun W hb=>(b W hb).VK
 have C:=h.fit.cfg.size
 have i:=h.fit.octets
 have N:0≤x.octets:=by
  rw[i.1]
  exact zW _
 have O:=i.2
 have gw:IntKind.i64.wrap (x.cfg.maxSize - x.octets)=x.cfg.maxSize - x.octets:=IntWalk.i64_in _ (by omega)
 obtain⟨P,k⟩:∃P,x.mails.length=P:=⟨_,rfl⟩
 rw[k] at c
 have D:=zdG c
 have Q:=zdG J
 have R:=zdG K
 have S:=zdG L
 have T:=zdG M
 have E:=zdG o
 clear b c J K L M o C i s
 obtain⟨A,a4,u,_,_⟩:=h.boxes.form
 have p:is.length≠0:=fun h0=>hgood (.inl (List.eq_nil_of_length_eq_zero h0))
 have U:((is.length:Int)==0)=false:=by simpa using p
 have V:¬at_ < 0:=fun h0=>hgood (.inr (.inl h0))
 have X:¬253402300799 < at_:=fun h0=>hgood (.inr (.inr h0))
 have j:=h.kc
 have d:=h.wc
 rw[u] at d ⊢
 have H:=zdG h
 clear u hgood p h
 rw[hwa] at d
 rw[hke] at j
 have F:=zdG d
 rw[k] at hfu
 clear f hwa d k
 go_enter Tryz.func38,Tryz.ntmps38
 go_wp2_with (first
  |(go_at_call 90;refine j.mono ?_;rintro e w2 ⟨Ak,ck,a5,rfl,v,l,y⟩;have Y:=zdG v;have G:=zdG l;have Z:=zdG y;have r:=F.out w2 l;clear j v l y)
  |(go_at_call 91;refine r.mono ?_;rintro e n ⟨v3,h3,rfl,m,z,B⟩;clear r;obtain⟨A3,p3,rfl,_,_⟩:=m.form;have a:=za G.out B;have a0:=D.out n a;have c2:=Q.out n a;have c4:=R.out n a;have a1:=E.out n a;have c6:=S.out n a;have c9:=T.out n a;have I:=zdG a;have a2:=zdG m;have a3:=zdG z;clear m z B a)
  |fail)
 go_quiet (fail)
 go_wp2_with fail
 go_ret2
 exact⟨rfl,q,(Turned.of_below H.out.at_ I.out).zL (below_drewN' (Below.refl _ _) _)⟩
theorem Jw (at_:Int)(w:World)(g:Nat)(q:zl)(x:Acc)(is:List Int)(vb:Value)(Sb:List Nat)(ks:zN)(vk:Value)(Sk:List Nat)(t:List UInt8)(h:Zx w g q x is vb Sb ks vk Sk t)(hgood:¬(is=[]∨at_ < 0∨253402300799 < at_))(hke:(zG ks).2=0)(hwa:(rise is).any (fun id=>!zu x.boxes id)=false)(hfu1:¬x.cfg.maxMails≤(x.mails.length:Int))(hfu:x.cfg.maxSize - x.octets < (t.length:Int)) :
  Calls Tryz.prog 38 #[.pointer (some ⟨g,0,none⟩),vb,vk,.int .i64 at_,.string ⟨t.toArray⟩] w (vX w g q (zq zO x is ks at_ t)):=by
 have f:zq zO x is ks at_ t=(x,0,8):=by
  unfold zq yS
  rw[if_neg hgood,if_neg (by rw[hke];simp),if_neg (by rw[hwa];simp),if_pos (.inr hfu)]
 rw[f]
 obtain⟨Am,cm,s,_,_⟩:=h.at_.mails.form
 have b:=fun W (hb:Below w.heap.size w W)=>h.at_.later hb
 have c:=fun W hb=>(b W hb).zU
 rw[s] at c
 have J:∀W,Below w.heap.size w W→W.cell? ⟨g,2,none⟩=some (.int .i64 x.cfg.maxMails):=fun W hb=>(b W hb).cells 2
 have K:∀W,Below w.heap.size w W→W.cell? ⟨g,4,none⟩=some (.int .i64 x.cfg.maxSize):=fun W hb=>(b W hb).cells 4
 have L:∀W,Below w.heap.size w W→W.cell? ⟨g,6,none⟩=some (.int .i64 x.cfg.maxMod):=fun W hb=>(b W hb).cells 6
 have M:∀W,Below w.heap.size w W→W.cell? ⟨g,9,none⟩=some (.int .i64 x.clock):=fun W hb=>(b W hb).yo
 have o:∀W,Below w.heap.size w W→W.cell? ⟨g,15,none⟩=some (.int .i64 x.octets):=fun W hb=>(b W hb).VK
 have C:=h.fit.cfg.size
 have i:=h.fit.octets
 have N:0≤x.octets:=by
  rw[i.1]
  exact zW _
 have O:=i.2
 have gw:IntKind.i64.wrap (x.cfg.maxSize - x.octets)=x.cfg.maxSize - x.octets:=IntWalk.i64_in _ (by omega)
 obtain⟨P,k⟩:∃P,x.mails.length=P:=⟨_,rfl⟩
 rw[k] at c
 have D:=zdG c
 have Q:=zdG J
 have R:=zdG K
 have S:=zdG L
 have T:=zdG M
 have E:=zdG o
 clear b c J K L M o C i s
 obtain⟨A,a4,u,_,_⟩:=h.boxes.form
 have p:is.length≠0:=fun h0=>hgood (.inl (List.eq_nil_of_length_eq_zero h0))
 have U:((is.length:Int)==0)=false:=by simpa using p
 have V:¬at_ < 0:=fun h0=>hgood (.inr (.inl h0))
 have X:¬253402300799 < at_:=fun h0=>hgood (.inr (.inr h0))
 have j:=h.kc
 have d:=h.wc
 rw[u] at d ⊢
 have H:=zdG h
 clear u hgood p h
 rw[hwa] at d
 rw[hke] at j
 have F:=zdG d
 rw[k] at hfu1
 clear f hwa d k
 go_enter Tryz.func38,Tryz.ntmps38
 go_wp2_with (first
  |(go_at_call 90;refine j.mono ?_;rintro e w2 ⟨Ak,ck,a5,rfl,v,l,y⟩;have Y:=zdG v;have G:=zdG l;have Z:=zdG y;have r:=F.out w2 l;clear j v l y)
  |(go_at_call 91;refine r.mono ?_;rintro e n ⟨v3,h3,rfl,m,z,B⟩;clear r;obtain⟨A3,p3,rfl,_,_⟩:=m.form;have a:=za G.out B;have a0:=D.out n a;have c2:=Q.out n a;have c4:=R.out n a;have a1:=E.out n a;have c6:=S.out n a;have c9:=T.out n a;have I:=zdG a;have a2:=zdG m;have a3:=zdG z;clear m z B a)
  |fail)
 go_quiet (fail)
 go_wp2_with fail
 go_quiet (fail)
 go_wp2_with fail
 go_ret2
 exact⟨rfl,q,(Turned.of_below H.out.at_ I.out).zL (below_drewN' (below_drewN' (Below.refl _ _) _) _)⟩
theorem all_in {x:Acc}{l:List Int}(hwa:l.any (fun id=>!zu x.boxes id)=false):∀i∈l,i∈ids x.boxes:=by
 intro i c
 have a:=(List.any_eq_false.1 hwa) i c
 have b:zu x.boxes i=true:=by simpa using a
 exact(yU x.boxes i).1 b
theorem zam (at_:Int)(w:World)(g:Nat)(q:zl)(x:Acc)(is:List Int)(vb:Value)(Sb:List Nat)(ks:zN)(vk:Value)(Sk:List Nat)(t:List UInt8)(h:Zx w g q x is vb Sb ks vk Sk t)(hgood:¬(is=[]∨at_ < 0∨253402300799 < at_))(hke:(zG ks).2=0)(hwa:(rise is).any (fun id=>!zu x.boxes id)=false)(hfu1:¬x.cfg.maxMails≤(x.mails.length:Int))(hfu2:¬x.cfg.maxSize - x.octets < (t.length:Int))(hen:x.cfg.maxMod≤x.clock) :
  Calls Tryz.prog 38 #[.pointer (some ⟨g,0,none⟩),vb,vk,.int .i64 at_,.string ⟨t.toArray⟩] w (vX w g q (zq zO x is ks at_ t)):=by
 have f:zq zO x is ks at_ t=(x,0,11):=by
  unfold zq yS
  rw[if_neg hgood,if_neg (by rw[hke];simp),if_neg (by rw[hwa];simp),if_neg (by omega),if_pos (by simp[Acc.ends,hen])]
 rw[f]
 obtain⟨Am,cm,s,_,_⟩:=h.at_.mails.form
 have b:=fun W (hb:Below w.heap.size w W)=>h.at_.later hb
 have c:=fun W hb=>(b W hb).zU
 rw[s] at c
 have J:∀W,Below w.heap.size w W→W.cell? ⟨g,2,none⟩=some (.int .i64 x.cfg.maxMails):=fun W hb=>(b W hb).cells 2
 have K:∀W,Below w.heap.size w W→W.cell? ⟨g,4,none⟩=some (.int .i64 x.cfg.maxSize):=fun W hb=>(b W hb).cells 4
 have L:∀W,Below w.heap.size w W→W.cell? ⟨g,6,none⟩=some (.int .i64 x.cfg.maxMod):=fun W hb=>(b W hb).cells 6
 have M:∀W,Below w.heap.size w W→W.cell? ⟨g,9,none⟩=some (.int .i64 x.clock):=fun W hb=>(b W hb).yo
 have o:∀W,Below w.heap.size w W→W.cell? ⟨g,15,none⟩=some (.int .i64 x.octets):=fun W hb=>(b W hb).VK
 have C:=h.fit.cfg.size
 have j:=h.fit.octets
 have N:0≤x.octets:=by
  rw[j.1]
  exact zW _
 have O:=j.2
 have gw:IntKind.i64.wrap (x.cfg.maxSize - x.octets)=x.cfg.maxSize - x.octets:=IntWalk.i64_in _ (by omega)
 obtain⟨P,l⟩:∃P,x.mails.length=P:=⟨_,rfl⟩
 rw[l] at c
 have D:=zdG c
 have Q:=zdG J
 have R:=zdG K
 have S:=zdG L
 have T:=zdG M
 have E:=zdG o
 clear b c J K L M o C j s
 obtain⟨A,a4,u,_,_⟩:=h.boxes.form
 have p:is.length≠0:=fun h0=>hgood (.inl (List.eq_nil_of_length_eq_zero h0))
 have U:((is.length:Int)==0)=false:=by simpa using p
 have V:¬at_ < 0:=fun h0=>hgood (.inr (.inl h0))
 have X:¬253402300799 < at_:=fun h0=>hgood (.inr (.inr h0))
 have k:=h.kc
 have d:=h.wc
 rw[u] at d ⊢
 have H:=zdG h
 clear u hgood p h
 rw[hwa] at d
 rw[hke] at k
 have F:=zdG d
 rw[l] at hfu1
 clear f
 clear hwa d l
 go_enter Tryz.func38,Tryz.ntmps38
 go_wp2_with (first
  |(go_at_call 90;refine k.mono ?_;rintro e w2 ⟨Ak,ck,a5,rfl,v,m,y⟩;have Y:=zdG v;have G:=zdG m;have Z:=zdG y;have r:=F.out w2 m;clear k v m y)
  |(go_at_call 91;refine r.mono ?_;rintro e i ⟨v3,h3,rfl,n,z,B⟩;clear r;obtain⟨A3,p3,rfl,_,_⟩:=n.form;have a:=za G.out B;have a0:=D.out i a;have c2:=Q.out i a;have c4:=R.out i a;have a1:=E.out i a;have c6:=S.out i a;have c9:=T.out i a;have I:=zdG a;have a2:=zdG n;have a3:=zdG z;clear n z B a)
  |fail)
 go_quiet (fail)
 go_wp2_with fail
 go_quiet (fail)
 go_wp2_with (first
  |(go_at_call 92;refine(yQ g x.clock x.cfg.maxMod _ ((zB (w:=i) (by rfl) _).trans c9) ((zB (w:=i) (by rfl) _).trans c6)).mono ?_;rintro e w4 ⟨rfl,ne,rfl⟩)
  |fail)
 go_ret2
 exact⟨rfl,q,(Turned.of_below H.out.at_ I.out).zL (below_drewN' (Below.refl _ _) _)⟩
theorem J9 (at_:Int)(w:World)(g:Nat)(q:zl)(x:Acc)(is:List Int)(vb:Value)(Sb:List Nat)(ks:zN)(vk:Value)(Sk:List Nat)(t:List UInt8)(h:Zx w g q x is vb Sb ks vk Sk t)(hgood:¬(is=[]∨at_ < 0∨253402300799 < at_))(hke:(zG ks).2=0)(hwa:(rise is).any (fun id=>!zu x.boxes id)=false)(hfu1:¬x.cfg.maxMails≤(x.mails.length:Int))(hfu2:¬x.cfg.maxSize - x.octets < (t.length:Int))(hen:¬x.cfg.maxMod≤x.clock)(hsp:(rise is).any x.spent=true) :
  Calls Tryz.prog 38 #[.pointer (some ⟨g,0,none⟩),vb,vk,.int .i64 at_,.string ⟨t.toArray⟩] w (vX w g q (zq zO x is ks at_ t)):=by
 have f:zq zO x is ks at_ t=(x,0,11):=by
  unfold zq yS
  rw[if_neg hgood,if_neg (by rw[hke];simp),if_neg (by rw[hwa];simp),if_neg (by omega),if_pos (by simp[hsp])]
 rw[f]
 obtain⟨Am,cm,v,_,_⟩:=h.at_.mails.form
 have b:=fun W (hb:Below w.heap.size w W)=>h.at_.later hb
 have c:=fun W hb=>(b W hb).zU
 rw[v] at c
 have N:∀W,Below w.heap.size w W→W.cell? ⟨g,2,none⟩=some (.int .i64 x.cfg.maxMails):=fun W hb=>(b W hb).cells 2
 have O:∀W,Below w.heap.size w W→W.cell? ⟨g,4,none⟩=some (.int .i64 x.cfg.maxSize):=fun W hb=>(b W hb).cells 4
 have P:∀W,Below w.heap.size w W→W.cell? ⟨g,6,none⟩=some (.int .i64 x.cfg.maxMod):=fun W hb=>(b W hb).cells 6
 have Q:∀W,Below w.heap.size w W→W.cell? ⟨g,9,none⟩=some (.int .i64 x.clock):=fun W hb=>(b W hb).yo
 have o:∀W,Below w.heap.size w W→W.cell? ⟨g,15,none⟩=some (.int .i64 x.octets):=fun W hb=>(b W hb).VK
 have E:=h.fit.cfg.size
 have j:=h.fit.octets
 have R:0≤x.octets:=by
  rw[j.1]
  exact zW _
 have S:=j.2
 have gw:IntKind.i64.wrap (x.cfg.maxSize - x.octets)=x.cfg.maxSize - x.octets:=IntWalk.i64_in _ (by omega)
 obtain⟨T,l⟩:∃T,x.mails.length=T:=⟨_,rfl⟩
 rw[l] at c
 have F:=zdG c
 have U:=zdG N
 have V:=zdG O
 have X:=zdG P
 have Y:=zdG Q
 have G:=zdG o
 clear b c N O P Q o E j v
 obtain⟨A,a7,y,_,_⟩:=h.boxes.form
 have p:is.length≠0:=fun h0=>hgood (.inl (List.eq_nil_of_length_eq_zero h0))
 have Z:((is.length:Int)==0)=false:=by simpa using p
 have a0:¬at_ < 0:=fun h0=>hgood (.inr (.inl h0))
 have a1:¬253402300799 < at_:=fun h0=>hgood (.inr (.inr h0))
 have k:=h.kc
 have d:=h.wc
 rw[y] at d ⊢
 have H:=zdG h
 clear y hgood p h
 rw[hwa] at d
 rw[hke] at k
 have I:=zdG d
 rw[l] at hfu1
 clear f
 have r:=H.out.sc (all_in hwa)
 rw[hsp] at r
 clear hwa d l
 go_enter Tryz.func38,Tryz.ntmps38
 go_wp2_with (first
  |(go_at_call 90;refine k.mono ?_;rintro e w2 ⟨Ak,ck,a8,rfl,z,m,B⟩;have a2:=zdG z;have J:=zdG m;have a3:=zdG B;have s:=I.out w2 m;clear k z m B)
  |(go_at_call 91;refine s.mono ?_;rintro e i ⟨v3,h3,rfl,n,C,D⟩;clear s;obtain⟨A3,p3,rfl,_,_⟩:=n.form;have a:=za J.out D;have a4:=F.out i a;have c2:=U.out i a;have c4:=V.out i a;have a5:=G.out i a;have c6:=X.out i a;have c9:=Y.out i a;have u:=zdG a;have K:=zdG n;have a6:=zdG C;clear n C D a)
  |fail)
 go_quiet (fail)
 go_wp2_with fail
 go_quiet (fail)
 go_wp2_with (first
  |(go_at_call 92;refine(yQ g x.clock x.cfg.maxMod _ ((zB (w:=i) (by rfl) _).trans c9) ((zB (w:=i) (by rfl) _).trans c6)).mono ?_;rintro e w4 ⟨rfl,ne,rfl⟩)
  |(go_at_call 93;refine(r _ (below_drewN' u.out _) _ h3 (K.out.heap (by rfl))).mono ?_;rintro e w5 ⟨rfl,M⟩;have L:=zdG M)
  |fail)
 go_ret2
 exact⟨rfl,q,(((Turned.of_below H.out.at_ u.out).zL (below_drewN' (Below.refl _ _) _))).zL L.out⟩
def VY (n:Nat):Code→Code
 |.seq (.region k ops d) r=>if k=n then .region k ops d else VY n r
 |.seq _ r=>VY n r
 |.region k ops d=>if k=n then .region k ops d else .skip
 |_=>.skip
theorem Try.infoMember2:(Tryz.prog.info? 56).map (fun i=>(i.zero,i.size,i.bytes))=some (some (.agg #[.int .i64 0,.int .i64 0]),2,16):=by kernel_rfl
theorem zdD {h8 h2:Option Nat}{B n8:Nat}(ho8:∀b,h8=some b→B≤b)(ho9:h2=h8∨∃g,h2=some g∧n8≤g)(hn:B≤n8):∀b,h2=some b→B≤b:=by
 intro b a
 rcases ho9 with h7|⟨g7,h7,h8x⟩
 ·exact ho8 b (by rw[←h7];exact a)
 ·rw[h7] at a
  injection a with a
  omega
theorem XU {W:World}{g:Nat}{q:zl}{x:Acc}(h:zh W g q x)(hm1:1≤x.log.most)(hm2:x.log.most≤1099511627776)(hn1:x.log.es.length≤1099511627776){e:List E4}{A:Option Addr}{c n:Nat}{hh:Option Nat}(hs:Sl W 177 4 (.slice A n c) hh n (zM e))(hn:e.length=n)(hn2:n≤1099511627776)(hho:∀b,hh=some b→b∉q.own g) :
  Calls Tryz.prog 98 #[.pointer (some ⟨q.gl,0,none⟩),.slice A n c] W fun e' w'=>e'=.returned (.tuple #[])∧∃q'',Turned W w' g q {x with log:=x.log.add e} q'':=by
 subst hn
 refine(add_any W q.gl q.hl x.log A c e h.log hm1 hm2 hn1 hn2 (fun hne=>?_)).mono ?_
 ·have a:0 < e.length:=by
   cases e with
   |nil=>exact absurd rfl hne
   |cons y r=>simp
  obtain⟨b,d,k,l,m,_,_,f,i⟩:=hs.at_ a
  injection m with hv1
  refine⟨b,d,hv1,f,fun hm=>hho b l ?_,fun j hj=>(i j hj).1⟩
  rcases List.mem_cons.1 hm with hm|hm
  ·rw[hm]
   exact zl.Yg
  ·exact zl.Yp (by simpa using hm)
 ·rintro e' w' ⟨rfl,s,hl,o,p⟩
  exact⟨rfl,_,h.zdF hl o p⟩
theorem UY {wg w8 w8' w9:World}{g:Nat}{q:zl}{x5 x6:Acc}{h8 h2:Option Nat}{e:List E4}{A:Option Addr}{c n:Nat}(hst:zh wg g q x5)(ht8:Turned wg w8 g q x6 q)(ho8:∀b,h8=some b→wg.heap.size≤b)(hb8:Below w8.heap.size w8 w8')(hs9:Sl w9 177 4 (.slice A n c) h2 n (zM e))(hc9:Chg h8.toList w8' w9)(ho9:h2=h8∨∃g,h2=some g∧w8'.heap.size≤g)(hn:e.length=n)(hn2:n≤1099511627776)(hlog:1≤x6.log.most∧x6.log.most≤1099511627776∧x6.log.es.length≤1099511627776) :
  Turned wg w9 g q x6 q∧Calls Tryz.prog 98 #[.pointer (some ⟨q.gl,0,none⟩),.slice A n c] w9 fun e' w'=>e'=.returned (.tuple #[])∧∃q'',Turned w9 w' g q {x6 with log:=x6.log.add e} q'':=by
 have a:=(ht8.zL hb8).newer hst hc9 (fun k hk=>ho8 k (by simpa using hk))
 have d:wg.heap.size≤w8.heap.size:=ht8.chg.size
 have f:=zdD ho8 ho9 (Nat.le_trans d hb8.size)
 exact⟨a,XU a.at_ hlog.1 hlog.2.1 hlog.2.2 hs9 hn hn2 (fun b hb hm=>by
  have h:=hst.lt b hm
  have i:=f b hb
  omega)⟩
theorem Try.infoInt3:(Tryz.prog.info? 3).map (fun i=>(i.zero,i.size,i.bytes))=some (some (.int .i64 0),1,8):=by kernel_rfl
def yF (l:List (Int×Int)):List Int:=l.map (·.1)
structure uV (w wr:World)(l:List (Int×Int))(k:Nat)(o:Value):Prop where
 below:Below w.heap.size w wr
 out:∃h,Sl wr 3 1 o h k ((yF (l.take k)).map encI)∧∀b,h=some b→w.heap.size≤b
theorem uV.next {w wr W W2:World}{l:List (Int×Int)}{k:Nat}{o o2:Value}{h1 h2:Option Nat}(hR:uV w wr l k o)(hk:k < l.length)(hb:Below wr.heap.size wr W)(hf1:∀b,h1=some b→w.heap.size≤b)(hs2:Sl W2 3 1 o2 h2 (k+1) ((yF (l.take k)).map encI++[.int .i64 l[k].1]))(hc2:Chg h1.toList W W2)(ho2:h2=h1∨∃g,h2=some g∧W.heap.size≤g):uV w W2 l (k+1) o2:=by
 have a:=za hR.below hb
 refine⟨a.trans (hc2.below a.size (fun k hk=>hf1 k (by simpa using hk))),h2,?_,fun b hb2=>?_⟩
 ·have e:(yF (l.take (k+1))).map encI=(yF (l.take k)).map encI++[.int .i64 l[k].1]:=by
   rw[List.take_succ_eq_append_getElem hk]
   unfold yF
   rw[List.map_append,List.map_append]
   rfl
  rw[e]
  exact hs2
 ·rcases ho2 with h3|⟨g2,h3,h4⟩
  ·exact hf1 b (by rw[←h3];exact hb2)
  ·rw[h3] at hb2
   injection hb2 with hb2
   have:=a.size
   omega
theorem uR (w:World)(a0 a1 a3 a6 a7:Int)(s2:ByteArray)(vk vm:Value)(l:List (Int×Int))(hm:RdS w [] 2 vm l.length (zk zA l))(hn:l.length≤1099511627776) :
  Calls Tryz.prog 129 #[.agg #[.int .i64 a0,.int .i64 a1,.string s2,.int .i64 a3,vk,vm,.int .i64 a6,.int .i64 a7]] w fun e w'=>∃v hh,e=.returned v∧Sl w' 3 1 v hh l.length ((yF l).map encI)∧(∀b,hh=some b→w.heap.size≤b)∧Below w.heap.size w w':=by
 obtain⟨U,O,H,I,J⟩:=info_parts Try.infoInt3
 obtain⟨n,m⟩:∃n,l.length=n:=⟨_,rfl⟩
 rw[m] at hm
 obtain⟨A,K,rfl,_,_⟩:=hm.form
 have D:Hid (uV w (w.alloc (.cells #[.int .i64 a0,.int .i64 a1,.string s2,.int .i64 a3,vk,.slice A n K,.int .i64 a6,.int .i64 a7] 54)) l 0 (.slice none 0 0)):=zdG ⟨below_alloc1 _ _,none,Sl.nil _ _ _,fun b hb=>(by cases hb)⟩
 have N:=zdG hm
 have f:=zdG m
 clear hm m
 go_enter Tryz.func129,Tryz.ntmps129
 go_wp2
 go_loopw [3,9] (fun o i wr=>∃k:Nat,k≤n∧i=.int .i64 k∧Hid (uV w wr l k o)) (fun _ i _=>n - (intOf i).toNat)
 case atStart=>exact⟨0,Nat.zero_le _,rfl,D⟩
 case round=>
  obtain⟨k,V,rfl,r⟩:=hrel
  by_cases G:k < n
  ·have g:k < l.length:=by rw[f.out];exact G
   obtain⟨b,t,M,P,_,_,d,_,p⟩:=N.out.at_ (by omega)
   injection P with hv1 _ hv2
   subst hv1 hv2
   obtain⟨B,q⟩:∃B,l[k].1=B:=⟨_,rfl⟩
   obtain⟨C,u⟩:∃C,l[k].2=C:=⟨_,rfl⟩
   have S:wr.cell? ⟨b,t+k * 2,none⟩=some (.int .i64 B):=by
    refine(r.out.below.cell d).trans ?_
    have h1:=p (k * 2+0) (by omega)
    rw[zy zJ l k 0 g (by omega)] at h1
    rw[←q]
    exact h1
   have T:wr.cell? ⟨b,t+k * 2+1,none⟩=some (.int .i64 C):=by
    refine(r.out.below.cell d).trans ?_
    have h1:=p (k * 2+1) (by omega)
    rw[zy zJ l k 1 g (by omega),←Nat.add_assoc] at h1
    rw[←u]
    exact h1
   obtain⟨L,a,c⟩:=r.out.out
   obtain⟨W,X,rfl,_,_⟩:=a.form
   have h:=zdG (a.alloc (.cells #[.int .i64 B,.int .i64 C] 56))
   have j:=zdG c
   have E:=zdG q
   clear a c q u p
   go_wp2_with (first
    |(at_builtin;refine yI rfl _ _ 37 rfl Tryz.underlying37 O H I J rfl (by decide) h.out rfl (wr.heap.size+1) (by simp) 1 1 rfl rfl ?_ ?_ ?_ ?_)
    |fail)
   any_goals (first|(simp[Value.oneCell'];done)|(unfold maxLen;omega)|omega)
   intro Q Y R x y z
   have s:Hid (uV w R l (k+1) Q):=zdG (uV.next (h1:=L) r.out g (below_alloc1 wr _) j.out (by rw[E.out];exact x) y (by rw[World.size_alloc];exact z))
   clear x y z
   go_wp2
   refine⟨?_,by simp[intOf];omega⟩
   first|exact⟨k+1,by omega,by go_num,s⟩|((repeat apply Exists.intro);exact⟨⟨k+1,by omega,by go_num,s⟩,rfl⟩)
  ·have F:k=n:=by omega
   subst F
   obtain⟨L,a,c⟩:=r.out.out
   rw[List.take_of_length_le (by rw[f.out];exact Nat.le_refl _)] at a
   have h:=zdG a
   have j:=zdG c
   clear a c
   go_wp2
   go_ret
   exact⟨_,L,rfl,by rw[f.out];exact h.out,j.out,r.out.below⟩
theorem zds (wg:World)(g:Nat)(q:zl)(x5 x6:Acc)(mod id:Int)(ne n3:Nat)(A3:Option Addr)(p3:Nat)(es:List E4)(u2 u3 u4 u5 u6 u7 u8 u9 u11 u13 u14 u15 u16 u17 u18 u19 u20 u21 u22 u23 u24 u25 u26 u27 u28 u29 u30 u31 u32 u33 u34 u35 u36 u37 u38 u39 u40 u41 u42 u43 u44 u45 u46 u47 u48 u49 u50 u51 u52 u53 u54 u55 u56 u57 u58 u59 u60 u61 u62 u63 u64 u65 u66 u67 u68 u69 u70 u71 u72 u73 u74 u75 u76 u77 u78 u79 u80 u81 u82 u83 u84:Value)(K:Act→World→Prop)(R:Ending→World→Prop)(fn:Func)(hst:zh wg g q x5)(hes:es.length=ne)(hne:ne≤4294967296)(hlog:1≤x6.log.most∧x6.log.most≤1099511627776∧x6.log.es.length≤1099511627776)(htu:∀W,Below wg.heap.size wg W→Calls Tryz.prog 99 #[.pointer (some ⟨g,0,none⟩),.int .i64 mod,.slice A3 n3 p3] W fun e w'=>∃v' hh,e=.returned v'∧Sl w' 177 4 v' hh ne (zM es)∧(∀b,hh=some b→W.heap.size≤b)∧Turned W w' g q x6 q)(hQ:∀(v71 v72 v73 v74 v75 v76 v77 v78 v79 v80 v81 v82 v83 v84:Value) (wx:World) (q2:zl),Turned wg wx g q {x6 with log:=x6.log.add (es++[⟨mod,2,id,2⟩])} q2→K ⟨#[.pointer (some ⟨g,0,none⟩),.int .i64 id,u2,u3,u4,u5,u6,u7,u8,u9,.int .i64 mod,u11,.slice A3 n3 p3,u13,u14,u15,u16,u17,u18,u19,u20,u21,u22,u23,u24,u25,u26,u27,u28,u29,u30,u31,u32,u33,u34,u35,u36,u37,u38,u39,u40,u41,u42,u43,u44,u45,u46,u47,u48,u49,u50,u51,u52,u53,u54,u55,u56,u57,u58,u59,u60,u61,u62,u63,u64,u65,u66,u67,u68,u69,u70,v71,v72,v73,v74,v75,v76,v77,v78,v79,v80,v81,v82,v83,v84],[]⟩ wx) :
  Code.wp Tryz.prog (VY 19 (Tryz.f51.body.getD .skip)) (Exit.then K (bodyPost Tryz.prog fn R)) ⟨#[.pointer (some ⟨g,0,none⟩),.int .i64 id,u2,u3,u4,u5,u6,u7,u8,u9,.int .i64 mod,u11,.slice A3 n3 p3,u13,u14,u15,u16,u17,u18,u19,u20,u21,u22,u23,u24,u25,u26,u27,u28,u29,u30,u31,u32,u33,u34,u35,u36,u37,u38,u39,u40,u41,u42,u43,u44,u45,u46,u47,u48,u49,u50,u51,u52,u53,u54,u55,u56,u57,u58,u59,u60,u61,u62,u63,u64,u65,u66,u67,u68,u69,u70,u71,u72,u73,u74,u75,u76,u77,u78,u79,u80,u81,u82,u83,u84],[]⟩ wg:=by
 obtain⟨e0,P,D,E,F⟩:=info_parts Try.infoEntry
 have s:=hst.blk.lt
 have G:wg.cell? ⟨g,12,none⟩=some (.pointer (some ⟨q.gl,0,none⟩)):=hst.zV
 have O:=(World.cell?_alloc_lt wg (.cells #[.int .i64 mod,.int .i64 2,.int .i64 id,.int .i64 2] 177) ⟨g,12,none⟩ s).trans G
 have y:=zdG htu
 have c:=zdG hst
 have o:=zdG hlog
 have z:=zdG hes
 have Q:=zdG hQ
 clear htu hst hlog hes hQ
 unfold Tryz.f51
 simp only[Option.getD_some,VY,Nat.reduceEqDiff,if_true,if_false,reduceCtorEq]
 go_region_law (first
  |(refine zF (by rfl) (by rfl) (enters_of Tryz.func99 (by kernel_rfl) rfl) (by first|(simp[Act.eval];done)|simp[Act.eval,Act.put]) (y.out _ (zb wg)) ?_;rintro e k ⟨S,J,rfl,h,l,d⟩;obtain⟨T,U,rfl,_,_⟩:=h.form;refine⟨_,rfl,?_⟩;have t:k.cell? ⟨g,12,none⟩=some (.pointer (some ⟨q.gl,0,none⟩)):=d.at_.zV;have a:=(Turned.of_below c.out (zb wg)).trans d;have u:g < k.heap.size:=Nat.lt_of_lt_of_le s a.chg.size;have A:=(World.cell?_alloc_lt k (.cells #[.int .i64 mod,.int .i64 2,.int .i64 id,.int .i64 2] 177) ⟨g,12,none⟩ u).trans t;  have v:=zdG h;have w:Hid (∀b,J=some b→wg.heap.size≤b):=zdG (fun b hb=>Nat.le_trans (Below.size (zb wg)) (l b hb));have x:=zdG a;clear h l d a)
  |(refine zF (by rfl) (by rfl) (enters_of Tryz.func99 (by kernel_rfl) rfl) (by first|(simp[Act.eval];done)|simp[Act.eval,Act.put]) (y.out _ (za (below_alloc1 wg (.cells #[.int .i64 mod,.int .i64 2,.int .i64 id,.int .i64 2] 177)) (zb _))) ?_;rintro e k ⟨S,J,rfl,h,l,d⟩;obtain⟨T,U,rfl,_,_⟩:=h.form;refine⟨_,rfl,?_⟩;have t:k.cell? ⟨g,12,none⟩=some (.pointer (some ⟨q.gl,0,none⟩)):=d.at_.zV;have a:=(Turned.of_below c.out (za (below_alloc1 wg (.cells #[.int .i64 mod,.int .i64 2,.int .i64 id,.int .i64 2] 177)) (zb _))).trans d;have u:g < k.heap.size:=Nat.lt_of_lt_of_le s a.chg.size;have A:=(World.cell?_alloc_lt k (.cells #[.int .i64 mod,.int .i64 2,.int .i64 id,.int .i64 2] 177) ⟨g,12,none⟩ u).trans t;have H:Hid (Blk k wg.heap.size 177 #[.int .i64 mod,.int .i64 2,.int .i64 id,.int .i64 2]):=zdG (((Blk.new wg 177 #[.int .i64 mod,.int .i64 2,.int .i64 id,.int .i64 2]).heap (w':=(wg.alloc (.cells #[.int .i64 mod,.int .i64 2,.int .i64 id,.int .i64 2] 177)).drew) rfl).chg d.chg (fun hm=>Nat.lt_irrefl _ (c.out.lt _ hm)));have v:=zdG h;have w:Hid (∀b,J=some b→wg.heap.size≤b):=zdG (fun b hb=>Nat.le_trans (Below.size (za (below_alloc1 wg (.cells #[.int .i64 mod,.int .i64 2,.int .i64 id,.int .i64 2] 177)) (zb _))) (l b hb));have x:=zdG a;clear h l d a)
  |(refine zx _ (by rfl) (.tmp 78) (.tmp 82) _ (by rfl) Tryz.underlying102 P D E F rfl (by omega) (v.out.alloc _) (by first|(simp[Act.eval];done)|simp[Act.eval,Act.put]) k.heap.size #[.int .i64 mod,.int .i64 2,.int .i64 id,.int .i64 2] (e':=177) (fr:=(0,0)) (heap_alloc_new k _) 1 1 (by first|(simp[Act.eval];done)|simp[Act.eval,Act.put]) (by rfl) (by simp[Value.oneCell']) (by unfold maxLen;omega) (by omega) ?_;intro V X L i m n;obtain⟨M,N,rfl,_,_⟩:=i.form;obtain⟨j,f⟩:=UY (e:=(es++[⟨mod,2,id,2⟩])) c.out x.out w.out (below_alloc1 k _) (by rw[zP];exact i) m n (by rw[List.length_append,z.out];rfl) (by omega) o.out;have I:L.cell? ⟨g,12,none⟩=some (.pointer (some ⟨q.gl,0,none⟩)):=j.at_.zV;have B:=zdG j;have p:=zdG f;clear i m n j f)
  |(refine zx _ (by rfl) (.tmp 78) (.tmp 82) _ (by rfl) Tryz.underlying102 P D E F rfl (by omega) v.out (by first|(simp[Act.eval];done)|simp[Act.eval,Act.put]) wg.heap.size #[.int .i64 mod,.int .i64 2,.int .i64 id,.int .i64 2] (e':=177) (fr:=(0,0)) H.out 1 1 (by first|(simp[Act.eval];done)|simp[Act.eval,Act.put]) (by rfl) (by simp[Value.oneCell']) (by unfold maxLen;omega) (by omega) ?_;intro V X L i m n;obtain⟨M,N,rfl,_,_⟩:=i.form;obtain⟨j,f⟩:=UY (e:=(es++[⟨mod,2,id,2⟩])) c.out x.out w.out (Below.refl _ k) (by rw[zP];exact i) m n (by rw[List.length_append,z.out];rfl) (by omega) o.out;have I:L.cell? ⟨g,12,none⟩=some (.pointer (some ⟨q.gl,0,none⟩)):=j.at_.zV;have B:=zdG j;have p:=zdG f;clear i m n j f)
  |(refine zF (by rfl) (by rfl) (enters_of Tryz.func98 (by kernel_rfl) rfl) (by first|(simp[Act.eval];done)|simp[Act.eval,Act.put]) p.out ?_;rintro e Y ⟨rfl,Z,r⟩;refine⟨_,rfl,?_⟩;have C:=zdG r;clear r)
  |fail)
 all_goals exact Q.out _ _ _ _ _ _ _ _ _ _ _ _ _ _ _ _ (B.out.trans C.out)
def AppendOk:Prop:=∀(w:World) (g:Nat) (q:zl) (x:Acc) (is:List Int) (vb:Value) (Sb:List Nat) (ks:zN) (vk:Value) (Sk:List Nat) (at_:Int) (t:List UInt8),Zx w g q x is vb Sb ks vk Sk t→
 Calls Tryz.prog 38 #[.pointer (some ⟨g,0,none⟩),vb,vk,.int .i64 at_,.string ⟨t.toArray⟩] w (vX w g q (zq zO x is ks at_ t))
theorem zcL:zG []=([],0):=by simp[zG,Zj,Lib.compact,Lib.compactUpTo]
theorem one_sl (w:World):Sl (w.alloc (.cells #[.int .i64 1] 3)) 3 1 (.slice (some ⟨w.heap.size,0,none⟩) 1 1) (some w.heap.size) 1 ([(1:Int)].map encI):=
 ⟨by simp,.inr ⟨w.heap.size,0,1,_,rfl,rfl,Blk.new _ _ _,Nat.le_refl _,by unfold maxLen;omega,by simp,by simp⟩⟩
theorem one_in {w:World}{g:Nat}{q:zl}{x:Acc}(h:zh w g q x)(hf:Fit x)(t:List UInt8)(ht:t.length≤1099511627776):Zx (w.alloc (.cells #[.int .i64 1] 3)) g q x [1] (.slice (some ⟨w.heap.size,0,none⟩) 1 1) [] [] (.slice none 0 0) [] t:=
 ⟨h.alloc _,hf,(one_sl w).reads [] (by simp),by decide,⟨by simp,.inl ⟨rfl,rfl⟩⟩,by decide,fun s hs=>by simp at hs,ht⟩
def exB:yg:=⟨1,uH,0,1,2,2⟩
theorem exA:∃xA:Acc,zq zO (newP (Jv 1000 100 1048576 1073741824 1073741824 10000 200)) [1] [] 0 [97]=(xA,1,0)∧xA.clock=2∧xA.boxes=[exB]:=by
 have h:=zab zO (newP (Jv 1000 100 1048576 1073741824 1073741824 10000 200)) ⟨1,uH,0,1,1,1⟩ rfl rfl [] (by rw[zcL]) 0 (by decide) (by decide) [97] (by decide) (by decide) (by decide) (by decide)
 exact⟨_,h,rfl,rfl⟩
theorem Yq (happ:AppendOk)(w:World):Calls Tryz.prog 8 #[] w fun e w'=>e=.returned (.bool true)∧Below w.heap.size w w':=by
 have I:=wide_any w
 have J:=fun W=>U3 1000 100 1048576 1073741824 1073741824 10000 200 (by unfold lim;omega) (by unfold lim;omega) (by unfold lim;omega) (by unfold lim;omega) (by unfold lim;omega) (by unfold lim;omega) (by unfold lim;omega) W
 have z:=fun W n=>vU W n
 have c:Fit (newP (Jv 1000 100 1048576 1073741824 1073741824 10000 200)):=Jo wideP_ok
 obtain⟨K,L,p,r⟩:=exA
 have l:=zdG happ
 have m:=zdG c
 have M:=zdG L
 have A:=zdG p
 have o:=zdG r
 clear happ c L p r
 go_enter Tryz.func8,Tryz.ntmps8
 go_wp2_with (first
  |(go_at_call 37;refine I.mono ?_;rintro e V ⟨rfl,s⟩;have B:=zdG s;clear I s)
  |(go_at_call 9;refine(J _).mono ?_;rintro e X ⟨g,q,rfl,G⟩;have i:=l.out _ g q _ [1] _ [] [] _ [] 0 [97] (one_in G.at_ m.out [97] (by decide));rw[M.out] at i;have N:=zdG G;clear J G)
  |(go_at_call 12;refine(z _ _).mono ?_;rintro e O ⟨rfl,rfl⟩)
  |(go_at_call 38;refine i.mono ?_;rintro e y ⟨rfl,P,t⟩;have a:=(N.out.later (below_alloc1 _ _)).turned t;have j:=Ym g K.clock y a.at_.yo;rw[A.out] at j;have b:=fun W (hb:Below y.heap.size y W)=>Vi W g P K (a.at_.later hb) (by rw[o.out];decide);rw[o.out] at b;have C:=zdG a;have D:=zdG b;have d:=b y (Below.refl _ _);clear i t a b)
  |(go_at_call 14;refine j.mono ?_;rintro e O ⟨rfl,rfl⟩;clear j)
  |(go_at_call 39;(with_reducible refine d.mono ?_);rintro e Q ⟨Y,Z,rfl,u,_,k⟩;obtain⟨A6,c6,rfl,_,_⟩:=u.form;have f:=D.out Q k;have E:=zdG k;clear d u k)
  |(go_at_call 39;(with_reducible refine f.mono ?_);rintro e R ⟨v7,h7,rfl,v,_,x⟩;obtain⟨S,T,c7,_,H,_,_,_,h⟩:=v.at_ (by decide);subst H;have U:R.cell? ⟨S,T+4,none⟩=some (.int .i64 2):=(h 4 (by decide)).1;have F:=zdG x;clear f v x h)
  |fail)
 go_ret
 exact⟨rfl,za B.out (za C.out.below (za E.out F.out))⟩
end Go.Proofs.YtfhlhdmhgheonaaGreatDoor
