/-
  The walk of the store's Append: what it hands back, and the account behind it, are appendP's. The walk of the store's Append, further: the clock at its end, a mailbox without a number left. What Append's last region is shown over: the log's Add at an account, and behind the entries' append; a region of a function's code, picked out. The walk of the mailboxes that an email is in. The last drawn reg
-/
import Derived.Test.YtnofkliaofgiaaaGreatDoorGE
import Derived.Test.YtnofkliaofgiaaaGreatDoorGD
import Derived.Test.YtnofkliaofgiaaaGreatDoorGC
import Derived.Deep.QuietTactic
import Derived.BigQuiet
import Derived.Deep.RegionLaw
import Derived.Deep.DrawnRows
import Derived.Deep.DeepCutAuto
import Derived.Deep.CutBlock
set_option maxRecDepth 100000
set_option maxHeartbeats 8000000
open Go.Proofs.Tryz
open Exists renaming intro→OA
open Go renaming Value→Oe,World→Oc
open Go.Ending renaming returned→RR
open Go.IntKind renaming i64→Ov
open Go.IntWalk renaming i64_in→Og
open Go.Proofs renaming enters_of→O9
open Go.RowKit renaming Below→Od
open Go.RowKit.Below renaming refl→Ok,size→Rg
open Go.Value renaming pointer→RQ,slice→RO,string→RP
open Go.World renaming cell?_alloc_lt→Ox,size_alloc→O3
open List renaming eq_nil_of_length_eq_zero→Oi,length_append→Oo,map_append→OQ,mem_cons→OB,take_of_length_le→Ou,take_succ_eq_append_getElem→Oh
open Nat renaming add_assoc→O1,le_refl→Oq,le_trans→Ol,lt_of_lt_of_le→OJ,zero_le→OE
open _root_ renaming ByteArray→Oy,List→Ob,Option→OC,UInt8→Oz,if_neg→Om,if_pos→OG
namespace Go.Proofs.YtnofkliaofgiaaaGreatDoor
open Go.Shelf Go.RowKit
attribute [local go_sem ↓] Go.wp_at_zero Go.wp_at_succ
theorem Try.infoMail:(prog.info? 83).map (fun i=>(i.zero,i.size,i.bytes))=some (some (.agg #[I 0,I 0,RP ⟨#[]⟩,I 0,RO none 0 0,RO none 0 0,I 0,I 0]),8,104):=zQ
theorem zO {B:Nat}{w w':Oc}(h:Od B w w')(n:Nat):Od B w (w'.drewN n):=⟨h.os,h.tape,h.output,h.size,h.block⟩
structure Ys (w:Oc)(g:Nat)(q:zW)(x:Acc)(is:Ob Int)(vb:Oe)(Sb:Ob Nat)(ks:yF)(vk:Oe)(Sk:Ob Nat)(t:Ob Oz):Prop where
 at_:zH w g q x
 fit:Fit x
 zg:NN w Sb 1 vb is.length (is.map yJ)
 nb:is.length≤4294967296
 keys:NN w Sk 1 vk ks.length (ks.map encStr)
 nk:ks.length≤1099511627776
 short:dX ks
 text:t.length≤1099511627776
def ZH (w:Oc)(g:Nat)(q:zW)(r:Acc×Int×Int)(e:Ending)(w':Oc):Prop:=e=RR (.tuple #[I r.2.1,I r.2.2])∧∃q',zL w w' g q r.1 q'
section
variable {w:Oc} {g:Nat} {q:zW} {x:Acc} {is:Ob Int} {vb:Oe} {Sb:Ob Nat} {ks:yF} {vk:Oe} {Sk:Ob Nat} {t:Ob Oz}
theorem Ys.kc (h:Ys w g q x is vb Sb ks vk Sk t):C 69 #[vk] w fun e w'=>∃A cap hh,e=RR (.tuple #[RO A (yz ks).1.length cap,I (yz ks).2])∧Sl w' 9 1 (RO A (yz ks).1.length cap) hh (yz ks).1.length ((yz ks).1.map encStr)∧Od w w w'∧∀b,hh=some b→w.heap.size≤b:=
 qV w vk ks.length ks rfl h.nk (h.keys.sub (fun _ _ _ hm=>by cases hm)) h.short
theorem Ys.Kk (h:Ys w g q x is vb Sb ks vk Sk t):x.zg.length≤1099511627776:=by
 exact pp
theorem Ys.wc (h:Ys w g q x is vb Sb ks vk Sk t)(W:Oc)(hb:Od w w W):C 70 #[Y g 0,vb] W fun e w'=>∃v' hh,e=RR (.tuple #[v',.bool (!(rise is).any (fun id=>!zZ x.zg id))])∧Sl w' 3 1 v' hh (rise is).length ((rise is).map yJ)∧(∀b,hh=some b→W.heap.size≤b)∧Od W W w':=
 Ye W g q x (h.at_.later hb) h.Kk is vb Sb (h.zg.below hb) (Ol h.nb zD)
theorem Ys.sc (h:Ys w g q x is vb Sb ks vk Sk t)(hall:∀i∈rise is,i∈ids x.zg)(W:Oc)(hb:Od w w W)(v:Oe)(hh:OC Nat)(hs:Sl W 3 1 v hh (rise is).length ((rise is).map yJ)) :
  C 72 #[v,.func (.func 73) #[Y g 0] #[]] W fun e w'=>e=RR (.bool ((rise is).any x.spent))∧Od W W w':=by
 have b:∀args W,(callFunc 73 args).run prog W=.ok (.enter 73 args) W:=O9 func73 zQ rfl
 refine qL v [] (rise is) x.spent _ _ b W (hs.reads [] zv) pI (fun W2 hb2 id hid=>?_)
 refine(lD W2 g q x (h.at_.later (zj hb hb2)) h.Kk id (hall id hid)).mono ?_
 rintro e w' ⟨c,a⟩
 exact⟨c,zj hb2 a⟩
end
theorem rQ (at_:Int)(w:Oc)(g:Nat)(q:zW)(x:Acc)(is:Ob Int)(vb:Oe)(Sb:Ob Nat)(ks:yF)(vk:Oe)(Sk:Ob Nat)(t:Ob Oz)(h:Ys w g q x is vb Sb ks vk Sk t)(hbad:is=[]∨at_ < 0∨253402300799 < at_) :
  C 26 #[Y g 0,vb,vk,I at_,Oa t] w (ZH w g q (ya yL x is ks at_ t)):=by
 have b:ya yL x is ks at_ t=(x,0,1):=by
  unfold ya xO
  rw[OG hbad]
 rw[b]
 have a:∀e,e=RR (.tuple #[I 0,I 1])→ZH w g q (x,0,1) e w:=fun e he=>⟨he,q,zL.refl h.at_⟩
 obtain⟨A,i,rfl,_,_⟩:=h.zg.form
 obtain⟨n,f⟩:∃n,is.length=n:=⟨_,rfl⟩
 rw[f]
 have c:n=0∨(¬n=0∧at_ < 0)∨(¬n=0∧¬at_ < 0∧253402300799 < at_):=by
  by_cases h0:n=0
  ·exact .inl h0
  ·rcases hbad with h1|h1|h1
   ·exact absurd (by rw[←f,h1];rfl) h0
   ·exact .inr (.inl ⟨h0,h1⟩)
   ·by_cases d:at_ < 0
    ·exact .inr (.inl ⟨h0,d⟩)
    ·exact .inr (.inr ⟨h0,d,h1⟩)
 have qf:=V a
 clear b hbad h a f
 rcases c with rfl|⟨h0,h1⟩|⟨h0,d,h1⟩
 ·go_enter func26,ntmps26
  go_wp2
  go_ret2
  exact qf.o _ rfl
 ·exact Ge
 ·exact Ge
theorem mC (at_:Int)(w:Oc)(g:Nat)(q:zW)(x:Acc)(is:Ob Int)(vb:Oe)(Sb:Ob Nat)(ks:yF)(vk:Oe)(Sk:Ob Nat)(t:Ob Oz)(h:Ys w g q x is vb Sb ks vk Sk t)(hgood:¬(is=[]∨at_ < 0∨253402300799 < at_))(hke:(yz ks).2≠0) :
  C 26 #[Y g 0,vb,vk,I at_,Oa t] w (ZH w g q (ya yL x is ks at_ t)):=by
 have b:ya yL x is ks at_ t=(x,0,(yz ks).2):=by
  unfold ya xO
  rw[Om hgood,OG hke]
 rw[b]
 obtain⟨A,i,d,_,_⟩:=h.zg.form
 have jw:is.length≠0:=fun h0=>hgood (.inl (Oi h0))
 have m:((is.length:Int)==0)=false:=Zt
 have j:¬at_ < 0:=fun h0=>hgood (.inr (.inl h0))
 have k:¬253402300799 < at_:=fun h0=>hgood (.inr (.inr h0))
 have a:=h.kc
 rw[d]
 have H:=V h
 clear d hgood jw h
 generalize yz ks=kf at a hke ⊢
 obtain⟨u,n⟩:=kf
 simp only at a hke ⊢
 have s:(n==0)=false:=by simpa using hke
 clear b
 go_enter func26,ntmps26
 go_wp2_with (first
  |(go_at_call 69;refine a.mono ?_;rintro e v ⟨p,r,l,rfl,_,c,_⟩;have f:=V c;clear a c)
  |fail)
 go_ret2
 exact⟨rfl,q,zL.of_below H.o.at_ f.o⟩
theorem mD (at_:Int)(w:Oc)(g:Nat)(q:zW)(x:Acc)(is:Ob Int)(vb:Oe)(Sb:Ob Nat)(ks:yF)(vk:Oe)(Sk:Ob Nat)(t:Ob Oz)(h:Ys w g q x is vb Sb ks vk Sk t)(hgood:¬(is=[]∨at_ < 0∨253402300799 < at_))(hke:(yz ks).2=0)(hwa:(rise is).any (fun id=>!zZ x.zg id)=true) :
  C 26 #[Y g 0,vb,vk,I at_,Oa t] w (ZH w g q (ya yL x is ks at_ t)):=by
 have b:ya yL x is ks at_ t=(x,0,6):=by
  unfold ya xO
  rw[Om hgood,Om ZZ,OG hwa]
 rw[b]
 obtain⟨A,y,l,_,_⟩:=h.zg.form
 have jw:is.length≠0:=fun h0=>hgood (.inl (Oi h0))
 have E:((is.length:Int)==0)=false:=Zt
 have z:¬at_ < 0:=fun h0=>hgood (.inr (.inl h0))
 have B:¬253402300799 < at_:=fun h0=>hgood (.inr (.inr h0))
 have d:=h.kc
 have a:=h.wc
 rw[l] at a ⊢
 have H:=V h
 clear l hgood jw h
 rw[hwa] at a
 rw[hke] at d
 have r:=V a
 clear b hwa a
 go_enter func26,ntmps26
 go_wp2_with (first
  |(go_at_call 69;refine d.mono ?_;rintro e F ⟨J,K,D,rfl,k,c,i⟩;have v:=V k;have p:=V c;have u:=V i;have m:=r.o F c;clear d k c i)
  |(go_at_call 70;refine m.mono ?_;rintro e P ⟨N,L,rfl,j,s,f⟩;clear m;obtain⟨G,M,rfl,_,_⟩:=j.form;have n:=V (zj p.o f);clear j s f)
  |fail)
 go_ret2
 exact⟨rfl,q,zL.of_below H.o.at_ n.o⟩
theorem iA (at_:Int)(w:Oc)(g:Nat)(q:zW)(x:Acc)(is:Ob Int)(vb:Oe)(Sb:Ob Nat)(ks:yF)(vk:Oe)(Sk:Ob Nat)(t:Ob Oz)(h:Ys w g q x is vb Sb ks vk Sk t)(hgood:¬(is=[]∨at_ < 0∨253402300799 < at_))(hke:(yz ks).2=0)(hwa:(rise is).any (fun id=>!zZ x.zg id)=false)(hfu:x.N3.xb≤(x.zC.length:Int)) :
  C 26 #[Y g 0,vb,vk,I at_,Oa t] w (ZH w g q (ya yL x is ks at_ t)):=by
 have f:ya yL x is ks at_ t=(x,0,8):=by
  unfold ya xO
  rw[Om hgood,Om ZZ,Om Yr,OG (.inl hfu)]
 rw[f]
 obtain⟨Am,cm,y,_,_⟩:=h.at_.zC.form
 have b:=fun W (hb:Od w w W)=>h.at_.later hb
 have d:=fun W hb=>(b W hb).xj
 rw[y] at d
 have M:∀W,Od w w W→W.cell? (Y g 2)=some (I x.N3.xb):=fun W hb=>(b W hb).cells 2
 have N:∀W,Od w w W→W.cell? (Y g 4)=some (I x.N3.yA):=fun W hb=>(b W hb).cells 4
 have P:∀W,Od w w W→W.cell? (Y g 6)=some (I x.N3.ym):=fun W hb=>(b W hb).cells 6
 have Q:∀W,Od w w W→W.cell? (Y g 9)=some (I x.zA):=fun W hb=>(b W hb).vF
 have B:∀W,Od w w W→W.cell? (Y g 15)=some (I x.zP):=fun W hb=>(b W hb).QA
 have J:=h.fit.N3.size
 have l:=h.fit.zP
 have K:0≤x.zP:=by
  rw[l.1]
  exact xo _
 have L:=l.2
 have gw:Ov.wrap (x.N3.yA - x.zP)=x.N3.yA - x.zP:=Og _ O
 obtain⟨R,k⟩:∃R,x.zC.length=R:=⟨_,rfl⟩
 rw[k] at d
 have F:=V d
 have K2:=V M
 have K4:=V N
 have K6:=V P
 have K9:=V Q
 have G:=V B
 clear b d M N P Q B J l y
 obtain⟨A,a2,v,_,_⟩:=h.zg.form
 have jw:is.length≠0:=fun h0=>hgood (.inl (Oi h0))
 have a6:((is.length:Int)==0)=false:=Zt
 have a3:¬at_ < 0:=fun h0=>hgood (.inr (.inl h0))
 have a4:¬253402300799 < at_:=fun h0=>hgood (.inr (.inr h0))
 have j:=h.kc
 have c:=h.wc
 rw[v] at c ⊢
 have H:=V h
 clear v hgood jw h
 rw[hwa] at c
 rw[hke] at j
 have E:=V c
 rw[k] at hfu
 clear f hwa c k
 go_enter func26,ntmps26
 go_wp2_with (first
  |(go_at_call 69;refine j.mono ?_;rintro e w2 ⟨Ak,ck,a5,rfl,u,i,r⟩;have X:=V u;have D:=V i;have S:=V r;have z:=E.o w2 i;clear j u i r)
  |(go_at_call 70;refine z.mono ?_;rintro e n ⟨v3,h3,rfl,m,s,p⟩;clear z;obtain⟨A3,p3,rfl,_,_⟩:=m.form;have a:=zj D.o p;have a0:=F.o n a;have c2:=K2.o n a;have c4:=K4.o n a;have a1:=G.o n a;have c6:=K6.o n a;have c9:=K9.o n a;have bn:=V a;have U:=V m;have T:=V s;clear m s p a)
  |fail)
 go_quiet (fail)
 go_wp2_with fail
 exact GP
theorem iB (at_:Int)(w:Oc)(g:Nat)(q:zW)(x:Acc)(is:Ob Int)(vb:Oe)(Sb:Ob Nat)(ks:yF)(vk:Oe)(Sk:Ob Nat)(t:Ob Oz)(h:Ys w g q x is vb Sb ks vk Sk t)(hgood:¬(is=[]∨at_ < 0∨253402300799 < at_))(hke:(yz ks).2=0)(hwa:(rise is).any (fun id=>!zZ x.zg id)=false)(hfu1:¬x.N3.xb≤(x.zC.length:Int))(hfu:x.N3.yA - x.zP < (t.length:Int)) :
  C 26 #[Y g 0,vb,vk,I at_,Oa t] w (ZH w g q (ya yL x is ks at_ t)):=by
 have f:ya yL x is ks at_ t=(x,0,8):=by
  unfold ya xO
  rw[Om hgood,Om ZZ,Om Yr,OG (.inr hfu)]
 rw[f]
 obtain⟨Am,cm,y,_,_⟩:=h.at_.zC.form
 have b:=fun W (hb:Od w w W)=>h.at_.later hb
 have d:=fun W hb=>(b W hb).xj
 rw[y] at d
 have N:∀W,Od w w W→W.cell? (Y g 2)=some (I x.N3.xb):=fun W hb=>(b W hb).cells 2
 have P:∀W,Od w w W→W.cell? (Y g 4)=some (I x.N3.yA):=fun W hb=>(b W hb).cells 4
 have Q:∀W,Od w w W→W.cell? (Y g 6)=some (I x.N3.ym):=fun W hb=>(b W hb).cells 6
 have R:∀W,Od w w W→W.cell? (Y g 9)=some (I x.zA):=fun W hb=>(b W hb).vF
 have B:∀W,Od w w W→W.cell? (Y g 15)=some (I x.zP):=fun W hb=>(b W hb).QA
 have K:=h.fit.N3.size
 have l:=h.fit.zP
 have L:0≤x.zP:=by
  rw[l.1]
  exact xo _
 have M:=l.2
 have gw:Ov.wrap (x.N3.yA - x.zP)=x.N3.yA - x.zP:=Og _ O
 obtain⟨S,k⟩:∃S,x.zC.length=S:=⟨_,rfl⟩
 rw[k] at d
 have G:=V d
 have K2:=V N
 have K4:=V P
 have K6:=V Q
 have K9:=V R
 have J:=V B
 clear b d N P Q R B K l y
 obtain⟨A,a3,v,_,_⟩:=h.zg.form
 have jw:is.length≠0:=fun h0=>hgood (.inl (Oi h0))
 have a7:((is.length:Int)==0)=false:=Zt
 have a4:¬at_ < 0:=fun h0=>hgood (.inr (.inl h0))
 have a5:¬253402300799 < at_:=fun h0=>hgood (.inr (.inr h0))
 have j:=h.kc
 have c:=h.wc
 rw[v] at c ⊢
 have H:=V h
 clear v hgood jw h
 rw[hwa] at c
 rw[hke] at j
 have F:=V c
 rw[k] at hfu1
 clear f hwa c k
 go_enter func26,ntmps26
 go_wp2_with (first
  |(go_at_call 69;refine j.mono ?_;rintro e w2 ⟨Ak,ck,a6,rfl,u,i,r⟩;have a0:=V u;have E:=V i;have T:=V r;have z:=F.o w2 i;clear j u i r)
  |(go_at_call 70;refine z.mono ?_;rintro e n ⟨v3,h3,rfl,m,s,p⟩;clear z;obtain⟨A3,p3,rfl,_,_⟩:=m.form;have a:=zj E.o p;have a1:=G.o n a;have c2:=K2.o n a;have c4:=K4.o n a;have a2:=J.o n a;have c6:=K6.o n a;have c9:=K9.o n a;have D:=V a;have X:=V m;have U:=V s;clear m s p a)
  |fail)
 go_quiet (fail)
 go_wp2_with fail
 go_quiet (fail)
 go_wp2_with fail
 go_ret2
 exact⟨rfl,q,(zL.of_below H.o.at_ D.o).yO (zO (zO (Ok _ _) _) _)⟩
theorem JP {x:Acc}{l:Ob Int}(hwa:l.any (fun id=>!zZ x.zg id)=false):∀i∈l,i∈ids x.zg:=by
 intro i b
 have h1:=(List.any_eq_false.1 hwa) i b
 have a:zZ x.zg i=true:=xv
 exact(uv x.zg i).1 a
theorem mB (at_:Int)(w:Oc)(g:Nat)(q:zW)(x:Acc)(is:Ob Int)(vb:Oe)(Sb:Ob Nat)(ks:yF)(vk:Oe)(Sk:Ob Nat)(t:Ob Oz)(h:Ys w g q x is vb Sb ks vk Sk t)(hgood:¬(is=[]∨at_ < 0∨253402300799 < at_))(hke:(yz ks).2=0)(hwa:(rise is).any (fun id=>!zZ x.zg id)=false)(hfu1:¬x.N3.xb≤(x.zC.length:Int))(hfu2:¬x.N3.yA - x.zP < (t.length:Int))(hen:x.N3.ym≤x.zA) :
  C 26 #[Y g 0,vb,vk,I at_,Oa t] w (ZH w g q (ya yL x is ks at_ t)):=by
 have f:ya yL x is ks at_ t=(x,0,11):=by
  unfold ya xO
  rw[Om hgood,Om ZZ,Om Yr,Om O,OG Va]
 rw[f]
 obtain⟨Am,cm,y,_,_⟩:=h.at_.zC.form
 have b:=fun W (hb:Od w w W)=>h.at_.later hb
 have d:=fun W hb=>(b W hb).xj
 rw[y] at d
 have M:∀W,Od w w W→W.cell? (Y g 2)=some (I x.N3.xb):=fun W hb=>(b W hb).cells 2
 have N:∀W,Od w w W→W.cell? (Y g 4)=some (I x.N3.yA):=fun W hb=>(b W hb).cells 4
 have P:∀W,Od w w W→W.cell? (Y g 6)=some (I x.N3.ym):=fun W hb=>(b W hb).cells 6
 have Q:∀W,Od w w W→W.cell? (Y g 9)=some (I x.zA):=fun W hb=>(b W hb).vF
 have B:∀W,Od w w W→W.cell? (Y g 15)=some (I x.zP):=fun W hb=>(b W hb).QA
 have J:=h.fit.N3.size
 have m:=h.fit.zP
 have K:0≤x.zP:=by
  rw[m.1]
  exact xo _
 have L:=m.2
 have gw:Ov.wrap (x.N3.yA - x.zP)=x.N3.yA - x.zP:=Og _ O
 obtain⟨R,l⟩:∃R,x.zC.length=R:=⟨_,rfl⟩
 rw[l] at d
 have F:=V d
 have K2:=V M
 have K4:=V N
 have K6:=V P
 have K9:=V Q
 have G:=V B
 clear b d M N P Q B J m y
 obtain⟨A,a2,v,_,_⟩:=h.zg.form
 have jw:is.length≠0:=fun h0=>hgood (.inl (Oi h0))
 have a6:((is.length:Int)==0)=false:=Zt
 have a3:¬at_ < 0:=fun h0=>hgood (.inr (.inl h0))
 have a4:¬253402300799 < at_:=fun h0=>hgood (.inr (.inr h0))
 have k:=h.kc
 have c:=h.wc
 rw[v] at c ⊢
 have H:=V h
 clear v hgood jw h
 rw[hwa] at c
 rw[hke] at k
 have E:=V c
 rw[l] at hfu1
 clear f
 clear hwa c l
 go_enter func26,ntmps26
 go_wp2_with (first
  |(go_at_call 69;refine k.mono ?_;rintro e w2 ⟨Ak,ck,a5,rfl,u,j,r⟩;have X:=V u;have D:=V j;have S:=V r;have z:=E.o w2 j;clear k u j r)
  |(go_at_call 70;refine z.mono ?_;rintro e i ⟨v3,h3,rfl,n,s,p⟩;clear z;obtain⟨A3,p3,rfl,_,_⟩:=n.form;have a:=zj D.o p;have a0:=F.o i a;have c2:=K2.o i a;have c4:=K4.o i a;have a1:=G.o i a;have c6:=K6.o i a;have c9:=K9.o i a;have bn:=V a;have U:=V n;have T:=V s;clear n s p a)
  |fail)
 go_quiet (fail)
 go_wp2_with fail
 go_quiet (fail)
 go_wp2_with (first
  |(go_at_call 71;refine(vQ g x.zA x.N3.ym _ ((yD (w:=i) zF _).trans c9) ((yD (w:=i) zF _).trans c6)).mono ?_;rintro e w4 ⟨rfl,ne,rfl⟩)
  |fail)
 exact GP
theorem iC (at_:Int)(w:Oc)(g:Nat)(q:zW)(x:Acc)(is:Ob Int)(vb:Oe)(Sb:Ob Nat)(ks:yF)(vk:Oe)(Sk:Ob Nat)(t:Ob Oz)(h:Ys w g q x is vb Sb ks vk Sk t)(hgood:¬(is=[]∨at_ < 0∨253402300799 < at_))(hke:(yz ks).2=0)(hwa:(rise is).any (fun id=>!zZ x.zg id)=false)(hfu1:¬x.N3.xb≤(x.zC.length:Int))(hfu2:¬x.N3.yA - x.zP < (t.length:Int))(hen:¬x.N3.ym≤x.zA)(hsp:(rise is).any x.spent=true) :
  C 26 #[Y g 0,vb,vk,I at_,Oa t] w (ZH w g q (ya yL x is ks at_ t)):=by
 have f:ya yL x is ks at_ t=(x,0,11):=by
  unfold ya xO
  rw[Om hgood,Om ZZ,Om Yr,Om O,OG (by simp[hsp])]
 rw[f]
 obtain⟨Am,cm,B,_,_⟩:=h.at_.zC.form
 have b:=fun W (hb:Od w w W)=>h.at_.later hb
 have d:=fun W hb=>(b W hb).xj
 rw[B] at d
 have S:∀W,Od w w W→W.cell? (Y g 2)=some (I x.N3.xb):=fun W hb=>(b W hb).cells 2
 have T:∀W,Od w w W→W.cell? (Y g 4)=some (I x.N3.yA):=fun W hb=>(b W hb).cells 4
 have U:∀W,Od w w W→W.cell? (Y g 6)=some (I x.N3.ym):=fun W hb=>(b W hb).cells 6
 have X:∀W,Od w w W→W.cell? (Y g 9)=some (I x.zA):=fun W hb=>(b W hb).vF
 have E:∀W,Od w w W→W.cell? (Y g 15)=some (I x.zP):=fun W hb=>(b W hb).QA
 have P:=h.fit.N3.size
 have m:=h.fit.zP
 have Q:0≤x.zP:=by
  rw[m.1]
  exact xo _
 have R:=m.2
 have gw:Ov.wrap (x.N3.yA - x.zP)=x.N3.yA - x.zP:=Og _ O
 obtain⟨nm,l⟩:∃nm,x.zC.length=nm:=⟨_,rfl⟩
 rw[l] at d
 have L:=V d
 have K2:=V S
 have K4:=V T
 have K6:=V U
 have K9:=V X
 have M:=V E
 clear b d S T U X E P m B
 obtain⟨A,a5,z,_,_⟩:=h.zg.form
 have jw:is.length≠0:=fun h0=>hgood (.inl (Oi h0))
 have a9:((is.length:Int)==0)=false:=Zt
 have a6:¬at_ < 0:=fun h0=>hgood (.inr (.inl h0))
 have a7:¬253402300799 < at_:=fun h0=>hgood (.inr (.inr h0))
 have k:=h.kc
 have c:=h.wc
 rw[z] at c ⊢
 have H:=V h
 clear z hgood jw h
 rw[hwa] at c
 rw[hke] at k
 have K:=V c
 rw[l] at hfu1
 clear f
 have v:=H.o.sc (JP hwa)
 rw[hsp] at v
 clear hwa c l
 go_enter func26,ntmps26
 go_wp2_with (first
  |(go_at_call 69;refine k.mono ?_;rintro e w2 ⟨Ak,ck,a8,rfl,y,j,s⟩;have a2:=V y;have G:=V j;have a0:=V s;have D:=K.o w2 j;clear k y j s)
  |(go_at_call 70;refine D.mono ?_;rintro e i ⟨v3,h3,rfl,n,u,r⟩;clear D;obtain⟨A3,p3,rfl,_,_⟩:=n.form;have a:=zj G.o r;have a3:=L.o i a;have c2:=K2.o i a;have c4:=K4.o i a;have a4:=M.o i a;have c6:=K6.o i a;have c9:=K9.o i a;have p:=V a;have J:=V n;have a1:=V u;clear n u r a)
  |fail)
 go_quiet (fail)
 go_wp2_with fail
 go_quiet (fail)
 go_wp2_with (first
  |(go_at_call 71;refine(vQ g x.zA x.N3.ym _ ((yD (w:=i) zF _).trans c9) ((yD (w:=i) zF _).trans c6)).mono ?_;rintro e w4 ⟨rfl,ne,rfl⟩)
  |(go_at_call 72;refine(v _ (zO p.o _) _ h3 (J.o.heap zF)).mono ?_;rintro e w5 ⟨rfl,N⟩;have F:=V N)
  |fail)
 go_ret2
 exact⟨rfl,q,(((zL.of_below H.o.at_ p.o).yO (zO (Ok _ _) _))).yO F.o⟩
def bQ (n:Nat):Code→Code
 |.seq (.region k ops d) r=>if k=n then .region k ops d else bQ n r
 |.seq _ r=>bQ n r
 |.region k ops d=>if k=n then .region k ops d else .skip
 |_=>.skip
theorem Try.infoMember2:(prog.info? 153).map (fun i=>(i.zero,i.size,i.bytes))=some (some (.agg #[I 0,I 0]),2,16):=zQ
theorem BF {h8 h2:OC Nat}{B n8:Nat}(ho8:∀b,h8=some b→B≤b)(ho9:h2=h8∨∃g,h2=some g∧n8≤g)(hn:B≤n8):∀b,h2=some b→B≤b:=by
 intro b a
 rcases ho9 with h7|⟨g7,h7,h8x⟩
 ·exact ho8 b (by rw[←h7];exact a)
 ·rw[h7] at a
  injection a with a
  omega
theorem dY {W:Oc}{g:Nat}{q:zW}{x:Acc}(h:zH W g q x)(hm1:1≤x.log.most)(hm2:x.log.most≤1099511627776)(hn1:x.log.es.length≤1099511627776){e:Ob E4}{A:OC Addr}{c n:Nat}{hh:OC Nat}(hs:Sl W 159 4 (RO A n c) hh n (yR e))(hn:e.length=n)(hn2:n≤1099511627776)(hho:∀b,hh=some b→b∉q.own g) :
  C 77 #[Y q.gl 0,RO A n c] W fun e' w'=>e'=RR (.tuple #[])∧∃q'',zL W w' g q {x with log:=x.log.add e} q'':=by
 subst hn
 refine(add_any W q.gl q.hl x.log A c e h.log hm1 hm2 hn1 hn2 (fun hne=>?_)).mono ?_
 ·exact Mv
 ·rintro e' w' ⟨rfl,f,hl,a,d⟩
  exact⟨rfl,_,h.DG hl a d⟩
theorem fF {wg w8 w8' w9:Oc}{g:Nat}{q:zW}{x5 x6:Acc}{h8 h2:OC Nat}{e:Ob E4}{A:OC Addr}{c n:Nat}(hst:zH wg g q x5)(ht8:zL wg w8 g q x6 q)(ho8:∀b,h8=some b→wg.heap.size≤b)(hb8:Od w8 w8 w8')(hs9:Sl w9 159 4 (RO A n c) h2 n (yR e))(hc9:NH h8.toList w8' w9)(ho9:h2=h8∨∃g,h2=some g∧w8'.heap.size≤g)(hn:e.length=n)(hn2:n≤1099511627776)(hlog:1≤x6.log.most∧x6.log.most≤1099511627776∧x6.log.es.length≤1099511627776) :
  zL wg w9 g q x6 q∧C 77 #[Y q.gl 0,RO A n c] w9 fun e' w'=>e'=RR (.tuple #[])∧∃q'',zL w9 w' g q {x6 with log:=x6.log.add e} q'':=by
 have a:=(ht8.yO hb8).newer hst hc9 (fun k hk=>ho8 k yi)
 have f:wg.heap.size≤w8.heap.size:=ht8.N4.size
 have d:=BF ho8 ho9 (Ol f hb8.size)
 exact⟨a,dY a.at_ hlog.1 hlog.2.1 hlog.2.2 hs9 hn hn2 (fun b hb hm=>by
  have h:=hst.lt b hm
  have i:=d b hb
  omega)⟩
theorem Try.infoInt3:(prog.info? 3).map (fun i=>(i.zero,i.size,i.bytes))=some (some (I 0),1,8):=zQ
def x9 (l:Ob (Int×Int)):Ob Int:=l.map (·.1)
structure Yh (w wr:Oc)(l:Ob (Int×Int))(k:Nat)(o:Oe):Prop where
 below:Od w w wr
 o:∃h,Sl wr 3 1 o h k ((x9 (l.take k)).map yJ)∧∀b,h=some b→w.heap.size≤b
theorem Yh.next {w wr W W2:Oc}{l:Ob (Int×Int)}{k:Nat}{o o2:Oe}{h1 h2:OC Nat}(hR:Yh w wr l k o)(hk:k < l.length)(hb:Od wr wr W)(hf1:∀b,h1=some b→w.heap.size≤b)(hs2:Sl W2 3 1 o2 h2 (k+1) ((x9 (l.take k)).map yJ++[I l[k].1]))(hc2:NH h1.toList W W2)(ho2:h2=h1∨∃g,h2=some g∧W.heap.size≤g):Yh w W2 l (k+1) o2:=by
 have a:=zj hR.below hb
 refine⟨a.trans (hc2.below a.size (fun k hk=>hf1 k yi)),h2,?_,fun b hb2=>?_⟩
 ·have e:(x9 (l.take (k+1))).map yJ=(x9 (l.take k)).map yJ++[I l[k].1]:=by
   rw[Oh hk]
   unfold x9
   rw[OQ,OQ]
   rfl
  rw[e]
  exact hs2
 ·rcases ho2 with h3|⟨g2,h3,h4⟩
  ·exact hf1 b (by rw[←h3];exact hb2)
  ·rw[h3] at hb2
   injection hb2 with hb2
   have:=a.size
   omega
theorem Yf (w:Oc)(a0 a1 a3 a6 a7:Int)(s2:Oy)(vk vm:Oe)(l:Ob (Int×Int))(hm:NN w [] 2 vm l.length (zU yC l))(hn:l.length≤1099511627776) :
  C 90 #[.agg #[I a0,I a1,.string s2,I a3,vk,vm,I a6,I a7]] w fun e w'=>∃v hh,e=RR v∧Sl w' 3 1 v hh l.length ((x9 l).map yJ)∧(∀b,hh=some b→w.heap.size≤b)∧Od w w w':=by
 obtain⟨W,K,E,F,G⟩:=info_parts Try.infoInt3
 obtain⟨n,h⟩:∃n,l.length=n:=⟨_,rfl⟩
 rw[h] at hm
 obtain⟨A,y,rfl,_,_⟩:=hm.form
 have B:Z (Yh w (w.alloc (.cells #[I a0,I a1,.string s2,I a3,vk,RO A n y,I a6,I a7] 83)) l 0 (RO none 0 0)):=V ⟨zt _ _,none,Sl.nil _ _ _,fun b hb=>(by cases hb)⟩
 have J:=V hm
 have ai:=V h
 clear hm h
 go_enter func90,ntmps90
 go_wp2
 go_loopw [3,9] (fun o i wr=>∃k:Nat,k≤n∧i=I k∧Z (Yh w wr l k o)) (fun _ i _=>n - (intOf i).toNat)
 case atStart=>exact⟨0,OE _,rfl,B⟩
 case round=>
  obtain⟨k,U,rfl,j⟩:=hrel
  by_cases af:k < n
  ·have jb:k < l.length:=vN
   obtain⟨b,s,H,L,_,_,d,_,aj⟩:=J.o.at_ O
   injection L with hv1 _ hv2
   subst hv1 hv2
   obtain⟨t,Fa⟩:∃t,l[k].1=t:=⟨_,rfl⟩
   obtain⟨u,q⟩:∃u,l[k].2=u:=⟨_,rfl⟩
   have R:wr.cell? (Y b (s+k * 2))=some (I t):=by
    refine(j.o.below.cell d).trans ?_
    exact GC
   have S:wr.cell? (Y b (s+k * 2+1))=some (I u):=by
    refine(j.o.below.cell d).trans ?_
    have h1:=aj (k * 2+1) O
    rw[yv yG l k 1 jb O,←O1] at h1
    rw[←q]
    exact h1
   obtain⟨z,a,c⟩:=j.o.o
   obtain⟨P,Q,rfl,_,_⟩:=a.form
   have g:=V (a.alloc (.cells #[I t,I u] 153))
   have f:=V c
   have x:=V Fa
   clear a c Fa q aj
   go_wp2_with (first
    |(at_builtin;refine xI rfl _ _ 35 rfl underlying35 K E F G rfl zD g.o rfl (wr.heap.size+1) zv 1 1 rfl rfl ?_ ?_ ?_ ?_)
    |fail)
   any_goals (first|(simp[Value.oneCell'];done)|(unfold maxLen;omega)|omega)
   intro M T N r p lu
   have m:Z (Yh w N l (k+1) M):=V (Yh.next (h1:=z) j.o jb (zt wr _) f.o (by rw[x.o];exact r) p aV)
   clear r p lu
   go_wp2
   refine⟨?_,zV⟩
   first|exact⟨k+1,O,zE,m⟩|((repeat apply OA);exact⟨⟨k+1,O,zE,m⟩,rfl⟩)
  ·have D:k=n:=O
   subst D
   obtain⟨z,a,c⟩:=j.o.o
   rw[Ou aW] at a
   have g:=V a
   have f:=V c
   clear a c
   go_wp2
   go_ret
   exact⟨_,z,rfl,by rw[ai.o];exact g.o,f.o,j.o.below⟩
theorem CA (wg:Oc)(g:Nat)(q:zW)(x5 x6:Acc)(mod id:Int)(ne n3:Nat)(A3:OC Addr)(p3:Nat)(es:Ob E4)(u2 u3 u4 u5 u6 u7 u8 u9 u11 u13 u14 u15 u16 u17 u18 u19 u20 u21 u22 u23 u24 u25 u26 u27 u28 u29 u30 u31 u32 u33 u34 u35 u36 u37 u38 u39 u40 u41 u42 u43 u44 u45 u46 u47 u48 u49 u50 u51 u52 u53 u54 u55 u56 u57 u58 u59 u60 u61 u62 u63 u64 u65 u66 u67 u68 u69 u70 u71 u72 u73 u74 u75 u76 u77 u78 u79 u80 u81 u82 u83 u84:Oe)(K:Act→Oc→Prop)(R:Ending→Oc→Prop)(fn:Func)(hst:zH wg g q x5)(hes:es.length=ne)(hne:ne≤4294967296)(hlog:1≤x6.log.most∧x6.log.most≤1099511627776∧x6.log.es.length≤1099511627776)(htu:∀W,Od wg wg W→C 78 #[Y g 0,I mod,RO A3 n3 p3] W fun e w'=>∃v' hh,e=RR v'∧Sl w' 159 4 v' hh ne (yR es)∧(∀b,hh=some b→W.heap.size≤b)∧zL W w' g q x6 q)(hQ:∀(v71 v72 v73 v74 v75 v76 v77 v78 v79 v80 v81 v82 v83 v84:Oe) (wx:Oc) (q2:zW),zL wg wx g q {x6 with log:=x6.log.add (es++[⟨mod,2,id,2⟩])} q2→K ⟨#[Y g 0,I id,u2,u3,u4,u5,u6,u7,u8,u9,I mod,u11,RO A3 n3 p3,u13,u14,u15,u16,u17,u18,u19,u20,u21,u22,u23,u24,u25,u26,u27,u28,u29,u30,u31,u32,u33,u34,u35,u36,u37,u38,u39,u40,u41,u42,u43,u44,u45,u46,u47,u48,u49,u50,u51,u52,u53,u54,u55,u56,u57,u58,u59,u60,u61,u62,u63,u64,u65,u66,u67,u68,u69,u70,v71,v72,v73,v74,v75,v76,v77,v78,v79,v80,v81,v82,v83,v84],[]⟩ wx) :
  Code.wp prog (bQ 19 (f35.body.getD .skip)) (Exit.then K (bodyPost prog fn R)) ⟨#[Y g 0,I id,u2,u3,u4,u5,u6,u7,u8,u9,I mod,u11,RO A3 n3 p3,u13,u14,u15,u16,u17,u18,u19,u20,u21,u22,u23,u24,u25,u26,u27,u28,u29,u30,u31,u32,u33,u34,u35,u36,u37,u38,u39,u40,u41,u42,u43,u44,u45,u46,u47,u48,u49,u50,u51,u52,u53,u54,u55,u56,u57,u58,u59,u60,u61,u62,u63,u64,u65,u66,u67,u68,u69,u70,u71,u72,u73,u74,u75,u76,u77,u78,u79,u80,u81,u82,u83,u84],[]⟩ wg:=by
 obtain⟨e0,S,D,E,F⟩:=info_parts Try.infoEntry
 have x:=hst.blk.lt
 have L:wg.cell? (Y g 12)=some (RQ (some (Y q.gl 0))):=hst.xp
 have Q:=(Ox wg (.cells #[I mod,I 2,I id,I 2] 159) (Y g 12) x).trans L
 have A:=V htu
 have c:=V hst
 have p:=V hlog
 have C8:=V hes
 have U:=V hQ
 clear htu hst hlog hes hQ
 unfold f35
 simp only[Option.getD_some,bQ,Nat.reduceEqDiff,if_true,if_false,reduceCtorEq]
 go_region_law (first
  |(refine yK zF zF (O9 func78 zQ rfl) yl (A.o _ (zG wg)) ?_;rintro e j ⟨v8,M,rfl,h,l,f⟩;obtain⟨T,X,rfl,_,_⟩:=h.form;refine⟨_,rfl,?_⟩;have v:j.cell? (Y g 12)=some (RQ (some (Y q.gl 0))):=f.at_.xp;have a:=(zL.of_below c.o (zG wg)).trans f;have w:g < j.heap.size:=OJ x a.N4.size;have B:=(Ox j (.cells #[I mod,I 2,I id,I 2] 159) (Y g 12) w).trans v;  have t:=V h;have s:Z (∀b,M=some b→wg.heap.size≤b):=V (fun b hb=>Ol (Rg (zG wg)) (l b hb));have u:=V a;clear h l f a)
  |(refine yK zF zF (O9 func78 zQ rfl) yl (A.o _ (zj (zt wg (.cells #[I mod,I 2,I id,I 2] 159)) (zG _))) ?_;rintro e j ⟨v8,M,rfl,h,l,f⟩;obtain⟨T,X,rfl,_,_⟩:=h.form;refine⟨_,rfl,?_⟩;have v:j.cell? (Y g 12)=some (RQ (some (Y q.gl 0))):=f.at_.xp;have a:=(zL.of_below c.o (zj (zt wg (.cells #[I mod,I 2,I id,I 2] 159)) (zG _))).trans f;have w:g < j.heap.size:=OJ x a.N4.size;have B:=(Ox j (.cells #[I mod,I 2,I id,I 2] 159) (Y g 12) w).trans v;have H:Z (NG j wg.heap.size 159 #[I mod,I 2,I id,I 2]):=V (((NG.new wg 159 #[I mod,I 2,I id,I 2]).heap (w':=(wg.alloc (.cells #[I mod,I 2,I id,I 2] 159)).drew) rfl).N4 f.N4 (fun hm=>Nat.lt_irrefl _ (c.o.lt _ hm)));have t:=V h;have s:Z (∀b,M=some b→wg.heap.size≤b):=V (fun b hb=>Ol (Rg (zj (zt wg (.cells #[I mod,I 2,I id,I 2] 159)) (zG _))) (l b hb));have u:=V a;clear h l f a)
  |(refine ye _ zF (.tmp 78) (.tmp 82) _ zF underlying156 S D E F rfl O (t.o.alloc _) yl j.heap.size #[I mod,I 2,I id,I 2] (e':=159) (fr:=(0,0)) (heap_alloc_new j _) 1 1 yl zF xt yV O ?_;intro v2 h2 P oh k m;obtain⟨G,J,rfl,_,_⟩:=oh.form;obtain⟨i,d⟩:=fF (e:=(es++[⟨mod,2,id,2⟩])) c.o u.o s.o (zt j _) Xr k m Xs O p.o;have N:P.cell? (Y g 12)=some (RQ (some (Y q.gl 0))):=i.at_.xp;have z:=V i;have n:=V d;clear oh k m i d)
  |(refine ye _ zF (.tmp 78) (.tmp 82) _ zF underlying156 S D E F rfl O t.o yl wg.heap.size #[I mod,I 2,I id,I 2] (e':=159) (fr:=(0,0)) H.o 1 1 yl zF xt yV O ?_;intro v2 h2 P oh k m;obtain⟨G,J,rfl,_,_⟩:=oh.form;obtain⟨i,d⟩:=fF (e:=(es++[⟨mod,2,id,2⟩])) c.o u.o s.o (Ok _ j) Xr k m Xs O p.o;have N:P.cell? (Y g 12)=some (RQ (some (Y q.gl 0))):=i.at_.xp;have z:=V i;have n:=V d;clear oh k m i d)
  |(refine yK zF zF (O9 func77 zQ rfl) yl n.o ?_;rintro e a1 ⟨rfl,a0,r⟩;refine⟨_,rfl,?_⟩;have y:=V r;clear r)
  |fail)
 all_goals exact U.o _ _ _ _ _ _ _ _ _ _ _ _ _ _ _ _ (z.o.trans y.o)
theorem one_sl (w:Oc):Sl (w.alloc (.cells #[I 1] 3)) 3 1 (RO (some (Y w.heap.size 0)) 1 1) (some w.heap.size) 1 ([(1:Int)].map yJ):=
 ⟨zv,.inr ⟨w.heap.size,0,1,_,rfl,rfl,NG.new _ _ _,Oq _,yV,zv,zv⟩⟩
theorem one_in {w:Oc}{g:Nat}{q:zW}{x:Acc}(h:zH w g q x)(hf:Fit x)(t:Ob Oz)(ht:t.length≤1099511627776):Ys (w.alloc (.cells #[I 1] 3)) g q x [1] (RO (some (Y w.heap.size 0)) 1 1) [] [] (RO none 0 0) [] t:=
 ⟨h.alloc _,hf,(one_sl w).reads [] zv,zD,⟨zv,.inl ⟨rfl,rfl⟩⟩,zD,fun s hs=>by simp at hs,ht⟩
end Go.Proofs.YtnofkliaofgiaaaGreatDoor
