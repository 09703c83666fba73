/-
  The walk of the store's Append where it brings the email. The store's Append, whatever it is asked: what it hands back, and the account behind it, are appendP's.
-/
import Derived.Test.YtfhlhdmhgheonaaGreatDoorGG
import Derived.Deep.QuietTactic
import Derived.BigQuiet
import Derived.Deep.RegionLaw
import Derived.Deep.DrawnRows
import Derived.Deep.DeepCutAuto
import Derived.Deep.CutBlock
set_option maxRecDepth 100000
set_option maxHeartbeats 8000000
namespace Go.Proofs.YtfhlhdmhgheonaaGreatDoor
open Go.Shelf Go.RowKit
attribute [local go_sem ↓] Go.wp_at_zero Go.wp_at_succ
def appRes (x:Acc)(l:List Int)(kl:List Text)(at_:Int)(t:Text)(th:Int):Acc×Int×Int:=
 ({x with clock:=x.clock+1,lastId:=x.lastId+1,boxes:=zf (x.clock+1) l (numbers l x.boxes).1,octets:=x.octets+t.length,mails:=x.mails++[⟨x.lastId+1,if th=0 then x.lastId+1 else th,t,at_,kl,(numbers l x.boxes).2,x.clock+1,x.clock+1⟩],log:=x.log.add (zn (x.clock+1) l++[⟨x.clock+1,2,x.lastId+1,1⟩,⟨x.clock+1,3,if th=0 then x.lastId+1 else th,if th=0 then 1 else 2⟩])},x.lastId+1,0)
theorem zdg (at_:Int)(w:World)(g:Nat)(q:zl)(x:Acc)(is:List Int)(vb:Value)(Sb:List Nat)(ks:zN)(vk:Value)(Sk:List Nat)(t:List UInt8)(h:Zx w g q x is vb Sb ks vk Sk t)(hgood:¬(is=[]∨at_ < 0∨253402300799 < at_))(hke:(zG ks).2=0)(hwa:(rise is).any (fun id=>!zu x.boxes id)=false)(hfu1:¬x.cfg.maxMails≤(x.mails.length:Int))(hfu2:¬x.cfg.maxSize - x.octets < (t.length:Int))(hen:¬x.cfg.maxMod≤x.clock)(hsp:(rise is).any x.spent=false) :
  Calls Tryz.prog 38 #[.pointer (some ⟨g,0,none⟩),vb,vk,.int .i64 at_,.string ⟨t.toArray⟩] w (vX w g q (zq zO x is ks at_ t)):=by
 obtain⟨r,hr⟩:∃r,zq zO x is ks at_ t=r:=⟨_,rfl⟩
 rw[hr]
 obtain⟨F,cj⟩:∃F,vT zO x t=F:=⟨_,rfl⟩
 have a8:r=appRes x (rise is) (zG ks).1 at_ t F:=by
  rw[←hr,←cj]
  unfold zq yS
  rw[if_neg hgood,if_neg (by rw[hke];simp),if_neg (by rw[hwa];simp),if_neg (by omega),if_neg (by simp[Acc.ends,hsp];omega)]
  rfl
 have a9:=zdG a8
 have ea:=h.fit.clock
 have eb:=h.fit.cfg.mod
 have ec:=h.fit.lastId
 have cv:t.length≤2147483648:=by
  have a:=h.fit.octets
  have u:=h.fit.cfg.size
  have h3:0≤x.octets:=by
   rw[a.1]
   exact zW _
  omega
 have cw:∀m∈x.mails,m.text.length≤2147483648:=fun m hm=>by
  have a:=h.fit.octets
  have u:=h.fit.cfg.size
  have h3:=Vl hm
  omega
 have aa:x.mails.length≤1099511627776:=by
  have a:=h.fit.nm
  omega
 obtain⟨Am,cm,Q,_,_⟩:=h.at_.mails.form
 have O:=fun W (hb:Below w.heap.size w W)=>h.at_.later hb
 have au:=fun W hb=>(O W hb).zU
 rw[Q] at au
 have k2:∀W,Below w.heap.size w W→W.cell? ⟨g,2,none⟩=some (.int .i64 x.cfg.maxMails):=fun W hb=>(O W hb).cells 2
 have k4:∀W,Below w.heap.size w W→W.cell? ⟨g,4,none⟩=some (.int .i64 x.cfg.maxSize):=fun W hb=>(O W hb).cells 4
 have k6:∀W,Below w.heap.size w W→W.cell? ⟨g,6,none⟩=some (.int .i64 x.cfg.maxMod):=fun W hb=>(O W hb).cells 6
 have k9:∀W,Below w.heap.size w W→W.cell? ⟨g,9,none⟩=some (.int .i64 x.clock):=fun W hb=>(O W hb).yo
 have cx:∀W,Below w.heap.size w W→W.cell? ⟨g,15,none⟩=some (.int .i64 x.octets):=fun W hb=>(O W hb).VK
 have ed:=h.fit.cfg.size
 have bu:=h.fit.octets
 have cy:0≤x.octets:=by
  rw[bu.1]
  exact zW _
 have cz:=bu.2
 have gw:IntKind.i64.wrap (x.cfg.maxSize - x.octets)=x.cfg.maxSize - x.octets:=IntWalk.i64_in _ (by omega)
 obtain⟨nm,L⟩:∃nm,x.mails.length=nm:=⟨_,rfl⟩
 rw[L] at au
 have c':=zdG au
 have K2:=zdG k2
 have K4:=zdG k4
 have K6:=zdG k6
 have K9:=zdG k9
 have d0:=zdG cx
 clear O au k2 k4 k6 k9 cx ed bu Q
 obtain⟨A,gj,dv,_,_⟩:=h.boxes.form
 have d1:is.length≠0:=fun h0=>hgood (.inl (List.eq_nil_of_length_eq_zero h0))
 have ee:((is.length:Int)==0)=false:=by simpa using d1
 have ef:¬at_ < 0:=fun h0=>hgood (.inr (.inl h0))
 have eg:¬253402300799 < at_:=fun h0=>hgood (.inr (.inr h0))
 have bv:=h.kc
 have av:=h.wc
 rw[dv] at av ⊢
 have H:=zdG h
 clear dv hgood d1 h
 rw[hwa] at av
 rw[hke] at bv
 have d2:=zdG av
 rw[L] at hfu1
 clear a8 hr
 have V:=zdG (all_in hwa)
 have eh:=zdG hsp
 have bw:=H.out.sc (all_in hwa)
 rw[hsp] at bw
 clear hwa av L
 go_enter Tryz.func38,Tryz.ntmps38
 go_wp2_with (first
  |(go_at_call 90;refine bv.mono ?_;rintro e w2 ⟨Ak,ck,gk,rfl,dw,cl,dx⟩;have aw:=zdG dw;have bx:=zdG cl;have ax:=zdG dx;have d3:=d2.out w2 cl;clear bv dw cl dx)
  |(go_at_call 91;refine d3.mono ?_;rintro e w3 ⟨v3,h3,rfl,cn,dy,bc⟩;clear d3;obtain⟨A3,p3,rfl,_,_⟩:=cn.form;have J:=za bx.out bc;have ay:=c'.out w3 J;have c2:=K2.out w3 J;have c4:=K4.out w3 J;have bz:=d0.out w3 J;have c6:=K6.out w3 J;have C:=K9.out w3 J;have b':=zdG J;have az:=zdG (aw.out.keep (fun b hb=>bc.block b (aw.out.lt b hb)));have ab:=zdG cn;have a':Hid (∀b,h3=some b→w.heap.size≤b):=zdG (fun b hb=>Nat.le_trans bx.out.size (dy b hb));clear cn dy bc J)
  |fail)
 go_quiet (fail)
 go_wp2_with fail
 go_quiet (fail)
 go_upto_region 19 with(first
  |(go_at_call 92;refine(yQ g x.clock x.cfg.maxMod _ ((zB (w:=w3) (by rfl) _).trans C) ((zB (w:=w3) (by rfl) _).trans c6)).mono ?_;rintro e w4 ⟨rfl,ne,rfl⟩)
  |(go_at_call 93;refine(bw _ (below_drewN' b'.out _) _ h3 (ab.out.heap (by rfl))).mono ?_;rintro e w5 ⟨rfl,dz⟩;have b8:=uf dz;have c0:=za b'.out b8;have H5:=zdG (H.out.at_.later c0);have D:=zdG c0;have a3:=zdG (ab.out.keep (fun b hb=>b8.block b (ab.out.lt b hb)));have c1:=zdG (az.out.keep (fun b hb=>b8.block b (az.out.lt b hb)));have bg:=uo g x.clock w5 H5.out.yo (H5.out.frozen 9) (by omega);clear dz b8 c0 bw)
  |(go_at_call 95;refine bg.mono ?_;rintro e w6 ⟨rfl,d'⟩;have t6:=H5.out.yj 9 (.int .i64 (x.clock+1)) {x with clock:=x.clock+1} rfl rfl rfl rfl;rw[←d'] at t6;have b9:=t6.at_.XG;have ei:=t6.at_.frozen 14;have T6:=zdG t6;clear bg d' t6)
  |fail)
 have P:(rise is).length≤4294967296:=by
  have a:=zY is
  have u:=H.out.nb
  omega
 have bh:=H.out.zcp
 have bi:=Zc H.out.fit.cfg H.out.fit.idsB H.out.fit.box
 generalize a5:(zG ks).1=kl at aw ax az c1 a9
 have ac:∀k (hk:k < (rise is).length),0≤zw (numbers ((rise is).take k) x.boxes).1 (rise is)[k]∧zw (numbers ((rise is).take k) x.boxes).1 (rise is)[k]≤4294967296:=fun k hk=>
  bi ((rise is).take k) ((xV is).sublist (List.take_sublist _ _)) (fun i hi=>by
   have a:=(List.any_eq_false.1 eh.out) i (List.mem_of_mem_take hi)
   have u:¬x.cfg.maxUid < zw x.boxes i:=by simpa[Acc.spent] using a
   omega) _ (V.out _ (List.getElem_mem hk))
 have c3:rise (rise is)=rise is:=X8 (xE is)
 generalize rise is=l at ab a3 a9 V P ac c3
 have d4:=zdG ac
 have ej:=zdG c3
 clear ac c3 bi
 obtain⟨z,co⟩:∃z:World,z=w6.setCell ⟨g,14,none⟩ (.int .i64 (x.lastId+1)):=⟨_,rfl⟩
 rw[←co]
 have t7:Turned w5 z g q {x with clock:=x.clock+1,lastId:=x.lastId+1} q:=by
  rw[co]
  exact T6.out.trans (T6.out.at_.yj 14 (.int .i64 (x.lastId+1)) {x with clock:=x.clock+1,lastId:=x.lastId+1} rfl rfl rfl rfl)
 have T7:=zdG t7
 clear co t7 T6 b9 ei
 have b9:z.cell? ⟨g,14,none⟩=some (.int .i64 (x.lastId+1)):=T7.out.at_.XG
 have bj:∀W,Below z.heap.size z W→Calls Tryz.prog 96 #[.pointer (some ⟨g,0,none⟩),.string ⟨t.toArray⟩] W fun e w'=>e=.returned (.int .i64 F)∧Below W.heap.size W w':=fun W hb=>by
  have a:=zbB W g q {x with clock:=x.clock+1,lastId:=x.lastId+1} (T7.out.at_.later hb) aa cw t cv
  have u:vT zO {x with clock:=x.clock+1,lastId:=x.lastId+1} t=F:=cj
  rw[u] at a
  exact a
 have ad:=zdG bj
 have X:0≤x.octets∧x.octets+t.length≤4294967296:=by
  have u:=H.out.fit.cfg.size
  omega
 have bk:=zdG X
 clear X
 try clear ay
 try clear c2
 try clear c4
 try clear bz
 try clear c6
 try clear C
 try clear c'
 try clear K2
 try clear K4
 try clear K6
 try clear K9
 try clear d0
 try clear b'
 try clear ab
 try clear aw
 try clear az
 try clear bx
 try clear d2
 try clear hfu1
 try clear hfu2
 try clear hen
 try clear gw
 try clear ee
 try clear ef
 try clear eg
 try clear cy
 try clear cz
 try clear a8
 try clear ea
 try clear eb
 try clear ec
 try clear cv
 try clear cw
 try clear aa
 try clear cj
 try clear a5
 try clear bj
 have d5:g < z.heap.size:=T7.out.at_.blk.lt
 have ff:=(World.cell?_alloc_lt z (.cells #[.int .i64 0,.int .i64 0,.string ⟨#[]⟩,.int .i64 0,.slice none 0 0,.slice none 0 0,.int .i64 0,.int .i64 0] 54) ⟨g,14,none⟩ d5).trans b9
 go_cut [17] (fun p N=>∃B,p=.pointer (some ⟨B,0,none⟩)∧Hid (Turned w5 N g q {x with clock:=x.clock+1,lastId:=x.lastId+1} q)∧Hid (Blk N B 54 #[.int .i64 (x.lastId+1),.int .i64 F,.string ⟨t.toArray⟩,.int .i64 at_,.slice Ak kl.length ck,.slice none 0 0,.int .i64 (x.clock+1),.int .i64 (x.clock+1)])∧Hid (w5.heap.size≤B))
 case first=>
  go_region_with (first
   |(go_at_call 96;refine(ad.out _ (zb _)).mono ?_;rintro e n ⟨rfl,al⟩;have K:=yV al;have d6:n.cell? ⟨g,14,none⟩=some (.int .i64 (x.lastId+1)):=(T7.out.at_.later K).XG;have ek:g < n.heap.size:=Nat.lt_of_lt_of_le d5 K.size;have fg:=(World.cell?_alloc_lt n (.cells #[.int .i64 0,.int .i64 0,.string ⟨#[]⟩,.int .i64 0,.slice none 0 0,.slice none 0 0,.int .i64 0,.int .i64 0] 54) ⟨g,14,none⟩ ek).trans d6;have ae:=zdG K;clear al K)
   |(go_at_call 96;refine(ad.out _ (za (below_alloc1 _ _) (zb _))).mono ?_;rintro e n ⟨rfl,al⟩;have K:=yV al;have v:=(Blk.new z 54 #[.int .i64 0,.int .i64 0,.string ⟨#[]⟩,.int .i64 0,.slice none 0 0,.slice none 0 0,.int .i64 0,.int .i64 0]).below K (by simp);have z0:n.cell? ⟨z.heap.size,0,none⟩=some (.int .i64 0):=v.cell 0;have g3:=v.frozen 0;have z1:n.cell? ⟨z.heap.size,1,none⟩=some (.int .i64 0):=v.cell 1;have g4:=v.frozen 1;have z2:n.cell? ⟨z.heap.size,2,none⟩=some (.string ⟨#[]⟩):=v.cell 2;have g5:=v.frozen 2;have z3:n.cell? ⟨z.heap.size,3,none⟩=some (.int .i64 0):=v.cell 3;have g6:=v.frozen 3;have z4:n.cell? ⟨z.heap.size,4,none⟩=some (.slice none 0 0):=v.cell 4;have g7:=v.frozen 4;have z5:n.cell? ⟨z.heap.size,5,none⟩=some (.slice none 0 0):=v.cell 5;have g8:=v.frozen 5;have z6:n.cell? ⟨z.heap.size,6,none⟩=some (.int .i64 0):=v.cell 6;have g9:=v.frozen 6;have z7:n.cell? ⟨z.heap.size,7,none⟩=some (.int .i64 0):=v.cell 7;have ga:=v.frozen 7;have ae:=zdG (za (below_alloc1 _ _) K);have d6:n.cell? ⟨g,14,none⟩=some (.int .i64 (x.lastId+1)):=(T7.out.at_.later ae.out).XG;have HZ:=zdG v;clear al K v)
   |fail)
  all_goals
   go_wp2_with fail
   go_meet
   first
   |(have v:=HZ.out;exact⟨z.heap.size,rfl,zdG ((T7.out.zL ae.out).newer H5.out (S:=[z.heap.size]) (((((((((Chg.refl [z.heap.size] n).set (.inl (by simp)) _).set (.inl (by simp)) _).set (.inl (by simp)) _).set (.inl (by simp)) _).set (.inl (by simp)) _).set (.inl (by simp)) _).set (.inl (by simp)) _).set (.inl (by simp)) _) (fun k hk=>by simp at hk;have a:=T7.out.chg.size;omega)),zdG ((((((((v.set 0 _).set 1 _).set 2 _).set 3 _).set 4 _).set 5 _).set 6 _).set 7 _),zdG T7.out.chg.size⟩)
   |(exact⟨n.heap.size,rfl,zdG ((T7.out.zL ae.out).zL (below_alloc1 _ _)),zdG (Blk.new n _ _),zdG (by have a:=T7.out.chg.size;have u:=ae.out.size;omega)⟩)
 case rest=>
  obtain⟨B,rfl,T8,BM,R⟩:=hcut
  obtain⟨wm,rfl⟩:∃wm:World,wm=wc:=⟨_,rfl⟩
  have b0:wm.cell? ⟨B,0,none⟩=some (.int .i64 (x.lastId+1)):=BM.out.cell 0
  have b1:wm.cell? ⟨B,1,none⟩=some (.int .i64 F):=BM.out.cell 1
  have el:wm.frozen? ⟨B,1,none⟩=false:=BM.out.frozen 1
  clear b9 ad
  go_upto_if 107 with(fail)
  go_cut [18] (fun hw N=>hw=.int .i64 (if F=0 then 1 else 2)∧Hid (Chg [B] wm N)∧Hid (Blk N B 54 #[.int .i64 (x.lastId+1),.int .i64 (if F=0 then x.lastId+1 else F),.string ⟨t.toArray⟩,.int .i64 at_,.slice Ak kl.length ck,.slice none 0 0,.int .i64 (x.clock+1),.int .i64 (x.clock+1)]))
  case first=>
   by_cases h0:F=0
   ·subst h0
    go_wp2_with fail
    go_meet
    exact⟨rfl,zdG ((Chg.refl [B] wm).set (.inl (by simp)) _),zdG (BM.out.set 1 _)⟩
   ·have gb:(F==0)=false:=by simpa using h0
    have e1:(if F=0 then (1:Int) else 2)=2:=if_neg h0
    have e2:(if F=0 then x.lastId+1 else F)=F:=if_neg h0
    have E1:=zdG e1
    have E2:=zdG e2
    clear e1 e2
    go_wp2_with fail
    go_meet
    exact⟨by rw[E1.out],zdG (Chg.refl _ _),zdG (by rw[E2.out];exact BM.out)⟩
  case rest=>
   obtain⟨rfl,e3,e4⟩:=hcut
   obtain⟨wn,rfl⟩:∃wn:World,wn=wc:=⟨_,rfl⟩
   obtain⟨c,am⟩:∃c,(if F=0 then x.lastId+1 else F)=c:=⟨_,rfl⟩
   obtain⟨bd,an⟩:∃bd:Int,(if F=0 then (1:Int) else 2)=bd:=⟨_,rfl⟩
   rw[am] at e4
   rw[an]
   have em:=zdG am
   have d7:=zdG an
   have T9:Hid (Turned w5 wn g q {x with clock:=x.clock+1,lastId:=x.lastId+1} q):=zdG (T8.out.newer H5.out e3.out (fun k hk=>by simp at hk;have:=R.out;omega))
   have en:=zdG (a3.out.fresh a'.out H.out.at_ T9.out.chg)
   clear b0 b1 el e3 BM T8 am an
   obtain⟨i0,hi,bb,f4,f5⟩:=info_parts Try.infoMember2
   obtain⟨d,be⟩:∃d,l.length=d:=⟨_,rfl⟩
   rw[be] at a3 en ⊢
   have a4:=zdG be
   have fh:d≤4294967296:=by rw[←be];exact P
   have eo:Hid (Ur w w5 wn g q {x with clock:=x.clock+1,lastId:=x.lastId+1} l B (.int .i64 (x.lastId+1)) (.int .i64 c) (.string ⟨t.toArray⟩) (.int .i64 at_) (.slice Ak kl.length ck) (.int .i64 (x.clock+1)) (.int .i64 (x.clock+1)) 0 (.slice none 0 0)):=zdG ⟨by
    have a:=(Turned.of_below H.out.at_ D.out).trans T9.out
    exact a,T9.out.chg,e4.out,⟨none,Sl.nil _ _ _,fun b hb=>by cases hb⟩⟩
   clear be
   go_upto_block 1 with(fail)
   go_cut [] (fun N=>∃M C,Hid (Ur w w5 N g q {x with clock:=x.clock+1,lastId:=x.lastId+1} l B (.int .i64 (x.lastId+1)) (.int .i64 c) (.string ⟨t.toArray⟩) (.int .i64 at_) (.slice Ak kl.length ck) (.int .i64 (x.clock+1)) (.int .i64 (x.clock+1)) d (.slice M d C)))
   case first=>
    go_wp2_with fail
    go_loopw [113] (fun i wr=>∃(k:Nat) (M:Option Addr) (C:Nat),k≤d∧i=.int .i64 k∧Hid (Ur w w5 wr g q {x with clock:=x.clock+1,lastId:=x.lastId+1} l B (.int .i64 (x.lastId+1)) (.int .i64 c) (.string ⟨t.toArray⟩) (.int .i64 at_) (.slice Ak kl.length ck) (.int .i64 (x.clock+1)) (.int .i64 (x.clock+1)) k (.slice M k C))) (fun i _=>d - (intOf i).toNat)
    case atStart=>exact⟨0,none,0,Nat.zero_le _,rfl,eo⟩
    case round=>
     obtain⟨k,M,C,hk,rfl,I⟩:=hrel
     by_cases f3:k < d
     ·have a5:k < l.length:=by rw[a4.out];exact f3
      obtain⟨b3,e5,f6,_,cp,_,_,bc,e6⟩:=a3.out.at_ (by omega)
      injection cp with hv1 hv2 cp
      subst hv1 cp
      clear hv2
      have hS:=a3.out.fresh a'.out H.out.at_ I.out.ch
      obtain⟨b4,fi,f7,_,f8,_,_,cf,bq⟩:=hS.at_ (by omega)
      injection f8 with hv5 hv6 hv7
      injection hv5 with hv8
      injection hv8 with hv9 hv10
      subst hv9 hv10
      have cs:wr.cell? ⟨b3,e5+k,none⟩=some (.int .i64 l[k]):=(bq k (by omega)).1.trans (by simp[a5])
      have hid:l[k]∈ids (numbers (l.take k) x.boxes).1:=by
       rw[xH]
       exact V.out _ (List.getElem_mem a5)
      have d8:=d4.out k a5
      have bl:=fun W (hb:Below wr.heap.size wr W)=>Uf W g q _ (I.out.st.at_.later hb) (by
       show (numbers (l.take k) x.boxes).1.length≤_
       rw[yO]
       exact bh) l[k] hid d8
      obtain⟨hh,T,ao⟩:=I.out.mem
      have ep:=zdG T
      have d9:=zdG ao
      have cB:wr.cell? ⟨B,5,none⟩=some (.slice M k C):=I.out.blk.cell 5
      have fB:wr.frozen? ⟨B,5,none⟩=false:=I.out.blk.frozen 5
      have da:B < wr.heap.size:=I.out.blk.lt
      obtain⟨id,a1⟩:∃id,l[k]=id:=⟨_,rfl⟩
      have j:∀W,Below wr.heap.size wr W→Calls Tryz.prog 97 #[.pointer (some ⟨g,0,none⟩),.int .i64 id] W fun e w'=>e=.returned (.agg #[.int .i64 id,.int .i64 (zw (numbers (l.take k) x.boxes).1 l[k])])∧Turned W w' g q {{x with clock:=x.clock+1,lastId:=x.lastId+1} with boxes:=bump l[k] (numbers (l.take k) x.boxes).1} q:=fun W hb=>by
       have a:=bl W hb
       rw[←a1]
       exact a
      have bm:=zdG j
      have bn:=zdG a1
      rw[a1] at cs
      obtain⟨bf,ap⟩:∃bf,zw (numbers (l.take k) x.boxes).1 l[k]=bf:=⟨_,rfl⟩
      rw[ap] at bm
      have db:=zdG ap
      clear e6 bq hS bl j T ao a1 ap d8 hid hv6 hv7
      go_wp2_with fail
      go_region_law (first
       |(refine zF (by rfl) (by rfl) (enters_of Tryz.func97 (by kernel_rfl) rfl) (by simp[Act.eval,Act.put]) (bm.out _ (zb _)) ?_;rintro e n ⟨rfl,e7⟩;refine⟨_,rfl,?_⟩;have a6:Hid (Turned wr n g q {{x with clock:=x.clock+1,lastId:=x.lastId+1} with boxes:=bump l[k] (numbers (l.take k) x.boxes).1} q):=zdG ((Turned.of_below I.out.st.at_ (zb _)).trans e7);have c5:=zdG (ep.out.fresh (fun b hb=>Nat.le_trans D.out.size (d9.out b hb)) H.out.at_ a6.out.chg);have er:n.cell? ⟨B,5,none⟩=some (.slice M k C):=(I.out.blk.fresh (Nat.le_trans D.out.size R.out) H.out.at_ a6.out.chg).cell 5;have et:n.frozen? ⟨B,5,none⟩=false:=(I.out.blk.fresh (Nat.le_trans D.out.size R.out) H.out.at_ a6.out.chg).frozen 5;have dc:B < n.heap.size:=Nat.lt_of_lt_of_le da a6.out.chg.size;have dd:B∉hh.toList:=(fun hm=>c5.out.yN (I.out.blk.fresh (Nat.le_trans D.out.size R.out) H.out.at_ a6.out.chg) (by decide) B (by simpa using hm) rfl);clear e7)
       |(refine zx _ (by rfl) (.tmp 118) (.tmp 122) _ (by rfl) Tryz.underlying52 hi bb f4 f5 rfl (by omega) (c5.out.alloc _) (by simp[Act.eval]) n.heap.size #[.int .i64 id,.int .i64 bf] (e':=56) (fr:=(0,0)) (heap_alloc_new n _) 1 1 (by simp[Act.eval]) (by rfl) (by simp[Value.oneCell']) (by unfold maxLen;omega) (by omega) ?_;intro v2 u w9 U f aq;obtain⟨cq,cr,rfl,_,_⟩:=U.form;have gc:w9.frozen? ⟨B,5,none⟩=false:=(f.frozen (p:=⟨B,5,none⟩) (by simp;omega) dd).trans ((World.frozen?_alloc_past _ _ _ dc).trans et);have gd:w9.cell? ⟨B,5,none⟩=some (.slice M k C):=(f.cell (p:=⟨B,5,none⟩) (by simp;omega) dd).trans ((World.cell?_alloc_past _ _ _ dc).trans er))
       |fail)
      all_goals
       have bo:=zdG (I.out.next (mv':=.slice cq (k+1) cr) H.out.at_ R.out D.out.size a5 (a6.out.zL (below_alloc1 _ _)) (c5.out.alloc _) d9.out (by rw[bn.out,show zw (numbers (l.take k) x.boxes).1 id=bf from by rw[←bn.out];exact db.out];exact U) f aq)
       clear U f aq
       go_wp2_with fail
       refine⟨?_,by simp[intOf];omega⟩
       first|exact⟨k+1,_,_,by omega,by go_num,bo⟩|((repeat apply Exists.intro);exact⟨⟨k+1,_,_,by omega,by go_num,bo⟩,rfl⟩)
     ·have eu:k=d:=by omega
      subst eu
      go_wp2_with fail
      go_meet
      exact⟨M,C,I⟩
   case rest=>
    obtain⟨M,C,I⟩:=hcut
    obtain⟨o,rfl⟩:∃o:World,o=wc:=⟨_,rfl⟩
    have c7:l.take d=l:=List.take_of_length_le (by rw[a4.out];exact Nat.le_refl _)
    have y:Turned w o g q {{x with clock:=x.clock+1,lastId:=x.lastId+1} with boxes:=(numbers l x.boxes).1} q:=by
     have a:=I.out.st
     rw[c7] at a
     exact a
    obtain⟨f9,T,ao⟩:=I.out.mem
    rw[c7] at T
    have c8:=I.out.ch
    have s:=I.out.blk
    have ca:=c1.out.fresh ax.out H.out.at_ c8
    obtain⟨mm,a2⟩:∃mm:zR,mm=⟨⟨x.lastId+1,c,t,at_,kl,(numbers l x.boxes).2,x.clock+1,x.clock+1⟩,.slice Ak kl.length ck,.slice M d C⟩:=⟨_,rfl⟩
    have j:(numbers l x.boxes).2.length=d:=by rw[uz,a4.out]
    have af:yD o (q.own g) mm:=by
     rw[a2]
     refine⟨ca.reads _ (fun b hb hm=>?_),?_,ca.ty,T.ty⟩
     ·have a:=H.out.at_.lt b hm
      have u:=ax.out b hb
      omega
     ·have h3:Sl o 56 2 (.slice M d C) f9 (numbers l x.boxes).2.length (zk zA (numbers l x.boxes).2):=by
       rw[j]
       exact T
      refine h3.reads _ (fun b hb hm=>?_)
      have a:=H.out.at_.lt b hm
      have u:=ao b hb
      have h4:=D.out.size
      omega
    have de:xP mm=[.int .i64 (x.lastId+1),.int .i64 c,.string ⟨t.toArray⟩,.int .i64 at_,.slice Ak kl.length ck,.slice M d C,.int .i64 (x.clock+1),.int .i64 (x.clock+1)]:=by
     rw[a2]
     rfl
    have df:mm.p=⟨x.lastId+1,c,t,at_,kl,(numbers l x.boxes).2,x.clock+1,x.clock+1⟩:=by rw[a2]
    obtain⟨Am,cm,Q,_,_⟩:=H.out.at_.mails.form
    have cb:Sl o 54 8 (.slice Am x.mails.length cm) q.hm x.mails.length (zk xP q.ms):=by
     rw[←Q]
     exact y.at_.mails
    obtain⟨nm,L⟩:∃nm,x.mails.length=nm:=⟨_,rfl⟩
    rw[L] at cb
    have aa:nm≤4294967296:=by
     have a:=H.out.fit.nm
     have u:=H.out.fit.clock
     have h3:=H.out.fit.cfg.mod
     omega
    have ay:o.cell? ⟨g,11,none⟩=some (.slice Am nm cm):=by
     rw[←L,←Q]
     exact y.at_.zU
    have dg:o.frozen? ⟨g,11,none⟩=false:=y.at_.frozen 11
    have ba:g < o.heap.size:=y.at_.blk.lt
    have b0:o.cell? ⟨B,0,none⟩=some (.int .i64 (x.lastId+1)):=s.cell 0
    have b1:o.cell? ⟨B,1,none⟩=some (.int .i64 c):=s.cell 1
    have b2:o.cell? ⟨B,2,none⟩=some (.string ⟨t.toArray⟩):=s.cell 2
    have b3:o.cell? ⟨B,3,none⟩=some (.int .i64 at_):=s.cell 3
    have b4:o.cell? ⟨B,4,none⟩=some (.slice Ak kl.length ck):=s.cell 4
    have b5:o.cell? ⟨B,5,none⟩=some (.slice M d C):=s.cell 5
    have b6:o.cell? ⟨B,6,none⟩=some (.int .i64 (x.clock+1)):=s.cell 6
    have b7:o.cell? ⟨B,7,none⟩=some (.int .i64 (x.clock+1)):=s.cell 7
    obtain⟨j0,hj,fa,fb,fc⟩:=info_parts Try.infoMail
    have dh:=zdG cb
    have Y:=zdG y
    have ag:=zdG af
    have di:=zdG de
    have ev:=zdG df
    have dj:=zdG c8
    have cc:=zdG s
    have dk:=zdG L
    have ew:=zdG Q
    have cd:g∉q.hm.toList:=fun hm=>Y.out.at_.apart.hm (by simpa using hm)
    clear cb y af de df c8 s ca T ao a2 c7 L Q j I c1 ax d4
    go_upto_region 28 with(fail)
    go_cut [] (fun N=>∃q',Hid (Turned w N g q {{x with clock:=x.clock+1,lastId:=x.lastId+1} with boxes:=(numbers l x.boxes).1,mails:=x.mails++[mm.p]} q')∧Hid (Chg (q.own g) w5 N)∧Hid (Chg (q.own g) o N)∧Hid (B∉q'.own g))
    case first=>
     go_region_law (first
      |(refine zx _ (by rfl) (.tmp 130) (.tmp 132) _ (by rfl) Tryz.underlying43 hj fa fb fc rfl (by omega) ((dh.out.alloc _).heap (by rfl)) (by first|(simp[Act.eval];done)|simp[Act.eval,Act.put]) o.heap.size #[.int .i64 (x.lastId+1),.int .i64 c,.string ⟨t.toArray⟩,.int .i64 at_,.slice Ak kl.length ck,.slice M d C,.int .i64 (x.clock+1),.int .i64 (x.clock+1)] (e':=54) (fr:=(0,0)) (heap_alloc_new o _) 1 1 (by first|(simp[Act.eval];done)|simp[Act.eval,Act.put]) (by rfl) (by simp[Value.oneCell']) (by unfold maxLen;omega) (by omega) ?_;intro v2 u w9 U f aq;obtain⟨cq,cr,rfl,_,_⟩:=U.form;have gf:w9.cell? ⟨g,11,none⟩=some (.slice Am nm cm):=(f.cell (p:=⟨g,11,none⟩) (by simp;omega) cd).trans ((World.cell?_alloc_past _ _ _ ba).trans ay);have gg:w9.frozen? ⟨g,11,none⟩=false:=(f.frozen (p:=⟨g,11,none⟩) (by simp;omega) cd).trans ((World.frozen?_alloc_past _ _ _ ba).trans dg))
      |fail)
     all_goals
      have ah:=(Y.out.at_.alloc (.cells #[.int .i64 (x.lastId+1),.int .i64 c,.string ⟨t.toArray⟩,.int .i64 at_,.slice Ak kl.length ck,.slice M d C,.int .i64 (x.clock+1),.int .i64 (x.clock+1)] 54)).U8 mm (ag.out.step (Chg.of_below (below_alloc1 o _) _) (fun k hk=>.inl hk)) (v':=.slice cq (nm+1) cr) (h':=u) (w':=w9) (by
       show Sl w9 _ 8 _ u (x.mails.length+1) _
       rw[dk.out,di.out]
       exact U) ⟨f.os,f.tape,f.output,f.size,f.block⟩ aq
      have E:=zdG ah
      clear ah U f aq
      go_wp2_with fail
      go_meet
      exact⟨_,zdG ((Y.out.zL (below_alloc1 o _)).trans E.out),zdG ((dj.out.alloc _).trans E.out.chg (fun i hi=>.inl hi)),zdG (((Chg.refl _ o).alloc _).trans E.out.chg (fun i hi=>.inl hi)),zdG (fun hm=>by
       rcases E.out.own B hm with a|a
       ·have u:=H.out.at_.lt B a
        have h3:=D.out.size
        have h4:=R.out
        omega
       ·have u:=cc.out.lt
        rw[World.size_alloc] at a
        omega)⟩
    case rest=>
     obtain⟨q',ar,e8,br,e9⟩:=hcut
     obtain⟨wf,rfl⟩:∃wf:World,wf=wc:=⟨_,rfl⟩
     obtain⟨G,a7⟩:∃G:Acc,G={{x with clock:=x.clock+1,lastId:=x.lastId+1} with boxes:=(numbers l x.boxes).1,mails:=x.mails++[mm.p]}:=⟨_,rfl⟩
     rw[←a7] at ar
     have ce:G.octets=x.octets:=by rw[a7]
     have cf:G.boxes=(numbers l x.boxes).1:=by rw[a7]
     have dl:G.log=x.log:=by rw[a7]
     have ex:=zdG a7
     clear a7
     have ai:=a3.out.fresh a'.out H.out.at_ e8.out
     have aj:=cc.out.fresh (Nat.le_trans D.out.size R.out) H.out.at_ br.out
     have bz:wf.cell? ⟨g,15,none⟩=some (.int .i64 x.octets):=by rw[←ce];exact ar.out.at_.VK
     have ey:wf.frozen? ⟨g,15,none⟩=false:=ar.out.at_.frozen 15
     have X:=bk.out
     have ez:IntKind.i64.wrap (x.octets+(t.length:Int))=x.octets+(t.length:Int):=IntWalk.i64_in _ (by omega)
     have dm:=zdG ai
     have dn:=zdG aj
     have gh:=zdG ce
     have dp:=zdG cf
     have dq:=zdG dl
     clear ai aj ay dg ba b0 b1 b2 b3 b4 b5 b6 b7 cd dh Y ag di dj cc dk ew X ce cf dl
     go_upto_region 30 with(fail)
     obtain⟨wg,ct⟩:∃wg:World,wg=wf.setCell ⟨g,15,none⟩ (.int .i64 (x.octets+t.length)):=⟨_,rfl⟩
     rw[←ct]
     have cg:=zdG ct
     clear ct bz ey ez bk
     have ci:Turned wf wg g q' {G with octets:=x.octets+t.length} q':=by
      rw[cg.out]
      exact ar.out.at_.Qy _
     have aj:Blk wg B 54 #[.int .i64 (x.lastId+1),.int .i64 c,.string ⟨t.toArray⟩,.int .i64 at_,.slice Ak kl.length ck,.slice M d C,.int .i64 (x.clock+1),.int .i64 (x.clock+1)]:=by
      rw[cg.out]
      exact dn.out.far (p:=⟨g,15,none⟩) (fun e=>e9.out (by rw[e];exact zl.ZP)) _
     have ai:Sl wg 3 1 (.slice A3 d p3) h3 d (l.map encI):=by
      rw[cg.out]
      refine dm.out.far (p:=⟨g,15,none⟩) (fun e=>?_) _
      have a:=H.out.at_.blk.lt
      have u:w.heap.size≤g:=a'.out g e
      omega
     have f0:=zdG (ar.out.trans ci)
     have Z:=zdG ci.at_
     have a0:=zdG aj
     have bp:=zdG ai
     clear ci aj ai dm dn e8 br
     have dr:∀W,Below wg.heap.size wg W→Calls Tryz.prog 99 #[.pointer (some ⟨g,0,none⟩),.int .i64 (x.clock+1),.slice A3 d p3] W fun e w'=>∃v' hh,e=.returned v'∧Sl w' 177 4 v' hh d (zM (zn (x.clock+1) l))∧(∀b,hh=some b→W.heap.size≤b)∧Turned W w' g q' {{G with octets:=x.octets+t.length} with boxes:=zf (x.clock+1) l G.boxes} q':=fun W hb=>by
      have u:Sl W 3 1 (.slice A3 d p3) h3 d (l.map encI):=bp.out.keep (fun b hb2=>hb.block b (bp.out.lt b hb2))
      have h3:RdS W [] 1 (.slice A3 d p3) l.length (l.map encI):=by
       rw[a4.out]
       exact u.reads [] (by simp)
      have h4:G.boxes.length≤1099511627776:=by
       rw[dp.out,yO]
       exact bh
      have h5:∀i∈l,i∈ids G.boxes:=fun i hi=>by
       rw[dp.out,xH]
       exact V.out i hi
      have a:=uS W g q' {G with octets:=x.octets+t.length} (Z.out.later hb) h4 (x.clock+1) l (.slice A3 d p3) [] h3 (Nat.le_trans P (by decide)) h5
      rw[ej.out,a4.out] at a
      exact a
     have f1:=zdG dr
     clear dr
     have gi:wg.cell? ⟨g,12,none⟩=some (.pointer (some ⟨q'.gl,0,none⟩)):=Z.out.zV
     have b0:wg.cell? ⟨B,0,none⟩=some (.int .i64 (x.lastId+1)):=a0.out.cell 0
     have b1:wg.cell? ⟨B,1,none⟩=some (.int .i64 c):=a0.out.cell 1
     have da:B < wg.heap.size:=a0.out.lt
     have ba:g < wg.heap.size:=Z.out.blk.lt
     obtain⟨e0,he,gm,gn,go⟩:=info_parts Try.infoEntry
     go_cut [] (fun N=>∃cu,Hid (Turned w N g q {{G with octets:=x.octets+t.length} with boxes:=zf (x.clock+1) l G.boxes,log:=x.log.add (zn (x.clock+1) l++[⟨x.clock+1,2,x.lastId+1,1⟩,⟨x.clock+1,3,c,bd⟩])} cu)∧N.cell? ⟨B,0,none⟩=some (.int .i64 (x.lastId+1)))
     case first=>
      have ak:1≤G.log.most∧G.log.most≤1099511627776∧G.log.es.length≤1099511627776:=by
       rw[dq.out]
       have a:=H.out.fit.log
       have u:=H.out.fit.cfg.log
       rw[a.1]
       omega
      have ds:=zdG ak
      clear ak
      refine app_tell wg g B q' {G with octets:=x.octets+t.length} {{G with octets:=x.octets+t.length} with boxes:=zf (x.clock+1) l G.boxes} (x.clock+1) (x.lastId+1) c bd d A3 p3 (zn (x.clock+1) l) _ _ _ _ _ _ _ _ _ _ _ _ _ _ _ _ _ _ _ _ _ _ _ _ _ _ _ _ _ _ _ _ _ _ _ _ _ _ _ _ _ _ _ _ _ _ _ _ _ _ _ _ _ _ _ _ _ _ _ _ _ _ _ _ _ _ _ _ _ _ _ _ _ _ _ _ _ _ _ _ _ _ _ _ _ _ _ _ _ _ _ _ _ _ _ _ _ _ _ _ _ _ _ _ _ _ _ _ _ _ _ _ _ _ _ _ _ _ _ _ _ _ _ _ _ _ _ _ _ _ _ _ _ _ _ _ _ _ _ _ _ _ _ _ _ _ _ _ _ _ _ _ _ _ _ _ _ _ _ _ _ _ _ _ _ _ Z.out a0.out b0 b1 e9.out (by rw[yC,a4.out]) (by omega) ds.out f1.out ?_
      intro fj fk fl fm fn fo fp fq fs ft fu fv fw fx fy fz f' g0 g1 g2 N fd bs bt
      have bb:N.cell? ⟨B,0,none⟩=some (.int .i64 (x.lastId+1)):=bt.cell 0
      have f2:=zdG bb
      have dt:=zdG bs
      clear bb bs bt
      go_wp2_with fail
      go_meet
      exact⟨fd,zdG (by
       have a:=f0.out.trans dt.out
       rw[←dq.out]
       exact a),f2.out⟩
     case rest=>
      obtain⟨cu,fe,gp⟩:=hcut
      obtain⟨wz,rfl⟩:∃wz:World,wz=wc:=⟨_,rfl⟩
      have du:Hid (vX w g q r (.returned (.tuple #[.int .i64 (x.lastId+1),.int .i64 0])) wz):=zdG (by
       rw[a9.out]
       refine⟨rfl,cu,?_⟩
       have a:=fe.out
       rw[ex.out,ev.out] at a
       unfold appRes
       rw[em.out,d7.out]
       exact a)
      go_wp2_with fail
      go_ret2
      exact du.out
end Go.Proofs.YtfhlhdmhgheonaaGreatDoor
namespace Go.Proofs.YtfhlhdmhgheonaaGreatDoor
open Go.Shelf Go.RowKit
theorem xS (w:World)(g:Nat)(q:zl)(x:Acc)(is:List Int)(vb:Value)(Sb:List Nat)(ks:zN)(vk:Value)(Sk:List Nat)(at_:Int)(t:List UInt8)(h:Zx w g q x is vb Sb ks vk Sk t) :
  Calls Tryz.prog 38 #[.pointer (some ⟨g,0,none⟩),vb,vk,.int .i64 at_,.string ⟨t.toArray⟩] w (vX w g q (zq zO x is ks at_ t)):=by
 by_cases a:is=[]∨at_ < 0∨253402300799 < at_
 ·exact zb5 at_ w g q x is vb Sb ks vk Sk t h a
 by_cases b:(zG ks).2=0
 case neg=>exact zao at_ w g q x is vb Sb ks vk Sk t h a b
 cases c:(rise is).any (fun id=>!zu x.boxes id) with
 |true=>exact zan at_ w g q x is vb Sb ks vk Sk t h a b c
 |false=>
  by_cases d:x.cfg.maxMails≤(x.mails.length:Int)
  ·exact JN at_ w g q x is vb Sb ks vk Sk t h a b c d
  by_cases e:x.cfg.maxSize - x.octets < (t.length:Int)
  ·exact Jw at_ w g q x is vb Sb ks vk Sk t h a b c d e
  by_cases f:x.cfg.maxMod≤x.clock
  ·exact zam at_ w g q x is vb Sb ks vk Sk t h a b c d e f
  cases i:(rise is).any x.spent with
  |true=>exact J9 at_ w g q x is vb Sb ks vk Sk t h a b c d e f i
  |false=>exact zdg at_ w g q x is vb Sb ks vk Sk t h a b c d e f i
end Go.Proofs.YtfhlhdmhgheonaaGreatDoor
