/-
  Acts on an account leave as many mailboxes as may be, and the limits as they are. No program in sight. The walk of pillarboxlaw18.StoreRuns.
-/
import Derived.Test.YtfhlhdmhgheonaaGreatDoorGBO
import Derived.Test.YtfhlhdmhgheonaaGreatDoorGV
import Derived.Test.YtfhlhdmhgheonaaGreatDoorGRM
import Derived.Test.YtfhlhdmhgheonaaGreatDoorGDB
import Derived.Test.YtfhlhdmhgheonaaGreatDoorGSM
import Derived.Test.YtfhlhdmhgheonaaGreatDoorGNS
set_option maxRecDepth 100000
set_option maxHeartbeats 8000000
namespace Go.Proofs.YtfhlhdmhgheonaaGreatDoor
def YB (x:Acc):Prop:=(x.boxes.length:Int)≤x.cfg.maxBoxes
theorem zb3 {x:Acc}(hf:Fit x)(h:YB x)(r:Text→Bool)(nm:Text)(p:Int):YB (vE r x nm p).1:=by
  unfold vE
  split
  · exact h
  · split
    · exact h
    · split
      · exact h
      · rename_i h2 _
        have a:yG x nm p 0=0:=by
          by_cases c:yG x nm p 0=0
          · exact c
          · exact absurd c h2
        have d:¬x.cfg.maxBoxes≤((x.boxes.filter fun b=>decide (b.id≠0)).length:Int):=by
          intro e
          unfold yG at a
          split at a
          · cases a
          · split at a
            · cases a
            · first
              |exact absurd a (by decide)
              |(rw[if_pos e] at a;exact absurd a (by decide))
        rw[Vp hf] at d
        show ((x.boxes++[_]).length:Int)≤x.cfg.maxBoxes
        rw[List.length_append,List.length_singleton]
        push_cast
        omega
theorem zaW {x:Acc}(hf:Fit x)(h:YB x)(a:zcf):YB (doP x a).1:=by
  unfold doP
  split
  · exact zb3 hf h _ _ _
  split
  · unfold zK
    repeat' split
    all_goals first
      |exact h
      | (show ((zf _ _ _).length:Int)≤x.cfg.maxBoxes
         rw[yc,ZO]
         exact h)
  split
  · unfold xW
    repeat' split
    all_goals first
      |exact h
      | (show ((x.boxes.eraseIdx _).length:Int)≤x.cfg.maxBoxes
         have b:(x.boxes.eraseIdx (yx a.id x.boxes).toNat).length≤x.boxes.length:=List.length_eraseIdx_le _ _
         have c:(x.boxes.length:Int)≤x.cfg.maxBoxes:=h
         omega)
  split
  · unfold zq yS
    repeat' split
    all_goals first
      |exact h
      | (show ((zf _ _ _).length:Int)≤x.cfg.maxBoxes
         rw[yc,yO]
         exact h)
  split
  · unfold xM Vk
    split
    · exact h
    · simp only
      repeat' split
      all_goals first
        |exact h
        | (show ((zf _ _ _).length:Int)≤x.cfg.maxBoxes
           rw[yc]
           exact h)
  split
  · unfold yB
    split
    · exact h
    · simp only
      repeat' split
      all_goals first
        |exact h
        | (show ((zf _ _ _).length:Int)≤x.cfg.maxBoxes
           rw[yc,yO]
           exact h)
  split
  · unfold yh
    split
    · exact h
    · simp only
      repeat' split
      all_goals first
        |exact h
        | (show ((zf _ _ _).length:Int)≤x.cfg.maxBoxes
           rw[yc]
           exact h)
  · exact h
theorem QB {c:Xv}(h:1≤c.maxBoxes):YB (newP c):=by
  show ((1:Nat):Int)≤c.maxBoxes
  omega
end Go.Proofs.YtfhlhdmhgheonaaGreatDoor
namespace Go.Proofs.YtfhlhdmhgheonaaGreatDoor
open Go.Shelf Go.RowKit
attribute [local go_sem ↓] Go.wp_at_zero Go.wp_at_succ
theorem xI.from3 {w w1 wr:World}{g:Nat}{q:zl}{x:Acc}(h:xI w1 wr g q x)(hb:Below w.heap.size w w1):xI w wr g q x:=⟨h.at_,za hb h.below,fun k hk=>Nat.le_trans hb.size (h.own k hk)⟩
theorem Both.made {w w1 w2 w3 w4:World}{g g2:Nat}{q q2:zl}{x:Acc}(hb:Below w.heap.size w w1)(h:xI w1 w2 g q x)(hb2:Below w2.heap.size w2 w3)(h2:Yr w3 w4 g2 q2 x):Both w w4 g q g2 q2 x:=by
 have a:=h.later (za hb2 h2.below)
 refine⟨a.from3 hb,⟨h2.at_,za hb a.below,fun k hk=>?_⟩,fun b hb3 hm=>?_⟩
 ·have c:=h2.own k hk
  have d:=hb2.size
  have e:=h.below.size
  have f:=hb.size
  omega
 ·have c:=h2.own b hb3
  have d:=h.at_.lt b hm
  have e:=hb2.size
  omega
theorem bothIn {w W:World}{g g2:Nat}{q q2:zl}{x:Acc}{l:List zcg}{a:zcg}(hB:Both w W g q g2 q2 x)(hf:Fit x)(hc:YB x)(ha:∀a∈l,ActR w a)(hv:Zw (l.map (·.p))=false)(hm:a∈l) :
  vH w W g q g2 q2 x a.p.boxes a.vb a.p.keys a.vk a.p.name:=by
 obtain⟨f,b⟩:=Xf hv
 obtain⟨h,i,j,c⟩:=b a.p (List.mem_map_of_mem hm)
 obtain⟨d,e⟩:=ha a hm
 exact⟨hB,hf,hc,d,by omega,e,by omega,fun s hs=>Nat.le_trans (c s hs) (by decide),by omega⟩
theorem UX (a b c d e:Nat)(la:a≤255)(lb:b≤255)(lc:c≤255)(ld:d≤255)(le:e≤255)(v:Value)(l:List zcg)(w:World)(hr:RdS w [] 6 v l.length (zk ZL l))(ha:∀a∈l,ActR w a) :
  Calls Tryz.prog 3 #[.int .u8 a,.int .u8 b,.int .u8 c,.int .u8 d,.int .u8 e,v] w fun e' w'=>e'=.returned (.bool true)∧Below w.heap.size w w':=by
 have N:=Vs v l w hr ha
 obtain⟨A,b7,hv,ag,b8⟩:=hr.form
 subst hv
 cases r:Zw (l.map (·.p)) with
 |true=>
  rw[r] at N
  have t:=fun W=>Yq xS W
  clear hr ha r
  generalize l.length=n at N ag ⊢
  go_enter Tryz.func3,Tryz.ntmps3
  go_wp2_with (first
   |(go_at_call 7;refine N.mono ?_;rintro s w1 ⟨rfl,B⟩;have E:=zdG B;clear N B)
   |(go_at_call 8;refine(t _).mono ?_;rintro e5 w5 ⟨rfl,hb⟩;have aw:=zdG (za E.out hb);clear hb t)
   |fail)
  go_ret
  exact⟨rfl,aw.out⟩
 |false=>
  rw[r] at N
  obtain⟨n,C⟩:∃n,l.length=n:=⟨_,rfl⟩
  have b3:n≤60:=by
   have O:=(Xf r).1
   rw[List.length_map,C] at O
   exact O
  have V:=fun W=>UH a b c d e la lb lc ld le W
  obtain⟨H,ah⟩:∃H:Int,(1:Int)+((a % 20:Nat):Int)=H:=⟨_,rfl⟩
  obtain⟨I,ai⟩:∃I:Int,(1:Int)+((b % 8:Nat):Int)=I:=⟨_,rfl⟩
  obtain⟨J,aj⟩:∃J:Int,(1:Int)+((c % 40:Nat):Int)=J:=⟨_,rfl⟩
  obtain⟨K,ak⟩:∃K:Int,(2:Int)+(d:Int)=K:=⟨_,rfl⟩
  obtain⟨L,al⟩:∃L:Int,(1:Int)+(e:Int)=L:=⟨_,rfl⟩
  have hN:=fun W=>U3 H I 4000 J K L 50 (by unfold lim;omega) (by unfold lim;omega) (by unfold lim;omega) (by unfold lim;omega) (by unfold lim;omega) (by unfold lim;omega) (by unfold lim;omega) W
  have hR:=fun W=>Un [117] [112] (by decide) (by decide) H I 4000 J K L 50 7 (by omega) (fun j hj=>by
   have:j=0∨j=1∨j=2∨j=3∨j=4∨j=5∨j=6:=by omega
   rcases this with rfl|rfl|rfl|rfl|rfl|rfl|rfl <;> (simp only[msF];unfold lim;omega)) (fun h=>by omega) true (by decide) W
  have a2:zay (Jv H I 4000 J K L 50):=by
   constructor <;> (simp only[Jv];omega)
  have a3:YB (newP (Jv H I 4000 J K L 50)):=QB (by simp only[Jv];omega)
  rw[ah,ai,aj,ak,al] at V
  have HR:=zdG hr
  have HA:=zdG ha
  have HV:=zdG r
  have ax:=zdG C
  have P:Hid (Fit (newP (Jv H I 4000 J K L 50))∧YB (newP (Jv H I 4000 J K L 50))):=zdG ⟨Jo a2,a3⟩
  have a4:=zdG V
  have ay:=zdG hN
  have az:=zdG hR
  rw[C] at N
  rw[C]
  clear hr ha r C a2 a3 ah ai aj ak al ag V hN hR
  go_enter Tryz.func3,Tryz.ntmps3
  go_upto_region 3 with(first
   |(go_at_call 7;refine N.mono ?_;rintro s w1 ⟨rfl,B⟩;have E:=zdG B;clear N B)
   |fail)
  go_upto_region 4 with(first
   |(go_at_call 10;refine(a4.out _).mono ?_;rintro s w2 ⟨rfl,an⟩;have a5:=zdG (za E.out an);clear an)
   |(go_at_call 9;refine(ay.out _).mono ?_;rintro s w3 ⟨g,q,rfl,ho⟩;have HO:=zdG ho;clear ho)
   |fail)
  go_upto_region 5 with(first
   |(go_at_call 10;refine(a4.out _).mono ?_;rintro s w4 ⟨rfl,ao⟩;have a6:=zdG ao;clear ao)
   |(go_at_call 11;refine(az.out _).mono ?_;rintro s w5 ⟨ho,_⟩;obtain⟨R,m,rfl,ap⟩:=ho rfl;have a7:Hid (Both w w5 g q R m (newP (Jv H I 4000 J K L 50))):=zdG (Both.made a5.out HO.out a6.out ap);clear ap ho)
   |fail)
  go_wp2_with (first
   |(go_at_call 12;refine(vU _ _).mono ?_;rintro s wn ⟨rfl,rfl⟩)
   |fail)
  go_loopw [17] (fun iv wr=>∃(k:Nat) (q m:zl) (x:Acc),k≤n∧iv=.int .i64 (k:Nat)∧Hid (Both w wr g q R m x)∧Hid (Fit x∧YB x)) (fun iv _=>n - (intOf iv).toNat)
  case atStart=>exact⟨0,q,m,_,Nat.zero_le _,rfl,a7,P⟩
  case round=>
   clear a7 HO P E a5 a6
   obtain⟨k,q,m,x,hk,rfl,HU,HF⟩:=hrel
   by_cases b2:k < n
   ·have a8:(k:Int) < (n:Int):=by omega
    have a9:k < l.length:=by rw[ax.out];exact b2
    have b4:(0:Int)≤(k:Int):=by omega
    have b5:IntKind.i64.wrap ((k:Int)+1)=(k:Int)+1:=IntWalk.i64_in _ (by omega)
    obtain⟨i,Y⟩:∃i,l[k]=i:=⟨_,rfl⟩
    have F:i∈l:=Y ▸ List.getElem_mem a9
    obtain⟨Z,o1,b9,aq,_,_,ar,_,S⟩:=HR.out.at_ (by omega)
    have s:=(Value.slice.inj aq).1
    subst s
    have f:∀W,Below w.heap.size w W→∀j,j < 6→W.cell? ⟨Z,o1+k * 6+j,none⟩=(ZL i)[j]?:=fun W hb j hj=>by
     rw[Nat.add_assoc]
     refine(hb.cell ar).trans ((S (k * 6+j) (by omega)).trans ?_)
     rw[zy uO l k j a9 hj,Y]
    have G:∀W,Below wr.heap.size wr W→Calls Tryz.prog 13 #[.pointer (some ⟨g,0,none⟩),.pointer (some ⟨R,0,none⟩),.agg #[.int .i64 i.p.op,.int .i64 i.p.id,.int .i64 i.p.at_,.string ⟨i.p.name.toArray⟩,i.vb,i.vk]] W (ve w W g q R m (doP x i.p).1):=fun W hb=>
     zaY w W g q R m x i.p.op i.p.id i.p.at_ i.p.name i.p.boxes i.p.keys i.vb i.vk (bothIn (HU.out.later hb) HF.out.1 HF.out.2 HA.out HV.out F)
    have X:Fit (doP x i.p).1∧YB (doP x i.p).1:=⟨zcy HF.out.1 i.p,zaW HF.out.1 HF.out.2 i.p⟩
    obtain⟨⟨op,id,at_,nm,bs,ks⟩,vb,vk⟩:=i
    simp only at G
    obtain⟨D,a0⟩:∃D,(doP x ⟨op,id,at_,nm,bs,ks⟩).1=D:=⟨_,rfl⟩
    rw[a0] at X
    simp only[a0] at G
    have a':=zdG G
    have aa:=zdG X
    have o:=HU.out.st.below
    obtain⟨cl,M⟩:∃cl,D.clock=cl:=⟨_,rfl⟩
    have ab:∀W m n,zh W g m D→Calls Tryz.prog 14 #[.pointer (some ⟨g,0,none⟩)] (W.drewN n) fun e w'=>e=.returned (.int .i64 cl)∧W.drewN n=w':=fun W m n h=>by
     have O:=Ym g D.clock (W.drewN n) (h.later (below_drewN' (Below.refl _ _) n)).yo
     rw[M] at O
     exact O
    have Q:∀W m,zh W g m D→Calls Tryz.prog 14 #[.pointer (some ⟨g,0,none⟩)] W fun e w'=>e=.returned (.int .i64 cl)∧W=w':=fun W m h=>by
     have O:=Ym g D.clock W h.yo
     rw[M] at O
     exact O
    have b6:=zdG ab
    have ac:=zdG Q
    have b0:=zdG M
    have z0:wr.cell? ⟨Z,o1+k * 6,none⟩=some (.int .i64 op):=f wr o 0 (by omega)
    have z1:wr.cell? ⟨Z,o1+k * 6+1,none⟩=some (.int .i64 id):=f wr o 1 (by omega)
    have z2:wr.cell? ⟨Z,o1+k * 6+2,none⟩=some (.int .i64 at_):=f wr o 2 (by omega)
    have z3:wr.cell? ⟨Z,o1+k * 6+3,none⟩=some (.string ⟨nm.toArray⟩):=f wr o 3 (by omega)
    have z4:wr.cell? ⟨Z,o1+k * 6+4,none⟩=some vb:=f wr o 4 (by omega)
    have z5:wr.cell? ⟨Z,o1+k * 6+5,none⟩=some vk:=f wr o 5 (by omega)
    have u:=(HA.out _ F).1.form
    have y:=(HA.out _ F).2.form
    simp only at u y
    obtain⟨Ab,cb,u,_,_⟩:=u
    obtain⟨Ak,ck,y,_,_⟩:=y
    obtain⟨nb,au⟩:∃nb,bs.length=nb:=⟨_,rfl⟩
    obtain⟨nk,av⟩:∃nk,ks.length=nk:=⟨_,rfl⟩
    rw[au] at u
    rw[av] at y
    subst u y
    clear f G S aq Y F a0 X ar o ab Q M au av
    go_upto_region 10 with(fail)
    go_cut [70] (fun v wx=>v=.bool false∧∃q m,Hid (Both w wx g q R m D))
    case first=>
     go_region_with (first
      |(go_at_call 13;refine(a'.out _ (by first|exact Below.refl _ _|exact zb _|exact below_drewN' (Below.refl _ _) _)).mono ?_;rintro s w8 ⟨rfl,q8,q9,a1,_⟩;have z:=zdG a1;have k9:w8.cell? ⟨R,9,none⟩=some (.int .i64 cl):=(a1.rf.at_.yo.trans (by rw[b0.out]));clear a1)
      |(go_at_call 14;refine(ac.out _ _ z.out.st.at_).mono ?_;rintro s w9 ⟨rfl,rfl⟩)
      |fail)
     all_goals
      go_wp2_with fail
      go_meet
      exact⟨by simp,q8,q9,z⟩
    case rest=>
     obtain⟨rfl,q8,q9,z⟩:=hcut
     obtain⟨w8,rfl⟩:∃w8:World,w8=wc:=⟨_,rfl⟩
     clear z0 z1 z2 z3 z4 z5
     go_wp2_with fail
     refine⟨?_,by simp[intOf];omega⟩
     first|exact⟨k+1,q8,q9,D,by omega,by go_num,z,aa⟩|((repeat apply Exists.intro);exact⟨⟨k+1,q8,q9,D,by omega,by go_num,z,aa⟩,rfl⟩)
   ·have a8:¬(k:Int) < (n:Int):=by omega
    have t:=fun W=>Yq xS W
    have ad:=UN wr g q R m x HU.out.st.at_ HU.out.rf.at_ HF.out.1
    go_wp2_with (first
     |(go_at_call 15;refine ad.mono ?_;rintro s ba ⟨rfl,T⟩;have ae:=zdG (za HU.out.st.below T);clear T ad)
     |(go_at_call 8;refine(t _).mono ?_;rintro s bb ⟨rfl,U⟩;have af:=zdG (za ae.out U);clear U t)
     |fail)
    go_ret
    exact⟨rfl,af.out⟩
end Go.Proofs.YtfhlhdmhgheonaaGreatDoor
