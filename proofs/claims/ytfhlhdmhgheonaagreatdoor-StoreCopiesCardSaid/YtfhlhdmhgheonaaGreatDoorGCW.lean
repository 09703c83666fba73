/-
  The walk of pillarboxlaw18.StoreCopies.
-/
import Derived.Test.YtfhlhdmhgheonaaGreatDoorGRW
import Derived.Test.YtfhlhdmhgheonaaGreatDoorGCO
set_option maxRecDepth 100000
set_option maxHeartbeats 8000000
namespace Go.Proofs.YtfhlhdmhgheonaaGreatDoor
open Go.Shelf Go.RowKit
attribute [local go_sem ↓] Go.wp_at_zero Go.wp_at_succ
structure zaZ (w wr:World)(g g2:Nat):Prop where
 ex:∃q q2 x,Both w wr g q g2 q2 x∧Fit x∧YB x
theorem zaZ.later {w wr w':World}{g g2:Nat}(h:zaZ w wr g g2)(hb:Below wr.heap.size wr w'):zaZ w w' g g2:=by
 obtain⟨q,a,x,b,c⟩:=h.ex
 exact⟨q,a,x,b.later hb,c⟩
theorem zaZ.below {w wr:World}{g g2:Nat}(h:zaZ w wr g g2):Below w.heap.size w wr:=by
 obtain⟨q,b,x,a,c⟩:=h.ex
 exact a.st.below
theorem zbc {w w0 wr:World}{g g2:Nat}{l:List zcg}{A:Option Addr}{n cap:Nat}(hr:RdS w [] 6 (.slice A n cap) l.length (zk ZL l))(ha:∀a∈l,ActR w a)(hv:Zw (l.map (·.p))=false)(h0:Below w.heap.size w w0)(hP:zaZ w0 wr g g2)(k:Nat)(hk:k < l.length) :
  ∃(b o:Nat) (op id at_:Int) (nm:Text) (Ab Ak:Option Addr) (nb cb nk ck:Nat),A=some ⟨b,o,none⟩∧wr.cell? ⟨b,o+k * 6,none⟩=some (.int .i64 op)∧wr.cell? ⟨b,o+k * 6+1,none⟩=some (.int .i64 id)∧wr.cell? ⟨b,o+k * 6+2,none⟩=some (.int .i64 at_)∧wr.cell? ⟨b,o+k * 6+3,none⟩=some (.string ⟨nm.toArray⟩)∧wr.cell? ⟨b,o+k * 6+4,none⟩=some (.slice Ab nb cb)∧wr.cell? ⟨b,o+k * 6+5,none⟩=some (.slice Ak nk ck)∧
   Calls Tryz.prog 13 #[.pointer (some ⟨g,0,none⟩),.pointer (some ⟨g2,0,none⟩),.agg #[.int .i64 op,.int .i64 id,.int .i64 at_,.string ⟨nm.toArray⟩,.slice Ab nb cb,.slice Ak nk ck]] wr fun e w'=>e=.returned (.bool true)∧zaZ w0 w' g g2:=by
 obtain⟨q,I,x,D,y,E⟩:=hP.ex
 obtain⟨d,m⟩:∃d,l[k]=d:=⟨_,rfl⟩
 have f:d∈l:=m ▸ List.getElem_mem hk
 obtain⟨F,G,J,z,_,_,B,_,r⟩:=hr.at_ (by omega)
 have H:=(Value.slice.inj z).1
 have s:Below w.heap.size w wr:=za h0 D.st.below
 have c:∀j,j < 6→wr.cell? ⟨F,G+k * 6+j,none⟩=(ZL d)[j]?:=fun j hj=>by
  rw[Nat.add_assoc]
  refine(s.cell B).trans ((r (k * 6+j) (by omega)).trans ?_)
  rw[zy uO l k j hk hj,m]
 have t:∀a∈l,ActR w0 a:=fun a f=>⟨(ha a f).1.below h0,(ha a f).2.below h0⟩
 have u:=zaY w0 wr g q g2 I x d.p.op d.p.id d.p.at_ d.p.name d.p.boxes d.p.keys d.vb d.vk (bothIn D y E t hv f)
 have v:Fit (doP x d.p).1∧YB (doP x d.p).1:=⟨zcy y d.p,zaW y E d.p⟩
 have h:=(ha d f).1.form
 have i:=(ha d f).2.form
 obtain⟨⟨op,id,at_,nm,M,N⟩,vb,vk⟩:=d
 simp only at h i
 obtain⟨Ab,cb,rfl,_,_⟩:=h
 obtain⟨Ak,ck,rfl,_,_⟩:=i
 refine⟨F,G,op,id,at_,nm,Ab,Ak,_,cb,_,ck,H,c 0 (by omega),c 1 (by omega),c 2 (by omega),c 3 (by omega),c 4 (by omega),c 5 (by omega),u.mono ?_⟩
 rintro e w' ⟨rfl,K,L,C,_⟩
 exact⟨rfl,K,L,_,C,v⟩
theorem zcm {w wr:World}{g g2:Nat}(h:zaZ w wr g g2):∀_:Unit,∃q q2 x,Both w wr g q g2 q2 x∧Fit x∧YB x∧XJ x∧x.boxes.length≤1099511627776∧x.log.es.length≤1099511627776:=fun _=>by
 obtain⟨q,q2,x,hB,hF,hR⟩:=h.ex
 have h1:=hF.nm
 have h2:=hF.clock
 have h3:=hF.cfg.mod
 have h4:=hF.nb
 have h5:=hF.log
 have h6:=hF.cfg.log
 exact⟨q,q2,x,hB,hF,hR,⟨by omega,fun m hm=>⟨by have:=(hF.mail m hm).keys;omega,by have:=hF.Jp hm;omega⟩⟩,by omega,by omega⟩
theorem VI (v v2:Value)(l l2:List zcg)(w:World)(hr:RdS w [] 6 v l.length (zk ZL l))(ha:∀a∈l,ActR w a)(hr2:RdS w [] 6 v2 l2.length (zk ZL l2))(ha2:∀a∈l2,ActR w a) :
  Calls Tryz.prog 4 #[v,v2] w fun e' w'=>e'=.returned (.bool true)∧Below w.heap.size w w':=by
 have D:=Vs v l w hr ha
 have y:∀W,Below w.heap.size w W→_:=fun W u=>Vs v2 l2 W (hr2.below u) (fun a ham=>⟨(ha2 a ham).1.below u,(ha2 a ham).2.below u⟩)
 obtain⟨A,cp,hv,am,cq⟩:=hr.form
 obtain⟨A2,cn,cg,K,co⟩:=hr2.form
 subst hv cg
 cases z:Zw (l.map (·.p)) with
 |true=>
  rw[z] at D
  have e:=fun W=>Yq xS W
  clear hr ha z hr2 ha2 y
  generalize l.length=n at D am ⊢
  generalize l2.length=M at K ⊢
  go_enter Tryz.func4,Tryz.ntmps4
  go_wp2_with (first
   |(go_at_call 7;refine D.mono ?_;rintro r w1 ⟨rfl,b⟩;have B:=zdG b;clear D b)
   |(go_at_call 8;refine(e _).mono ?_;rintro e5 w5 ⟨rfl,u⟩;have a8:=zdG (za B.out u);clear u e)
   |fail)
  go_ret
  exact⟨rfl,a8.out⟩
 |false=>
  rw[z] at D
  cases d:Zw (l2.map (·.p)) with
  |true=>
   simp only[d] at y
   have e:=fun W=>Yq xS W
   have E:=zdG y
   clear hr ha z hr2 ha2 d y
   generalize l.length=n at D am ⊢
   generalize l2.length=M at E K ⊢
   go_enter Tryz.func4,Tryz.ntmps4
   go_wp2_with (first
    |(go_at_call 7;(with_reducible refine D.mono ?_);rintro r w1 ⟨rfl,b⟩;have F:=E.out _ b;have B:=zdG b;clear D b)
    |(go_at_call 7;(with_reducible refine F.mono ?_);rintro r w1 ⟨rfl,b⟩;have U:=zdG (za B.out b);clear F b)
    |(go_at_call 8;refine(e _).mono ?_;rintro e5 w5 ⟨rfl,u⟩;have a8:=zdG (za U.out u);clear u e)
    |fail)
   go_ret
   exact⟨rfl,a8.out⟩
  |false=>
   simp only[d] at y
   obtain⟨n,L⟩:∃n,l.length=n:=⟨_,rfl⟩
   obtain⟨M,s⟩:∃M,l2.length=M:=⟨_,rfl⟩
   have cl:n≤60:=by
    have R:=(Xf z).1
    rw[List.length_map,L] at R
    exact R
   have cm:M≤60:=by
    have R:=(Xf d).1
    rw[List.length_map,s] at R
    exact R
   have ar:∀W,Calls Tryz.prog 10 #[.int .u8 19,.int .u8 7,.int .u8 39,.int .u8 255,.int .u8 99] W fun e' w'=>e'=.returned (.agg #[.string ⟨#[117]⟩,.string ⟨#[112]⟩,.int .i64 20,.int .i64 8,.int .i64 4000,.int .i64 40,.int .i64 257,.int .i64 100,.int .i64 50])∧Below W.heap.size W w':=fun W=>UH 19 7 39 255 99 (by omega) (by omega) (by omega) (by omega) (by omega) W
   have hN:=fun W=>U3 20 8 4000 40 257 100 50 (by unfold lim;omega) (by unfold lim;omega) (by unfold lim;omega) (by unfold lim;omega) (by unfold lim;omega) (by unfold lim;omega) (by unfold lim;omega) W
   have hR:=fun W=>Un [117] [112] (by decide) (by decide) 20 8 4000 40 257 100 50 7 (by omega) (fun j hj=>by
    have:j=0∨j=1∨j=2∨j=3∨j=4∨j=5∨j=6:=by omega
    rcases this with rfl|rfl|rfl|rfl|rfl|rfl|rfl <;> (simp only[msF];unfold lim;omega)) (fun h=>by omega) true (by decide) W
   have au:zay (Jv 20 8 4000 40 257 100 50):=by
    constructor <;> (simp only[Jv];omega)
   have av:YB (newP (Jv 20 8 4000 40 257 100 50)):=QB (by simp only[Jv];omega)
   have HR:=zdG hr
   have HA:=zdG ha
   have HV:=zdG z
   have aw:=zdG L
   have c4:=zdG hr2
   have c6:=zdG ha2
   have c7:=zdG d
   have a0:=zdG s
   have a1:Hid (Fit (newP (Jv 20 8 4000 40 257 100 50))∧YB (newP (Jv 20 8 4000 40 257 100 50))):=zdG ⟨Jo au,av⟩
   have a9:=zdG ar
   have ax:=zdG hN
   have ay:=zdG hR
   have E:=zdG y
   rw[L] at D
   rw[L,s]
   rw[s] at E
   clear hr ha z L hr2 ha2 d s au av am K ar hN hR y
   go_enter Tryz.func4,Tryz.ntmps4
   go_upto_region 3 with(first
    |(go_at_call 7;(with_reducible refine D.mono ?_);rintro r w1 ⟨rfl,b⟩;have F:=E.out _ b;have B:=zdG b;clear D b)
    |(go_at_call 7;(with_reducible refine F.mono ?_);rintro r cr ⟨rfl,b⟩;have a2:=zdG (za B.out b);clear F b)
    |fail)
   go_upto_region 4 with(first
    |(go_at_call 10;refine(a9.out _).mono ?_;rintro r w2 ⟨rfl,bn⟩;have U:=zdG (za a2.out bn);clear bn)
    |(go_at_call 9;refine(ax.out _).mono ?_;rintro r w3 ⟨g,q,rfl,ho⟩;have HO:=zdG ho;clear ho)
    |fail)
   go_upto_region 5 with(first
    |(go_at_call 10;refine(a9.out _).mono ?_;rintro r w4 ⟨rfl,bo⟩;have az:=zdG bo;clear bo)
    |(go_at_call 11;refine(ay.out _).mono ?_;rintro r w5 ⟨ho,_⟩;obtain⟨g2,q2,rfl,bp⟩:=ho rfl;have HP:Hid (zaZ w w5 g g2):=zdG ⟨q,q2,_,Both.made U.out HO.out az.out bp,a1.out⟩;clear bp ho)
    |fail)
   clear HO az U B a2 a1 a9 ax ay
   go_upto_block 0 with(first
    |(go_at_call 12;refine(vU _ _).mono ?_;rintro r wn ⟨rfl,rfl⟩)
    |fail)
   go_cut [] (fun wx=>Hid (zaZ w wx g g2))
   case first=>
    go_wp2_with fail
    go_loopw [9] (fun iv wr=>∃(k:Nat),k≤n∧iv=.int .i64 (k:Nat)∧Hid (zaZ w wr g g2)) (fun iv _=>n - (intOf iv).toNat)
    case atStart=>exact⟨0,Nat.zero_le _,rfl,HP⟩
    case round=>
     clear HP
     obtain⟨k,hk,rfl,c⟩:=hrel
     by_cases J:k < n
     ·have f:(k:Int) < (n:Int):=by omega
      have aa:k < l.length:=by rw[aw.out];exact J
      have a':(0:Int)≤(k:Int):=by omega
      have b0:IntKind.i64.wrap ((k:Int)+1)=(k:Int)+1:=IntWalk.i64_in _ (by omega)
      obtain⟨b1,o1,op,id,at_,nm,Ab,Ak,nb,cb,S,ck,rfl,z0,z1,z2,z3,z4,z5,N⟩:=zbc (n:=n) (by rw[←aw.out];exact HR.out) HA.out HV.out (Below.refl _ _) c.out k aa
      have ab:=zdG N
      clear N
      go_wp2_with (first
       |(go_at_call 13;refine ab.out.mono ?_;rintro r w8 ⟨rfl,O⟩;have G:=zdG O;clear O)
       |fail)
      refine⟨?_,by simp[intOf];omega⟩
      first|exact⟨k+1,by omega,by go_num,G⟩|((repeat apply Exists.intro);exact⟨⟨k+1,by omega,by go_num,G⟩,rfl⟩)
     ·have f:¬(k:Int) < (n:Int):=by omega
      go_wp2_with fail
      go_meet
      exact c
   case rest=>
    have ac:=hcut
    clear hcut HP
    obtain⟨T,rfl⟩:∃T:World,T=wc:=⟨_,rfl⟩
    obtain⟨q,q2,x,hB,hF,bq,V,an,br⟩:=zcm ac.out ()
    have b2:=zcN T g q x hB.st.at_ V an (by omega)
    have b3:∀W,Below T.heap.size T W→_:=fun W u=>zcS W g2 q2 x (hB.rf.at_.later u) V an br
    have b4:∀W,Below T.heap.size T W→_:=fun W u=>Vh W g q x (hB.st.at_.later u) V
    have b7:=zdG b2
    have b8:=zdG b3
    have b9:=zdG b4
    have C:Hid (Fit x∧YB x):=zdG ⟨hF,bq⟩
    have ba:=zdG hB.st.at_.same
    clear b2 b3 b4 hF bq V an br hB
    go_upto_region 13 with(first
     |(go_at_call 16;refine b7.out.mono ?_;rintro r wb ⟨g3,q3,rfl,bs⟩;have ad:=zdG bs;clear bs)
     |(go_at_call 17;refine(b8.out _ ad.out.below).mono ?_;rintro r X ⟨g4,q4,rfl,bt⟩;have ae:Hid (zaZ T X g3 g4):=zdG ⟨q3,q4,x,Both.made (Below.refl _ _) ad.out (Below.refl _ _) bt,C.out⟩;clear bt)
     |fail)
    go_upto_region 14 with(first
     |(go_at_call 18;refine(b9.out _ ae.out.below).mono ?_;rintro r we ⟨A5,c5,rfl,bu⟩;have af:=zdG bu;clear bu)
     |fail)
    obtain⟨h5,Y,bv⟩:=af.out.all ba.out
    have H:Hid (xO X we x.mails (.slice A5 x.mails.length c5) h5 Y):=zdG (bv.spoilt af.out.below)
    have bb:x.mails.length≤4294967296:=by
     have R:=C.out.1.nm
     have h2:=C.out.1.clock
     have h3:=C.out.1.cfg.mod
     omega
    have i:∀m∈x.mails,m.keys.length≤4294967296∧m.members.length≤4294967296:=fun m hm=>⟨by have:=(C.out.1.mail m hm).keys;omega,by have:=C.out.1.Jp hm;omega⟩
    have ag:=zdG i
    clear bv i b7 b8 b9 ad ba af
    obtain⟨xm,bw⟩:∃xm,x.mails=xm:=⟨_,rfl⟩
    rw[bw] at H ag bb ⊢
    obtain⟨nm,P⟩:∃nm,xm.length=nm:=⟨_,rfl⟩
    have ah:=zdG P
    rw[P] at H bb ⊢
    clear bw P
    go_upto_block 2 with(fail)
    go_cut [] (fun wx=>Hid (Below X.heap.size X wx))
    case first=>
     go_wp2_with fail
     go_loopw [13] (fun iv wr=>∃(k:Nat),k≤nm∧iv=.int .i64 (k:Nat)∧Hid (xO X wr xm (.slice A5 nm c5) h5 Y)) (fun iv _=>nm - (intOf iv).toNat)
     case atStart=>exact⟨0,Nat.zero_le _,rfl,H⟩
     case round=>
      clear H
      obtain⟨k,hk,rfl,c⟩:=hrel
      by_cases J:k < nm
      ·have f:(k:Int) < (nm:Int):=by omega
       have a':(0:Int)≤(k:Int):=by omega
       have b0:IntKind.i64.wrap ((k:Int)+1)=(k:Int)+1:=IntWalk.i64_in _ (by omega)
       have bc:k < Y.length:=by rw[c.out.len,ah.out];exact J
       obtain⟨m,hm⟩:∃m,Y[k]=m:=⟨_,rfl⟩
       have i:m∈Y:=hm ▸ List.getElem_mem bc
       have c8:=ag.out m.p (by rw[←c.out.same];exact List.mem_map_of_mem i)
       obtain⟨b5,o5,cs,_,bx,_,_,_,_⟩:=c.out.sl.at_ (by rw[ah.out];omega)
       have e5:=(Value.slice.inj bx).1
       subst e5
       have bd:∀W,xO X W xm (.slice (some ⟨b5,o5,none⟩) nm c5) h5 Y→W.cell? ⟨b5,o5+k * 8+4,none⟩=some m.kv∧W.cell? ⟨b5,o5+k * 8+5,none⟩=some m.mv:=fun W hs=>by
        have R:=hs.xu rfl k bc
        rw[hm] at R
        exact⟨R 4 (by omega),R 5 (by omega)⟩
       obtain⟨Ak,ck,bz,b'⟩:=c.out.keyForm i
       obtain⟨Av,cv,c0,c1⟩:=c.out.memForm i
       obtain⟨ch,ci⟩:=c8
       have be:=zdG bd
       have a3:=zdG i
       have ai:=zdG bz
       have aj:=zdG c0
       have bf:=zdG b'
       have bg:=zdG c1
       obtain⟨S,ao⟩:∃S,m.p.keys.length=S:=⟨_,rfl⟩
       obtain⟨nv,ap⟩:∃nv,m.p.members.length=nv:=⟨_,rfl⟩
       rw[ao] at ch ai bf
       rw[ap] at ci aj bg
       have c9:=zdG ao
       have ca:=zdG ap
       clear hm i bd bz c0 b' c1 bx ao ap
       go_upto_block 4 with(fail)
       go_cut [] (fun wx=>Hid (xO X wx xm (.slice (some ⟨b5,o5,none⟩) nm c5) h5 Y))
       case first=>
        go_wp2_with fail
        go_loopw [14] (fun iv wr=>∃(j:Nat),j≤nv∧iv=.int .i64 (j:Nat)∧Hid (xO X wr xm (.slice (some ⟨b5,o5,none⟩) nm c5) h5 Y)) (fun iv _=>nv - (intOf iv).toNat)
        case atStart=>exact⟨0,Nat.zero_le _,rfl,c⟩
        case round=>
         clear c
         obtain⟨j,hj,rfl,c⟩:=hrel
         have y5:=(be.out _ c.out).2
         rw[aj.out] at y5
         by_cases al:j < nv
         ·have ak:(j:Int) < (nv:Int):=by omega
          have cc:(0:Int)≤(j:Int):=by omega
          have cd:IntKind.i64.wrap ((j:Int)+1)=(j:Int)+1:=IntWalk.i64_in _ (by omega)
          obtain⟨b6,o6,e6⟩:=bg.out (by omega)
          have a4:m.mv=.slice (some ⟨b6,o6,none⟩) nv cv:=by rw[aj.out,e6]
          rw[e6] at y5
          obtain⟨⟨u0,z0⟩,f0,t⟩:=c.out.mem a3.out a4 j (by rw[ca.out];exact al)
          have o:=zdG (t (.int .i64 999))
          clear t a4 e6
          go_wp2_with fail
          refine⟨?_,by simp[intOf];omega⟩
          first|exact⟨j+1,by omega,by go_num,o⟩|((repeat apply Exists.intro);exact⟨⟨j+1,by omega,by go_num,o⟩,rfl⟩)
         ·have ak:¬(j:Int) < (nv:Int):=by omega
          go_wp2_with fail
          go_meet
          exact c
       case rest=>
        have bh:=hcut
        clear hcut c
        obtain⟨wf,rfl⟩:∃wf:World,wf=wc:=⟨_,rfl⟩
        go_wp2_with fail
        go_loopw [15] (fun iv wr=>∃(j:Nat),j≤S∧iv=.int .i64 (j:Nat)∧Hid (xO X wr xm (.slice (some ⟨b5,o5,none⟩) nm c5) h5 Y)) (fun iv _=>S - (intOf iv).toNat)
        case atStart=>exact⟨0,Nat.zero_le _,rfl,bh⟩
        case round=>
         clear bh
         obtain⟨j,hj,rfl,c⟩:=hrel
         have y4:=(be.out _ c.out).1
         rw[ai.out] at y4
         by_cases al:j < S
         ·have ak:(j:Int) < (S:Int):=by omega
          have cc:(0:Int)≤(j:Int):=by omega
          have cd:IntKind.i64.wrap ((j:Int)+1)=(j:Int)+1:=IntWalk.i64_in _ (by omega)
          obtain⟨b6,o6,e6⟩:=bf.out (by omega)
          have a5:m.kv=.slice (some ⟨b6,o6,none⟩) S ck:=by rw[ai.out,e6]
          rw[e6] at y4
          obtain⟨⟨u0,z0⟩,f0,t⟩:=c.out.key a3.out a5 j (by rw[c9.out];exact al)
          have o:=zdG (t (.string ⟨#[115,112,111,105,108,116]⟩))
          clear t a5 e6
          go_wp2_with fail
          refine⟨?_,by simp[intOf];omega⟩
          first|exact⟨j+1,by omega,by go_num,o⟩|((repeat apply Exists.intro);exact⟨⟨j+1,by omega,by go_num,o⟩,rfl⟩)
         ·have ak:¬(j:Int) < (S:Int):=by omega
          go_wp2_with fail
          refine⟨?_,by simp[intOf];omega⟩
          first|exact⟨k+1,by omega,by go_num,c⟩|((repeat apply Exists.intro);exact⟨⟨k+1,by omega,by go_num,c⟩,rfl⟩)
      ·have f:¬(k:Int) < (nm:Int):=by omega
       go_wp2_with fail
       go_meet
       exact zdG c.out.below
    case rest=>
     have bi:=hcut
     clear hcut H
     obtain⟨wg,rfl⟩:∃wg:World,wg=wc:=⟨_,rfl⟩
     have HQ:Hid (zaZ T wg g3 g4):=zdG (ae.out.later bi.out)
     clear ae bi ag ah
     go_wp2_with fail
     go_loopw [16] (fun iv wr=>∃(k:Nat),k≤M∧iv=.int .i64 (k:Nat)∧Hid (zaZ T wr g3 g4)) (fun iv _=>M - (intOf iv).toNat)
     case atStart=>exact⟨0,Nat.zero_le _,rfl,HQ⟩
     case round=>
      clear HQ
      obtain⟨k,hk,rfl,c⟩:=hrel
      by_cases J:k < M
      ·have f:(k:Int) < (M:Int):=by omega
       have aa:k < l2.length:=by rw[a0.out];exact J
       have a':(0:Int)≤(k:Int):=by omega
       have b0:IntKind.i64.wrap ((k:Int)+1)=(k:Int)+1:=IntWalk.i64_in _ (by omega)
       obtain⟨b1,o1,op,id,at_,ct,Ab,Ak,nb,cb,S,ck,rfl,z0,z1,z2,z3,z4,z5,N⟩:=zbc (n:=M) (by rw[←a0.out];exact c4.out) c6.out c7.out ac.out.below c.out k aa
       have ab:=zdG N
       clear N
       go_wp2_with (first
        |(go_at_call 13;refine ab.out.mono ?_;rintro r w8 ⟨rfl,O⟩;have G:=zdG O;clear O)
        |fail)
       refine⟨?_,by simp[intOf];omega⟩
       first|exact⟨k+1,by omega,by go_num,G⟩|((repeat apply Exists.intro);exact⟨⟨k+1,by omega,by go_num,G⟩,rfl⟩)
      ·have f:¬(k:Int) < (M:Int):=by omega
       have e:=fun W=>Yq xS W
       obtain⟨q7,q8,x7,Z,c2,_⟩:=(ac.out.later c.out.below).ex
       obtain⟨q9,cj,x9,aq,c3,_⟩:=c.out.ex
       have bj:=UN wr g q7 g2 q8 x7 Z.st.at_ Z.rf.at_ c2
       have I:∀W,Below wr.heap.size wr W→_:=fun W u=>UN W g3 q9 g4 cj x9 (aq.st.at_.later u) (aq.rf.at_.later u) c3
       have ce:=zdG I
       have cf:=zdG Z.st.below
       clear I Z aq c2 c3
       go_wp2_with (first
        |(go_at_call 15;(with_reducible refine bj.mono ?_);rintro r cu ⟨rfl,Q⟩;have I:=ce.out _ Q;have bk:=zdG (za cf.out Q);clear Q bj)
        |(go_at_call 15;(with_reducible refine I.mono ?_);rintro r cw ⟨rfl,a6⟩;have bl:=zdG (za bk.out a6);clear a6 I)
        |(go_at_call 8;refine(e _).mono ?_;rintro r cx ⟨rfl,a7⟩;have bm:=zdG (za bl.out a7);clear a7 e)
        |fail)
       go_ret
       exact⟨rfl,bm.out⟩
end Go.Proofs.YtfhlhdmhgheonaaGreatDoor
