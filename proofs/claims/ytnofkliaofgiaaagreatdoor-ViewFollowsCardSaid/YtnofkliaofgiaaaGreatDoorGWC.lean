/-
  The walk of law 24's Follow: who goes by lines that are right.
-/
import Derived.Test.YtnofkliaofgiaaaGreatDoorGWA
import Derived.Test.YtnofkliaofgiaaaGreatDoorGVD
import Derived.Test.YtnofkliaofgiaaaGreatDoorGRS
set_option maxRecDepth 100000
set_option maxHeartbeats 8000000
open Go.Proofs.Tryz
open Exists renaming intro→OA
open Go renaming TypeId→Pa,Value→Oe,World→Oc
open Go.ByteArray renaming toList_eq→Pu
open Go.Ending renaming returned→RR
open Go.IntKind renaming i64→Ov
open Go.IntWalk renaming i64_in→Og
open Go.RowKit renaming Below→Od
open Go.Value renaming slice→RO,string→RP
open Go.Value.slice renaming inj→OM
open Go.World renaming block_lt_of_cell?→OH,cell?_alloc_lt→Ox
open List renaming append_assoc→O4,eq_nil_of_length_eq_zero→Oi,getElem?_map→O5,length_append→Oo,length_eraseIdx_of_lt→Pq,length_map→Ow,map_append→OQ,mem_map→OL,nil_append→PE,replicate→Pi,size_toArray→PC,take_of_length_le→Ou
open Nat renaming le_refl→Oq,le_trans→Ol
open _root_ renaming ByteArray→Oy,List→Ob,Option→OC,if_neg→Om
namespace Go.Proofs.YtnofkliaofgiaaaGreatDoor
open Go.Shelf Go.RowKit Go.Lib
attribute [local go_sem ↓] Go.wp_at_zero Go.wp_at_succ
structure FoR (w wr:Oc)(us:Ob Int)(ls R:Ob Y5)(out:Ob Int)(hh:OC Nat)(o:Oe)(m:Nat):Prop where
 below:Od w w wr
 sl:Sl wr 3 1 o hh m (out.map yJ)
 own:∀b,hh=some b→w.heap.size≤b
 len:out.length=m
 chain:Xw out R
 run:UW out R=UW us ls
 few:m≤1073741824
 small:(vp R).length≤1099511627776
def FoO (w wr:Oc)(us:Ob Int)(ls R:Ob Y5)(o:Oe)(m:Nat):Prop:=∃out hh,FoR w wr us ls R out hh o m
def lenX:Oe→Nat
 |.string s=>s.size
 |_=>0
def lenS:Oe→Nat
 |RO _ n _=>n
 |_=>0
theorem qZ (l:Ob Int):∀u∈l.map yJ,u.oneCell'=true:=by
 intro u a
 obtain⟨i,_,rfl⟩:=OL.1 a
 rfl
theorem Ya (l:yx)(a b:Nat):(⟨l.toArray⟩:Oy).extract a b=⟨((l.drop a).take (b - a)).toArray⟩:=by
 have h:=QF ⟨l.toArray⟩ a b
 have e:(⟨((l.drop a).take (b - a)).toArray⟩:Oy).data.toList=(l.drop a).take (b - a):=zv
 cases c:(⟨l.toArray⟩:Oy).extract a b with
 |mk d=>
  rw[c] at h
  simp only at h
  congr 1
  rw[←Array.toList_inj]
  rw[h]
theorem tz (n:Nat)(W T:yx) :
  (⟨(XB ⟨n,W⟩++T).toArray⟩:Oy).extract 0 2=⟨#[42,32]⟩∧
  (⟨(XB ⟨n,W⟩++T).toArray⟩:Oy).extract 2 ((decDigits n).length+W.length+3)=⟨(decDigits n++32 :: W).toArray⟩∧
  (⟨(XB ⟨n,W⟩++T).toArray⟩:Oy).extract ((decDigits n).length+W.length+3+2) (XB ⟨n,W⟩++T).length=⟨T.toArray⟩∧
  (⟨(decDigits n++32 :: W).toArray⟩:Oy).extract 0 (decDigits n).length=⟨(decDigits n).toArray⟩∧
  (⟨(decDigits n++32 :: W).toArray⟩:Oy).extract ((decDigits n).length+1) (decDigits n++32 :: W).length=⟨W.toArray⟩∧
  (XB ⟨n,W⟩++T).length=(decDigits n).length+W.length+5+T.length∧(decDigits n++32 :: W).length=(decDigits n).length+1+W.length:=by
 have b:(XB ⟨n,W⟩++T).length=(decDigits n).length+W.length+5+T.length:=by
  rw[Yb]
  simp
  omega
 have a:(decDigits n++32 :: W).length=(decDigits n).length+1+W.length:=zT
 refine⟨?_,?_,?_,?_,?_,b,a⟩
 ·rw[Ya,Yb]
  simp
 ·rw[Ya,Yb]
  congr 2
  have e:42 :: 32 :: (decDigits n++32 :: (W++[13,10]))++T=[42,32]++((decDigits n++32 :: W)++([13,10]++T)):=zv
  show List.take _ (List.drop 2 (42 :: 32 :: (decDigits n++32 :: (W++[13,10]))++T))=_
  rw[e]
  show List.take _ ((decDigits n++32 :: W)++([13,10]++T))=_
  rw[List.take_left']
  rw[a]
  omega
 ·rw[Ya,b]
  congr 2
  rw[List.drop_append_of_le_length (by rw[Yb];simp;omega),List.drop_of_length_le (by rw[Yb];simp;omega),PE,Ou O]
 ·rw[Ya,List.drop_zero,Nat.sub_zero,List.take_left' rfl]
 ·rw[Ya,a]
  congr 2
  have e:decDigits n++32 :: W=(decDigits n++[32])++W:=zv
  rw[e,List.drop_left' zv,Ou O]
theorem Qg (W:Oc)(ad:Addr)(ty:Pa):(Builtin.append_ #[35,35] ty #[RO (some ad) 0 0,RO none 0 0]).run prog W=.ok (RO (some ad) 0 0) W:=by
 obtain⟨e,c,a,d,b⟩:=info_parts Try.infoIntV
 simp[Builtin.append_,run_underlying underlying35,sizeOf,typeInfo,zeroValue,c,a,b,Builtin.lenOf,run_firstCells_none,storeCells]
theorem sM (w:Oc)(us:Ob Int)(n:Nat)(A:OC Addr)(c:Nat)(hr:NN w [] 1 (RO A n c) n (us.map yJ))(hn:n≤1073741824)(ls:Ob Y5)(hc:Xw us ls)(hs:(vp ls).length≤1099511627776) :
  C 13 #[RO A n c,Oa (vp ls)] w fun e w'=>∃A' m c' hh,e=RR (.tuple #[RO A' m c',.bool true])∧(UW us ls).length=m∧Sl w' 3 1 (RO A' m c') hh m ((UW us ls).map yJ)∧Od w w w':=by
 obtain⟨i0,hi,a',b0,ba⟩:=info_parts Try.infoIntV
 have v:=hr.1
 rw[Ow,Nat.mul_one] at v
 have bt:=qZ us
 have HC:=V hc
 have HS:=V hs
 have a1:=V v
 have HR:=V hr
 clear hc hs v hr
 go_enter func13,ntmps13
 go_upto_region 1 with(fail)
 go_cut [6] (fun o wx=>∃A c,o=RO A n c∧Z (FoO w wx us ls ls (RO A n c) n))
 case first=>
  rcases HR.o with⟨hln,⟨hv,hn0⟩|⟨a,cap,hv,au,aq,hcell⟩⟩
  ·obtain⟨rfl,_,rfl⟩:=OM hv
   subst hn0
   have hu:us=[]:=Oi a1.o
   have cd:=fun W ad ty=>Qg W ad ty
   have HF:Z (FoO w (w.alloc (.cells #[] 3)) us ls ls (RO (some (Y w.heap.size 0)) 0 0) 0):=V ⟨us,some w.heap.size,zt _ _,by rw[hu];exact ZB w 3 1,fun b hb=>by injection hb with hb;omega,a1.o,HC.o,rfl,O,HS.o⟩
   clear hu hln
   go_wp2_with (at_builtin;refine Lib.wpList_append_run _ rfl _ _ _ _ rfl _ _ rfl rfl _ _ (cd _ _ _) ?_)
   go_meet
   exact⟨_,0,rfl,HF⟩
  ·obtain⟨rfl,_,rfl⟩:=OM hv
   have bi:=Yu a hln hcell
   go_wp2_with (at_builtin;refine xH _ rfl _ _ 35 rfl underlying35 hi a' b0 ba rfl zD (ZB w 3 1) rfl a n c (us.map yJ) rfl hln ?_ bt ?_ ?_ ?_)
   ·intro j y hu
    have bj:=bi j (yJ y) (by rw[O5,hu];rfl)
    have hb:=OH w _ bj
    rw[Ox w _ _ hb]
    exact bj
   ·unfold maxLen
    omega
   ·omega
   ·intro v2 T w2 a8 U bp
    have aa:Od w w w2:=⟨U.os,U.tape,U.output,Ol zv U.size,fun k hk=>(U.block k zT zT).trans (Below.heap_alloc w _ k hk)⟩
    have bk:∀b,T=some b→w.heap.size≤b:=by
     intro b hb
     rcases bp with h3|⟨g,h3,h4⟩
     ·rw[hb] at h3
      injection h3 with h3
      omega
     ·rw[hb] at h3
      injection h3 with h3
      omega
    try rw[Nat.zero_add,PE] at a8
    obtain⟨A2,c2,rfl,_,_⟩:=a8.form
    have HF:Z (FoO w w2 us ls ls (RO A2 n c2) n):=V ⟨us,T,aa,a8,bk,a1.o,HC.o,rfl,hn,HS.o⟩
    clear a8 U bp aa bk bi hcell hln au aq
    go_wp2_with fail
    go_meet
    exact⟨A2,c2,rfl,HF⟩
 case rest=>
  obtain⟨A,c,rfl,HF⟩:=hcut
  obtain⟨w1,rfl⟩:∃w1:Oc,w1=wc:=⟨_,rfl⟩
  clear bt
  go_wp2_with fail
  go_loopw [1,6] (fun tx o wr=>∃(R:Ob Y5) (A:OC Addr) (m c:Nat),tx=RP ⟨(vp R).toArray⟩∧o=RO A m c∧Z (FoO w wr us ls R (RO A m c) m)) (fun tx _ _=>lenX tx)
  case atStart=>exact⟨ls,A,n,c,rfl,rfl,HF⟩
  case round=>
   clear HF
   obtain⟨R,A,m,c,rfl,rfl,HF⟩:=hrel
   cases R with
   |nil=>
    obtain⟨q,hh,u⟩:=HF.o
    have s:=V u
    have bd:Z (q=UW us ls):=V u.run
    clear u HF
    have he:(⟨(vp []).toArray⟩:Oy)=⟨#[]⟩:=rfl
    rw[he]
    clear he
    go_wp2_with fail
    refine bodyPost_ret (results_tmp2 rfl _ _ _) rfl ?_
    exact⟨A,m,c,hh,rfl,by rw[←bd.o];exact s.o.len,by rw[←bd.o];exact s.o.sl,s.o.below⟩
   |cons l R=>
    obtain⟨q,hh,u⟩:=HF.o
    obtain⟨f,W⟩:=l
    obtain⟨x1,x2,x3,x4,x5,a6,a7⟩:=tz f W (vp R)
    have a0:=u.chain.1
    have a3:=tj ⟨f,W⟩ (vp R) a0.clean
    have ar:=td f W
    have bo:=tJ f a0.few
    have c8:(decDigits f).length≤10:=AG f 9 (by have:=a0.few;simp only at this;omega)
    have a9:=u.small
    have bu:vp (⟨f,W⟩ :: R)=XB ⟨f,W⟩++vp R:=rfl
    rw[bu] at a9 ⊢
    simp only at a3
    rw[a6] at x3 a9
    rw[a7] at x5
    obtain⟨d,hd⟩:∃d,(decDigits f).length=d:=⟨_,rfl⟩
    obtain⟨ww,H⟩:∃ww,W.length=ww:=⟨_,rfl⟩
    obtain⟨TL,ap⟩:∃TL,(vp R).length=TL:=⟨_,rfl⟩
    rw[hd,H] at a3 a7 x2
    rw[hd,H,ap] at a6 x3 a9
    rw[hd] at ar c8 x4
    rw[hd,H] at x5
    obtain⟨K,hK⟩:∃K,d+ww+3=K:=⟨_,rfl⟩
    rw[hK] at a3 x2 x3
    have N:=fun W'=>X1 (⟨(XB ⟨f,W⟩++vp R).toArray⟩:Oy) ⟨#[13,10]⟩ W' (by show (XB ⟨f,W⟩++vp R).toArray.size≤_;simp only[PC];omega) zD zD
    have M:=fun W'=>X1 (⟨(decDigits f++32 :: W).toArray⟩:Oy) ⟨#[32]⟩ W' (by show (decDigits f++32 :: W).toArray.size≤_;simp only[PC];omega) zD zD
    have E:=fun W'=>eV (⟨(decDigits f).toArray⟩:Oy) W' (by show (decDigits f).toArray.size≤_;simp only[PC];omega)
    have e1:(⟨(XB ⟨f,W⟩++vp R).toArray⟩:Oy).data.toList=XB ⟨f,W⟩++vp R:=zv
    have e2:(⟨(decDigits f++32 :: W).toArray⟩:Oy).data.toList=decDigits f++32 :: W:=zv
    have e3:(⟨(decDigits f).toArray⟩:Oy).data.toList=decDigits f:=zv
    have s1:(⟨(XB ⟨f,W⟩++vp R).toArray⟩:Oy).size=d+ww+5+TL:=by
     show (XB ⟨f,W⟩++vp R).toArray.size=_
     rw[PC,a6]
    have s2:(⟨(decDigits f++32 :: W).toArray⟩:Oy).size=d+1+ww:=by
     show (decDigits f++32 :: W).toArray.size=_
     rw[PC,a7]
    rw[e1,a3] at N
    rw[e2,ar] at M
    rw[e3,bo] at E
    obtain⟨z,hz⟩:∃z:Int,(f:Int)=z:=⟨_,rfl⟩
    simp only[hz] at E
    obtain⟨S,hS⟩:∃S:Oy,⟨(XB ⟨f,W⟩++vp R).toArray⟩=S:=⟨_,rfl⟩
    obtain⟨t,ht⟩:∃t:Oy,⟨(decDigits f++32 :: W).toArray⟩=t:=⟨_,rfl⟩
    obtain⟨D,hD⟩:∃D:Oy,⟨(decDigits f).toArray⟩=D:=⟨_,rfl⟩
    rw[hS] at x1 x2 x3 N s1 ⊢
    rw[ht] at x2 x4 x5 M s2
    rw[hD] at x4 E
    rw[←s1] at x3
    rw[←s2] at x5
    have b1:(2:Int)≤(K:Int):=O
    have b2:(K:Int)+2≤(S.size:Int):=O
    have b3:(d:Int)+1≤(t.size:Int):=O
    have b4:Ov.wrap ((K:Int)+2)=(K:Int)+2:=Og _ O
    have b5:Ov.wrap ((d:Int)+1)=(d:Int)+1:=Og _ O
    have b6:(0:Int)≤(K:Int)+2:=O
    have b7:(0:Int)≤(d:Int)+1:=O
    have b8:(3:Int)≤(S.size:Int):=O
    have b9:(2:Int)≤(S.size:Int):=O
    have c1:(K:Int)≤(S.size:Int):=O
    have c3:(d:Int)≤(t.size:Int):=O
    have b':=V s2
    have hm:=u.few
    have L:f≤1073741824:=a0.few
    have c5:S.toList.isEmpty=false:=by
     rw[Pu,List.isEmpty_eq_false_iff]
     intro h
     have h3:=congrArg List.length h
     have h4:S.data.toList.length=S.size:=zv
     rw[h4] at h3
     simp only[List.length_nil] at h3
     omega
    have a4:(⟨(vp R).toArray⟩:Oy).size=TL:=by
     show (vp R).toArray.size=_
     rw[PC,ap]
    have be:TL < S.size:=O
    have an:=V be
    have s:=V u
    have am:Z ((vp R).length≤1099511627776):=V O
    have ag:=V a4
    obtain⟨wB,G⟩:∃wB:Oy,⟨W.toArray⟩=wB:=⟨_,rfl⟩
    rw[G] at x5
    clear u HF a3 ar bo a9 bu ap a6 a7 e1 e2 e3 hS ht hD be a4 s1 s2 hK hd
    go_upto_block 2 with(first
     |(go_at_call 51;with_reducible refine(N _).mono ?_;rintro e w2 ⟨rfl,rfl⟩;clear N)
     |(go_at_call 51;with_reducible refine(M _).mono ?_;rintro e w3 ⟨rfl,rfl⟩;clear M)
     |(go_at_call 52;refine(E _).mono ?_;rintro e w4 ⟨rfl,rfl⟩;clear E)
     |fail)
    clear x1 x2 x3 x4 b1 b2 b4 b6 b8 b9 c1 c3 c5
    have HO:=V a0.ok
    clear a0
    rcases HO.o with⟨hW,hle⟩|⟨hW,h1,T⟩|⟨⟨r,hW⟩,h1,T⟩
    ·have B:wB=⟨#[69,88,73,83,84,83]⟩:=by rw[←G];rw[show W=xS from hW];rfl
     have ca:(m:Int)≤z:=by
      have h3:=s.o.len
      simp only at hle
      omega
     have a2:Z (YZ q ⟨f,W⟩=q++Pi (f - m) 0):=V (by
      have h3:=s.o.len
      rw[←h3]
      exact(by rw[show W=xS from hW];exact QE f q))
     have J:Z (f≤1073741824∧(f:Int)=z):=V ⟨L,hz⟩
     clear hz L H
     rw[B] at x5
     clear G B hW hle HO
     have Q:Z (∃g,Sl wr 3 1 (RO A m c) g m ((q++Pi (m - m) 0).map yJ)∧(∀b,g=some b→w.heap.size≤b)∧Od w w wr):=V ⟨hh,by rw[Nat.sub_self];simpa using s.o.sl,s.o.own,s.o.below⟩
     go_upto_block 3 with(fail)
     go_wp2_with fail
     go_loopw [6] (fun o wx=>∃(p:Nat) (A:OC Addr) (c:Nat),m≤p∧(p:Int)≤z∧o=RO A p c∧Z (∃g,Sl wx 3 1 (RO A p c) g p ((q++Pi (p - m) 0).map yJ)∧(∀b,g=some b→w.heap.size≤b)∧Od w w wx)) (fun o _=>f - lenS o)
     case atStart=>exact⟨m,A,c,Oq _,ca,rfl,Q⟩
     case round=>
      clear Q
      obtain⟨p,A,c,ch,ci,rfl,Q⟩:=hrel
      by_cases cg:(p:Int) < z
      ·obtain⟨g,F,P,a5⟩:=Q.o
       have al:=V F
       have bc:=V P
       have ae:=V a5
       have cf:p≤1073741824:=by have:=J.o;omega
       clear F P a5 Q
       go_wp2_with (first
        |(at_builtin;refine yc rfl _ _ 35 rfl underlying35 hi a' b0 ba rfl zD al.o rfl 1 1 rfl rfl xt yV O ?_;intro v4 h4 w4 av bh br;have c0:=V av;have bx:=V bh;have bz:=V br;obtain⟨A4,c4,rfl,_,_⟩:=av.form;clear av bh br)
        |fail)
       have x:Z (∃g,Sl w4 3 1 (RO A4 (p+1) c4) g (p+1) ((q++Pi (p+1 - m) 0).map yJ)∧(∀b,g=some b→w.heap.size≤b)∧Od w w w4):=V ⟨h4,by
         have h3:=c0.o
         rw[show p+1 - m=(p - m)+1 by omega,List.replicate_succ',←O4,OQ]
         exact h3,fun b hb=>by
         have az:=ae.o.size
         rcases bz.o with h3|⟨g3,h3,h4⟩
         ·exact bc.o b V2
         ·rw[hb] at h3
          injection h3 with h3
          omega,ae.o.trans (bx.o.below ae.o.size fun k hk=>bc.o k yi)⟩
       go_wp2_with fail
       refine⟨?_,by simp[lenS];have:=J.o;omega⟩
       first|exact⟨p+1,A4,c4,O,O,rfl,x⟩|((repeat apply OA);exact⟨⟨p+1,A4,c4,O,O,rfl,x⟩,rfl⟩)
      ·have cb:p=f:=by have:=J.o;omega
       subst cb
       have x:Z (FoO w wr us ls R (RO A p c) p):=V (by
        obtain⟨g,F,P,a5⟩:=Q.o
        have u:=s.o
        have h1:=u.chain.2
        have T:UW (YZ q ⟨p,W⟩) R=UW us ls:=u.run
        rw[a2.o] at h1 T
        exact⟨_,g,a5,F,P,by rw[Oo,List.length_replicate,u.len];omega,h1,T,J.o.1,am.o⟩)
       go_wp2_with fail
       refine⟨?_,by simp only[lenX];rw[ag.o];exact an.o⟩
       first|exact⟨R,A,p,c,rfl,rfl,x⟩|((repeat apply OA);exact⟨⟨R,A,p,c,rfl,rfl,x⟩,rfl⟩)
    ·have B:wB=⟨#[69,88,80,85,78,71,69]⟩:=by rw[←G];rw[show W=xe from hW];rfl
     have a2:Z (YZ q ⟨f,W⟩=q.eraseIdx (f - 1)):=V (by rw[show W=xe from hW];exact JZ f q)
     have v:=s.o.len
     simp only at h1 T
     obtain⟨i,rfl⟩:∃i,f=i+1:=⟨f - 1,O⟩
     have bl:i < m:=O
     have F:=s.o.sl
     obtain⟨b1,o1,cc,c9,bv,au,aq,c7,c6⟩:=F.at_ O
     obtain⟨rfl,_,rfl⟩:=OM bv
     have al:=V F
     have bw:z=(i:Int)+1:=O
     subst bw
     have i1:(1:Int)≤(i:Int)+1:=O
     have i2:(i:Int)+1≤(m:Int):=O
     have i3:(i:Int)≤(c:Int):=O
     have i4:(m:Int)≤(c:Int):=O
     have i5:Ov.wrap (i:Int)=(i:Int):=Og _ O
     have i6:(0:Int)≤(i:Int)+1:=O
     have bm:m≤maxLen:=yV
     have ab:=qZ q
     have bb:=V ab
     rw[B] at x5
     clear G B hW h1 T HO hz L H F c6 bv c7 ab v c9
     go_upto_region 22 with(fail)
     go_region_law (first
      |(refine uV zF (.tmp 87) (.tmp 90) _ zF underlying35 hi a' b0 ba rfl O (al.o.heap zF) bb.o i bl yl yl bm O ?_;intro v2 T w9 aw X bs;obtain⟨ac,ao,rfl,_,_⟩:=aw.form)
      |fail)
     all_goals
      have hc:NH hh.toList wr w9:=⟨X.os,X.tape,X.output,X.size,X.block⟩
      have az:=s.o.below.size
      have x:Z (FoO w w9 us ls R (RO ac (m - 1) ao) (m - 1)):=V (by
       have u:=s.o
       have q1:=u.chain.2
       have q2:UW (YZ q ⟨i+1,W⟩) R=UW us ls:=u.run
       rw[a2.o,Nat.add_sub_cancel] at q1 q2
       refine⟨_,T,u.below.trans (hc.below az fun k hk=>u.own k yi),?_,fun b hb=>?_,?_,q1,q2,O,am.o⟩
       ·rw[List.eraseIdx_eq_take_drop_succ,OQ,List.map_take,List.map_drop]
        simpa using aw
       ·rcases bs with h3|⟨g3,h3,h4⟩
        ·exact u.own b V2
        ·rw[hb] at h3
         injection h3 with h3
         have h5:wr.heap.size≤g3:=h4
         omega
       ·rw[Pq (by rw[u.len];exact bl),u.len])
      clear hc az aw X bs
      rename_i hq1 hq2
      clear hq1 hq2 x5 i1 i2 i3 i4 i5 i6 bm b3 b5 b7 au aq
      change Exit.inBlock 2 _ Exit.normal (Act.put _ (some 6) (RO ac (m - 1) ao)) w9
      simp only[Exit.inBlock,Act.put,List.setIfInBounds_toArray,List.set_cons_succ,List.set_cons_zero]
      go_roundw
      case rel=>
       (repeat apply OA)
       exact⟨⟨R,ac,m - 1,ao,rfl,rfl,x⟩,rfl⟩
      case measure=>
       show (⟨(vp R).toArray⟩:Oy).size < S.size
       rw[ag.o]
       exact an.o
    ·have B:wB.toList=W:=by rw[←G,Pu]
     have n1:(wB.toList==[69,88,73,83,84,83])=false:=by
      rw[B,show W=XL++r from hW]
      rfl
     have n2:(wB.toList==[69,88,80,85,78,71,69])=false:=by
      rw[B,show W=XL++r from hW]
      rfl
     have a2:Z (YZ q ⟨f,W⟩=q):=V (by
      unfold YZ
      rw[Om (show ¬W=xS by rw[show W=XL++r from hW];intro h;cases h),Om (show ¬W=xe by rw[show W=XL++r from hW];intro h;cases h)])
     have v:=s.o.len
     simp only at h1 T
     have j1:(1:Int)≤z:=O
     have j2:z≤(m:Int):=O
     have ce:6≤ww:=by
      rw[←H,show W=XL++r from hW,Oo]
      show 6≤6+r.length
      omega
     have s2:=b'.o
     have j3:(d:Int)+7≤(t.size:Int):=O
     have j4:Ov.wrap ((d:Int)+7)=(d:Int)+7:=Og _ O
     have j5:(d:Int)+1≤(d:Int)+7:=O
     have j6:(0:Int)≤(d:Int)+7:=O
     have x6:t.extract (d+1) (d+7)=⟨#[70,69,84,67,72,32]⟩:=by
      have h3:t.extract (d+1) (d+7)=wB.extract 0 6:=by
       rw[←x5,ByteArray.extract_extract]
       congr 1
       omega
      rw[h3,←G,Ya,show W=XL++r from hW]
      rfl
     have x:Z (FoO w wr us ls R (RO A m c) m):=V (by
      have u:=s.o
      have q1:=u.chain.2
      have q2:UW (YZ q ⟨f,W⟩) R=UW us ls:=u.run
      rw[a2.o] at q1 q2
      exact⟨_,hh,u.below,u.sl,u.own,u.len,q1,q2,u.few,am.o⟩)
     clear G B hW h1 T HO hz L H v s2 ce
     go_wp2_with fail
     refine⟨?_,by simp only[lenX];rw[ag.o];exact an.o⟩
     first|exact⟨R,A,m,c,rfl,rfl,x⟩|((repeat apply OA);exact⟨⟨R,A,m,c,rfl,rfl,x⟩,rfl⟩)
end Go.Proofs.YtnofkliaofgiaaaGreatDoor
