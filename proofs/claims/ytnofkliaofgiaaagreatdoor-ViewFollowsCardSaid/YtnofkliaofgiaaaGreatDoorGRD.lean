/-
  The walk of the reference's Destroy.
-/
import Derived.Test.YtnofkliaofgiaaaGreatDoorGRS
set_option maxRecDepth 100000
set_option maxHeartbeats 8000000
open Go.Proofs.Tryz
open Bool renaming false_eq_true→Px
open Exists renaming intro→OA
open Go renaming Value→Oe,World→Oc
open Go.Ending renaming returned→RR
open Go.IntKind renaming i64→Ov
open Go.IntWalk renaming i64_in→Og
open Go.RowKit renaming Below→Od
open Go.RowKit.Below renaming refl→Ok
open Go.Value renaming pointer→RQ,slice→RO,string→RP
open Go.Value.slice renaming inj→OM
open List renaming getElem_mem→Oj,length_append→Oo,length_eraseIdx_of_lt→Pq,length_map→Ow,mem_map→OL,mem_map_of_mem→OV,take_of_length_le→Ou,take_succ_eq_append_getElem→Oh
open Nat renaming le_refl→Oq,le_trans→Ol,lt_of_lt_of_le→OJ,zero_le→OE
open _root_ renaming List→Ob,Option→OC,if_neg→Om,if_pos→OG
namespace Go.Proofs.YtnofkliaofgiaaaGreatDoor
open Go.Shelf Go.RowKit
attribute [local go_sem ↓] Go.wp_at_zero Go.wp_at_succ
theorem zK.zP {w w':Oc}{g:Nat}{q q':zW}{x:Acc}(h:zK w w' g q x q')(o:Int):zK w w' g q {x with zP:=o} q':=by
 obtain⟨a,b,c⟩:=h
 exact⟨⟨a.blk,a.log,a.zg,a.same,a.zC,a.parts⟩,b,c⟩
def BL (l:Ob zR)(th:Int):Int:=if l.any (fun y=>decide (y.thread=th)) then 2 else 3
theorem BN (l:Ob zR)(th:Int)(k:Nat)(hk:k < l.length):BL (l.take (k+1)) th=if l[k].thread=th then 2 else BL (l.take k) th:=by
 unfold BL
 rw[Oh hk,List.any_append,List.any_cons,List.any_nil,Bool.or_false]
 by_cases a:l[k].thread=th
 ·simp[a]
 ·simp[a]
theorem zJ.chgE {w w':Oc}{g:Nat}{q:zW}{x:Acc}(h:zJ w g q x){v:Oe}{h9:OC Nat}{n:Nat}{xs:Ob Oe}(hs:Sl w 159 4 v h9 n xs)(hn:∀b,h9=some b→b∉q.own g)(hc:NH h9.toList w w'):zJ w' g q x:=by
 rcases hs.2 with⟨rfl,_,_⟩|⟨b,off,cap,cur,rfl,_,hB,_,_,_,_⟩
 ·exact h.later (hc.below (Oq _) zv)
 ·exact h.other hB zD zD (hn b rfl) hc
theorem kH (w:Oc)(g:Nat)(q:zW)(x:Acc)(id:Int)(h:zJ w g q x)(hf:Fit x) :
  C 65 #[Y g 0,I id] w (Zw w g q (yQ x id)):=by
 obtain⟨i0,hi,et,ev,ew⟩:=info_parts Try.infoMail
 obtain⟨j0,hj,ep,er,es⟩:=info_parts Try.infoEntry
 have bv:=hf.zA
 have a1:=hf.N3.mod
 have N:=hf.nb
 have aa:=hf.nm
 have tu:=Xk w g q x id h O
 have G:=ZQ w g q x h hf
 have HS:=V h
 have HF:=V hf
 by_cases Gn:id∈Zb x.zC
 case neg=>
  have dv:Z4 id x.zC= -1:=Vg x.zC (fun t ht=>by
   simp only[decide_eq_false_iff_not]
   exact fun e=>Gn pT)
  have bj:yQ x id=(x,6):=by
   unfold yQ
   exact EH
  rw[bj]
  rw[dv] at tu
  clear bj dv Gn h hf G bv a1 N aa
  go_enter func65,ntmps65
  exact Fm
 rw[←h.same] at Gn
 obtain⟨i,zw,n1,M,n2,n3,ap⟩:=YI Gn
 clear n1 n2 n3
 rw[h.same] at M ap
 rw[M] at tu
 have f9:¬(i:Int) < 0:=O
 have f:yQ x id=(if x.ends=true then (x,11) else ({x with zA:=x.zA+1,zg:=zI (x.zA+1) (q.ms[i].p.zr.map (·.1)) x.zg,zC:=x.zC.eraseIdx i,zP:=x.zP - q.ms[i].p.text.length,log:=x.log.add (zX (x.zA+1) (q.ms[i].p.zr.map (·.1))++[⟨x.zA+1,2,id,3⟩,⟨x.zA+1,3,q.ms[i].p.thread,BL (x.zC.eraseIdx i) q.ms[i].p.thread⟩])},0)):=by
  have em:q.ms[i].p∈x.zC:=by rw[←h.same];exact OV (Oj zw)
  unfold yQ
  simp only[ap,M,Int.toNat_natCast,Q0 (hf.mail _ em).mem.rising,BL]
 obtain⟨m,hm⟩:∃m,q.ms[i]=m:=⟨_,rfl⟩
 have a9:m∈q.ms:=gN
 simp only[hm] at f
 have HM:=V hm
 have Gp:=V a9
 clear hm a9
 obtain⟨rr,c4⟩:∃rr,yQ x id=rr:=⟨_,rfl⟩
 rw[c4] at f ⊢
 cases he:x.ends with
 |true=>
  rw[he] at G f
  simp only[if_true,Bool.not_true] at G f
  have HR:=V f
  clear c4 f ap M Gn h hf bv a1 N aa he
  go_enter func65,ntmps65
  go_wp2_with (first
   |(go_at_call 134;refine tu.mono ?_;rintro e w3 ⟨rfl,rfl⟩;clear tu)
   |(go_at_call 116;refine G.mono ?_;rintro e Q ⟨rfl,ae⟩;have D:=V ae;clear G ae)
   |fail)
  go_ret
  rw[HR.o]
  exact⟨rfl,q,D.o⟩
 |false=>
 rw[he] at G f
 simp only[Px,if_false,Bool.not_false] at G f
 have HR:=V f
 have bb:=h.XC
 obtain⟨nm,dr⟩:∃nm,x.zC.length=nm:=⟨_,rfl⟩
 have El:i < nm:=O
 have f2:nm≤4294967296:=O
 have Em:=V dr
 have f6:=V zw
 have cg:=V bb
 clear c4 f ap M Gn h hf bv a1 N aa he dr bb
 go_enter func65,ntmps65
 go_upto_region 6 with(first
  |(go_at_call 134;refine tu.mono ?_;rintro e w3 ⟨rfl,rfl⟩;clear tu)
  |(go_at_call 116;refine G.mono ?_;rintro e Q ⟨rfl,ae⟩;have D:=V ae;clear G ae)
  |fail)
 obtain⟨b1,o1,c1,c8,db,av,eh,eg,d⟩:=D.o.at_.ud i JF zw
 have am:Q.cell? (Y g 11)=some (RO (some (Y b1 o1)) nm c1):=by
  have:=D.o.at_.xj
  rw[c8] at this
  rw[←Em.o]
  exact this
 rw[HM.o] at d
 have a9:=Gp.o
 have d0:Q.cell? (Y b1 (o1+i * 8))=some (I m.p.id):=(d 0 O).1
 have d1:Q.cell? (Y b1 (o1+i * 8+1))=some (I m.p.thread):=(d 1 O).1
 have d2:Q.cell? (Y b1 (o1+i * 8+2))=some (RP ⟨m.p.text.toArray⟩):=(d 2 O).1
 have d3:Q.cell? (Y b1 (o1+i * 8+3))=some (I m.p.at_):=(d 3 O).1
 have d4:Q.cell? (Y b1 (o1+i * 8+4))=some m.kv:=(d 4 O).1
 have d5:Q.cell? (Y b1 (o1+i * 8+5))=some m.mv:=(d 5 O).1
 have d6:Q.cell? (Y b1 (o1+i * 8+6))=some (I m.p.mod):=(d 6 O).1
 have d7:Q.cell? (Y b1 (o1+i * 8+7))=some (I m.p.born):=(d 7 O).1
 have J:=D.o.at_.parts m a9
 obtain⟨Ak,ck,aq,_,_⟩:=J.keys.form
 obtain⟨Am,cm,au,_,_⟩:=J.mem.form
 rw[aq] at d4
 rw[au] at d5
 obtain⟨lk,dk⟩:∃lk,m.p.keys.length=lk:=⟨_,rfl⟩
 obtain⟨A,b'⟩:∃A,m.p.zr.length=A:=⟨_,rfl⟩
 rw[dk] at d4 aq
 rw[b'] at d5 au
 have ek:(i:Int) < (nm:Int):=O
 have dc:(0:Int)≤(i:Int):=O
 have HP:=V J
 have cu:=V c8
 have f7:=V aq
 have ed:=V au
 have bm:=V b'
 have f5:=V db
 obtain⟨s,c7⟩:∃s,m.p.thread=s:=⟨_,rfl⟩
 have ee:=V c7
 rw[c7] at d1
 clear J a9 c8 aq au b' dk d db c7
 generalize m.p.id=m0 at d0
 generalize m.p.text=m2 at d2
 generalize m.p.at_=m3 at d3
 generalize m.p.mod=m6 at d6
 generalize m.p.born=m7 at d7
 go_upto_region 7 with(fail)
 obtain⟨P,az⟩:∃P:Oc,P=Q.alloc (.cells #[I m0,I s,Oa m2,I m3,RO Ak lk ck,RO Am A cm,I m6,I m7] 83):=⟨_,rfl⟩
 rw[←az]
 have u:NG P Q.heap.size 83 #[I m0,I s,Oa m2,I m3,RO Ak lk ck,RO Am A cm,I m6,I m7]:=by rw[az];exact NG.new _ _ _
 have a7:Od Q Q P:=by rw[az];exact zt _ _
 have en:Q.heap.size < P.heap.size:=u.lt
 obtain⟨B,ao⟩:∃B,B=Q.heap.size:=⟨_,rfl⟩
 have da:B∉q.own g:=fun hm=>by
  have:=D.o.at_.lt B hm
  omega
 have c5:=D.o.at_
 rw[←ao] at u en
 have e0:P.cell? (Y B 0)=some (I m0):=u.cell 0
 have e1:P.cell? (Y B 1)=some (I s):=u.cell 1
 have e2:P.cell? (Y B 2)=some (RP ⟨m2.toArray⟩):=u.cell 2
 have e3:P.cell? (Y B 3)=some (I m3):=u.cell 3
 have e4:P.cell? (Y B 4)=some (RO Ak lk ck):=u.cell 4
 have e5:P.cell? (Y B 5)=some (RO Am A cm):=u.cell 5
 have e6:P.cell? (Y B 6)=some (I m6):=u.cell 6
 have e7:P.cell? (Y B 7)=some (I m7):=u.cell 7
 have Ej:m.p∈x.zC:=bF
 have a1:=HF.o.mail _ Ej
 have c0:m.p.zr.length≤1099511627776:=by
  exact fP
 have N:x.zg.length≤1099511627776:=by
  have h2:=HF.o.nb
  have h3:=HF.o.zA
  have h4:=HF.o.N3.mod
  omega
 have dg:=nX P m0 s m3 m6 m7 ⟨m2.toArray⟩ (RO Ak lk ck) (RO Am A cm) m.p.zr (by rw[←ed.o];exact(HP.o.mem.below a7).sub (fun _ _ _ hm=>by cases hm)) c0
 have ag:∀W v hh,Od P P W→Sl W 3 1 v hh m.p.zr.length ((x9 m.p.zr).map yJ)→(∀b,hh=some b→P.heap.size≤b)→C 133 #[Y g 0,v] W fun e w'=>∃A9 c9 hh,e=RR (RO A9 A c9)∧Sl w' 159 4 (RO A9 A c9) hh A (yR (zX (x.zA+1) (m.p.zr.map (·.1))))∧(∀b,hh=some b→W.heap.size≤b)∧zK W w' g q {x with zA:=x.zA+1,zg:=zI (x.zA+1) (m.p.zr.map (·.1)) x.zg} q:=fun W v hh hb hs ho=>by
  have G:=c5.later (zj a7 hb)
  have hl:(m.p.zr.map (·.1)).length=A:=by rw[Ow];exact bm.o
  have h1:=UF W g q {x with zA:=x.zA+1} G N (m.p.zr.map (·.1)) v (by
   rw[Ow]
   exact hs.reads (q.own g) (fun b hb2 hm=>by
    have h2:=ho b hb2
    have h3:=c5.lt b hm
    have h4:=a7.size
    omega)) (by rw[Ow];exact c0) (fun i hi=>by
   obtain⟨p,hp,rfl⟩:=OL.1 hi
   exact(a1.mem.each p hp).1)
  refine h1.mono ?_
  rintro e w' ⟨v',Cw,rfl,sw,Cv,Cu⟩
  rw[hl] at sw
  exact fQ
 have bl:=V a7
 have b0:=V u
 have ce:=V dg
 have a3:=V ag
 have cc:=V da
 rw[←ao]
 have f4:=V ao
 clear d0 d1 d2 d3 d4 d5 d6 d7 am az u a7 c5 Ej a1 c0 dg ag da ao eg
 go_upto_region 8 with(first
  |(go_at_call 137;refine ce.o.mono ?_;rintro e w8 ⟨v8,h8,rfl,dy,ds,bu⟩;have e8:=a3.o w8 v8 h8 bu dy ds;have an:=V bu;clear dy ds bu)
  |(go_at_call 133;refine e8.mono ?_;rintro e w9 ⟨A9,c9,h9,rfl,d',du,E⟩;have br:=V d';have cn:=V du;have ct:=V E;clear d' du E e8)
  |fail)
 have E:zK w w9 g q {x with zA:=x.zA+1,zg:=zI (x.zA+1) (m.p.zr.map (·.1)) x.zg} q:=
  ((D.o.trans (zK.of_below D.o.at_ (zj bl.o an.o))).trans ct.o)
 have d8:NG w9 B 83 #[I m0,I s,Oa m2,I m3,RO Ak lk ck,RO Am A cm,I m6,I m7]:=((b0.o.N4 (NH.of_below an.o []) zv).N4 ct.o.N4 cc.o)
 have cz:∀b,h9=some b→b∉q.own g:=fun b hb hm=>by
  have h1:=cn.o b hb
  have h2:=D.o.at_.lt b hm
  have h3:=bl.o.size
  have h4:=an.o.size
  omega
 have am:w9.cell? (Y g 11)=some (RO (some (Y b1 o1)) nm c1):=by
  have:=E.at_.xj
  rw[cu.o] at this
  rw[←Em.o]
  exact this
 have cy:w9.frozen? (Y g 11)=false:=E.at_.frozen 11
 have dq:Sl w9 83 8 (RO (some (Y b1 o1)) nm c1) q.hm nm (zU xV q.ms):=by
  have h1:=E.at_.zC
  rw[cu.o] at h1
  have h2:x.zC.length=nm:=Em.o
  simp only[h2] at h1
  exact h1
 have bi:=wj E.at_
 have bx:g∉q.hm.toList:=fun hm=>E.at_.apart.hm yT
 have bw:g < w9.heap.size:=E.at_.blk.lt
 have ei:(i:Int)≤(c1:Int):=by
  have:nm≤c1:=by rw[←Em.o];exact av
  omega
 have df:(nm:Int)≤(c1:Int):=by
  have:nm≤c1:=by rw[←Em.o];exact av
  omega
 have ej:Ov.wrap ((i:Int)+1)=(i:Int)+1:=Og _ O
 have dd:(i:Int)+1≤(nm:Int):=O
 have de:(0:Int)≤(i:Int)+1:=O
 have bd:nm≤maxLen:=by
  have:nm≤c1:=by rw[←Em.o];exact av
  omega
 have a2:=V E
 have cb:=V d8
 have bo:=V cz
 have cj:=V dq
 have b4:=V bi
 clear E d8 cz dq bi a3 ce b0 eh av e0 e1 e2 e3 e4 e5 e6 e7
 go_cut [] (fun wx=>∃q',Z (zK w9 wx g q {x with zA:=x.zA+1,zg:=zI (x.zA+1) (m.p.zr.map (·.1)) x.zg,zC:=x.zC.eraseIdx i} q'))
 case first=>
  go_region_law (first
   |(refine uV zF (.tmp 36) (.tmp 43) _ zF underlying117 hi et ev ew rfl O (cj.o.heap zF) b4.o i El yl yl bd O ?_;intro v2 h2 y ac r be;obtain⟨ea,cx,rfl,_,_⟩:=ac.form;have fg:y.cell? (Y g 11)=some (RO (some (Y b1 o1)) nm c1):=(r.cell (p:=⟨g,11,none⟩) bw bx).trans am;have f8:y.frozen? (Y g 11)=false:=(r.frozen (p:=⟨g,11,none⟩) bw bx).trans cy)
   |fail)
  all_goals
   have ab:=a2.o.at_.Lj (q.ms.eraseIdx i) (v':=RO ea (nm - 1) cx) (h':=h2) (w':=y) (fun a ha=>a2.o.at_.parts a (List.mem_of_mem_eraseIdx ha)) (by
    have ar:q.ms.length=nm:=cg.o.trans Em.o
    rw[Pq (by rw[ar];exact El),Za xr,ar]
    exact ac) ⟨r.os,r.tape,r.output,r.size,r.block⟩ be
   rw[Ux,HS.o.same] at ab
   have b5:=V ab
   clear ab ac r be
   go_wp2_with fail
   go_meet
   exact⟨_,b5⟩
   all_goals
    go_meet
    exact⟨_,b5⟩
 case rest=>
  obtain⟨q',j⟩:=hcut
  obtain⟨y,rfl⟩:∃y:Oc,y=wc:=⟨_,rfl⟩
  clear am cy bx bw cj b4 ei df ej dd de bd ek dc
  obtain⟨x3,al⟩:∃x3:Acc,x3={x with zA:=x.zA+1,zg:=zI (x.zA+1) (m.p.zr.map (·.1)) x.zg,zC:=x.zC.eraseIdx i}:=⟨_,rfl⟩
  rw[←al] at j
  have b6:NG y B 83 #[I m0,I s,Oa m2,I m3,RO Ak lk ck,RO Am A cm,I m6,I m7]:=cb.o.N4 j.o.N4 cc.o
  have b7:Sl y 159 4 (RO A9 A c9) h9 A (yR (zX (x.zA+1) (m.p.zr.map (·.1)))):=br.o.N4 j.o.N4 bo.o
  have c':∀b,h9=some b→b∉q'.own g:=fun b hb hm=>by
   rcases j.o.own b hm with h1|h1
   ·exact bo.o b hb h1
   ·have:=br.o.lt b hb
    omega
  obtain⟨rest,F⟩:∃rest,x.zC.eraseIdx i=rest:=⟨_,rfl⟩
  have c3:x3.zC=rest:=by rw[al,←F]
  have bc:x3.zA=x.zA+1:=by rw[al]
  rw[F] at HR
  obtain⟨nr,aw⟩:∃nr,rest.length=nr:=⟨_,rfl⟩
  have f3:nr≤4294967296:=by
   rw[←aw,←F,Pq (by rw[Em.o];omega),Em.o]
   omega
  obtain⟨Ar,cr,ca,_,_⟩:=j.o.at_.zC.form
  rw[c3,aw] at ca
  have bp:=V F
  have cw:=V al
  have S:=V b6
  have co:=V b7
  have b3:=V c'
  have ci:=V c3
  have ch:=V bc
  have cl:=V aw
  have cv:=V ca
  clear al b6 b7 c' F c3 bc aw ca br cb bo
  go_upto_block 0 with(fail)
  go_cut [8] (fun v wx=>∃n:Nat,v=I (BL rest s)∧Z (wx=y.drewN n))
  case first=>
   go_wp2_with fail
   go_loopw [8,9] (fun hw iv wr=>∃(k n:Nat) (z:Int),k≤nr∧hw=I z∧iv=I k∧Z (z=BL (rest.take k) s)∧Z (wr=y.drewN n)) (fun _ iv _=>nr - (intOf iv).toNat)
   case atStart=>exact⟨0,0,3,OE _,rfl,rfl,V rfl,V rfl⟩
   case round=>
    obtain⟨k,n,z,hk,rfl,rfl,HZ,HW⟩:=hrel
    have am:wr.cell? (Y g 11)=some (RO Ar nr cr):=by
     rw[HW.o]
     exact j.o.at_.xj.trans (by rw[cv.o])
    by_cases el:k < nr
    ·have dl:(k:Int) < (nr:Int):=O
     have fa:(0:Int)≤(k:Int):=O
     have dj:k < rest.length:=by rw[cl.o];exact el
     have fb:Ov.wrap ((k:Int)+1)=(k:Int)+1:=Og _ O
     obtain⟨b2,o2,c2,ex,e9,_,_,dp,ba⟩:=j.o.at_.U8 k (by rw[ci.o];exact dj)
     have eo:=(OM (cv.o.symm.trans e9)).1
     subst eo
     obtain⟨t,ht⟩:∃t,ex.p.thread=t:=⟨_,rfl⟩
     have dt:wr.cell? (Y b2 (o2+k * 8+1))=some (I t):=by
      rw[HW.o,←ht]
      exact(ba 1 O).1
     have e1:wr.cell? (Y B 1)=some (I s):=by
      rw[HW.o]
      exact S.o.cell 1
     have c6:=BN rest s k dj
     have dx:rest[k].thread=t:=by
      rw[←ht,dp]
      simp only[ci.o]
     rw[dx,←HZ.o] at c6
     have cp:=V c6
     clear e9 dp ba ht c6 dx
     by_cases hc:t=s
     ·have f1:(t==s)=true:=vM
      have R:Z ((2:Int)=BL (rest.take (k+1)) s):=V (by rw[cp.o,OG hc])
      clear hc
      go_wp2_with fail
      go_quiet (fail)
      go_wp2_with fail
      have a4:Z (wr.drewN nq=y.drewN (n+nq)):=V JG
      refine⟨?_,zV⟩
      first|exact⟨k+1,_,2,O,zE,zE,R,a4⟩|((repeat apply OA);exact⟨⟨k+1,_,2,O,zE,zE,R,a4⟩,rfl⟩)
     ·have f1:(t==s)=false:=vM
      have R:Z (z=BL (rest.take (k+1)) s):=V (by rw[cp.o,Om hc])
      clear hc
      go_wp2_with fail
      go_quiet (fail)
      go_wp2_with fail
      have a4:Z (wr.drewN nq=y.drewN (n+nq)):=V JG
      refine⟨?_,zV⟩
      first|exact⟨k+1,_,z,O,zE,zE,R,a4⟩|((repeat apply OA);exact⟨⟨k+1,_,z,O,zE,zE,R,a4⟩,rfl⟩)
    ·have dl:¬(k:Int) < (nr:Int):=O
     have R:Z (z=BL rest s):=V (by
      rw[HZ.o,Ou (by rw[cl.o];omega)])
     go_wp2_with fail
     go_meet
     exact⟨n,by rw[R.o],HW⟩
  case rest=>
   obtain⟨n,rfl,HW⟩:=hcut
   obtain⟨c,rfl⟩:∃c:Oc,c=wc:=⟨_,rfl⟩
   have a5:zK w c g q x3 q':=(a2.o.trans j.o).trans (zK.of_below j.o.at_ (by rw[HW.o];exact zO (Ok _ _) _))
   have hK:∀W,Od c c W→W.cell? (Y B 1)=some (I s):=fun W hb=>by
    have h1:c.cell? (Y B 1)=some (I s):=by rw[HW.o];exact S.o.cell 1
    have h2:B < c.heap.size:=by rw[HW.o];exact S.o.lt
    exact(hb.cell (p:=⟨B,1,none⟩) h2).trans h1
   have hS:∀W,Od c c W→Sl W 159 4 (RO A9 A c9) h9 A (yR (zX (x.zA+1) (m.p.zr.map (·.1)))):=fun W hb=>by
    have h1:Sl c 159 4 (RO A9 A c9) h9 A (yR (zX (x.zA+1) (m.p.zr.map (·.1)))):=co.o.heap (by rw[HW.o];rfl)
    exact h1.N4 (NH.of_below hb []) zv
   have hE:∀W,Od c c W→∀k i h,C 118 #[Y g 0,I k,I i,I h] W fun e w'=>e=RR (.agg #[I (x.zA+1),I k,I i,I h])∧Od W W w':=fun W hb k i h=>by
    have h0:=Zm W g q' x3 k i h (a5.at_.later hb)
    rw[ch.o] at h0
    exact h0
   have bt:∀b,h9=some b→b≠B∧w.heap.size≤b:=fun b hb=>by
    have h1:=cn.o b hb
    have h2:=an.o.size
    have h3:=bl.o.size
    have h4:=D.o.N4.size
    omega
   have f0:A≤4294967296:=by
    have Ej:m.p∈x.zC:=bF
    have h1:=HF.o.lW Ej
    have h2:=HF.o.nb
    have h3:=HF.o.zA
    have h4:=HF.o.N3.mod
    have h5:=bm.o
    omega
   obtain⟨hw,bz⟩:∃hw,BL rest s=hw:=⟨_,rfl⟩
   have k1:=hK c (Ok _ _)
   have ef:B < c.heap.size:=by rw[HW.o];exact S.o.lt
   have d9:B∉h9.toList:=fun hm=>(bt B yT).1 rfl
   have T:=V a5
   have HK:=V hK
   have bs:=V hS
   have HE:=V hE
   have eb:=V bt
   have ec:=V bz
   rw[bz]
   clear a5 hK hS hE bt bz HW
   go_upto_region 15 with(fail)
   go_cut [7] (fun v wx=>∃X a0 H,v=RO X (A+2) a0∧Z (Sl wx 159 4 (RO X (A+2) a0) H (A+2) (yR (zX (x.zA+1) (m.p.zr.map (·.1))++[⟨x.zA+1,2,id,3⟩,⟨x.zA+1,3,s,hw⟩]))∧NH h9.toList c wx∧(H=h9∨∃b,H=some b∧c.heap.size≤b)))
   case first=>
    go_region_held3 (fun W=>W.cell? (Y B 1)=some (I s))
     (first
      |exact cf.o
      |exact HK.o _ (zj l.o (zt _ _))
      |exact HK.o _ l.o
      |exact HK.o _ tq.o
      |exact HK.o _ (zj tq.o (zG _))
      |exact HK.o _ (Ok _ _)
      |exact HK.o _ (zG _)
      |go_keep)
     (first
      |(go_at_call 118;refine(HE.o _ Ka _ _ _).mono ?_;rintro e a' ⟨rfl,Cx⟩;have l:Z (Od c c a'):=V Kb;have kk:=HK.o _ l.o;have fc:=World.new_ne a' _ kk;clear Cx)
      |(go_at_call 118;refine(HE.o _ uO _ _ _).mono ?_;rintro e ez ⟨rfl,a6⟩;have tq:Z (Od c c ez):=V (by first|exact a6|exact zj (zG c) a6);clear a6)
      |(refine ye _ zF (.tmp 67) (.tmp 76) _ zF underlying156 hj ep er es rfl O (bs.o _ (zj l.o (zt _ _))) yl a'.heap.size #[I (x.zA+1),I 2,I id,I 3,I (x.zA+1),I 3,I s,I hw] (e':=159) (fr:=(0,0)) (heap_alloc_new a' _) 2 2 yl zF xt yV O ?_;intro v2 H L ad a8 bh;obtain⟨X,a0,rfl,_,_⟩:=ad.form;have cf:Z (L.cell? (Y B 1)=some (I s)):=V ((a8.cell (p:=⟨B,1,none⟩) (OJ ef (zj l.o (zt _ _)).size) d9).trans (HK.o _ (zj l.o (zt _ _)))))
      |fail)
    all_goals
     have cd:Z (Sl L 159 4 (RO X (A+2) a0) H (A+2) (yR (zX (x.zA+1) (m.p.zr.map (·.1))++[⟨x.zA+1,2,id,3⟩,⟨x.zA+1,3,s,hw⟩]))∧NH h9.toList c L∧(H=h9∨∃b,H=some b∧c.heap.size≤b)):=V ⟨by
      rw[vB]
      exact ad,(NH.of_below (zj l.o (zt _ _)) _).trans a8 (fun i hi=>.inl hi),by
      rcases bh with h1|⟨b,h1,h2⟩
      ·exact .inl h1
      ·exact .inr ⟨b,h1,Ol (zj l.o (zt _ _)).size h2⟩⟩
     clear ad a8 bh
     go_wp2_with fail
     go_meet
     exact⟨X,a0,H,rfl,cd⟩
   case rest=>
    obtain⟨X,a0,H,rfl,U⟩:=hcut
    obtain⟨L,rfl⟩:∃L:Oc,L=wc:=⟨_,rfl⟩
    have K:zJ L g q' x3:=zJ.chgE T.o.at_ (bs.o c (Ok _ _)) b3.o U.o.2.1
    have b8:zK w L g q x3 q':=⟨K,T.o.N4.trans U.o.2.1 (fun k hk=>.inr ((eb.o k yi).2)),T.o.own⟩
    have En:x3.log=x.log:=by rw[cw.o]
    have bq:=HF.o.log
    have ar:=HF.o.N3.log
    have b9:=XZ K JH JH (by rw[En];omega) U.o.1 (by
     rw[Oo,xP,Ow,bm.o]
     rfl) O (fun b hb hm=>by
     rcases U.o.2.2 with h1|⟨b2,h1,h2⟩
     ·exact b3.o b X8 hm
     ·rw[h1] at hb
      injection hb with hb
      have:=T.o.at_.lt b hm
      omega)
    have fd:L.cell? (Y g 12)=some (RQ (some (Y q'.gl 0))):=K.xp
    have cq:=V b8
    clear K b8 En bq ar k1 HK bs HE
    go_wp2_with (first
     |(go_at_call 117;refine b9.mono ?_;rintro e ff ⟨rfl,ey,_,bk⟩;have cs:=V bk;clear bk b9)
     |fail)
    go_ret
    have hR:=HR.o
    rw[ee.o,ec.o,←bp.o] at hR
    rw[hR]
    have h1:=(cq.o.trans cs.o).zP (x.zP - m.p.text.length)
    rw[cw.o] at h1
    exact⟨rfl,ey,h1⟩
end Go.Proofs.YtnofkliaofgiaaaGreatDoor
