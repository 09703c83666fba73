/-
  The walk of the reference's Destroy.
-/
import Derived.Test.YtfhlhdmhgheonaaGreatDoorGRS
set_option maxRecDepth 100000
set_option maxHeartbeats 8000000
namespace Go.Proofs.YtfhlhdmhgheonaaGreatDoor
open Go.Shelf Go.RowKit
attribute [local go_sem ↓] Go.wp_at_zero Go.wp_at_succ
theorem ze.octets {w w':World}{g:Nat}{q q':zl}{x:Acc}(h:ze w w' g q x q')(o:Int):ze w w' g q {x with octets:=o} q':=by
 obtain⟨a,b,c⟩:=h
 exact⟨⟨a.blk,a.log,a.boxes,a.same,a.mails,a.parts⟩,b,c⟩
def zdB (l:List zX)(th:Int):Int:=if l.any (fun y=>decide (y.thread=th)) then 2 else 3
theorem zcW (l:List zX)(th:Int)(k:Nat)(hk:k < l.length):zdB (l.take (k+1)) th=if l[k].thread=th then 2 else zdB (l.take k) th:=by
 unfold zdB
 rw[List.take_succ_eq_append_getElem hk,List.any_append,List.any_cons,List.any_nil,Bool.or_false]
 by_cases a:l[k].thread=th
 ·simp[a]
 ·simp[a]
theorem zi.chgE {w w':World}{g:Nat}{q:zl}{x:Acc}(h:zi w g q x){v:Value}{h9:Option Nat}{n:Nat}{xs:List Value}(hs:Sl w 177 4 v h9 n xs)(hn:∀b,h9=some b→b∉q.own g)(hc:Chg h9.toList w w'):zi w' g q x:=by
 rcases hs.2 with⟨rfl,_,_⟩|⟨b,off,cap,cur,rfl,_,hB,_,_,_,_⟩
 ·exact h.later (hc.below (Nat.le_refl _) (by simp))
 ·exact h.other hB (by decide) (by decide) (hn b rfl) hc
theorem JV (w:World)(g:Nat)(q:zl)(x:Acc)(id:Int)(h:zi w g q x)(hf:Fit x) :
  Calls Tryz.prog 56 #[.pointer (some ⟨g,0,none⟩),.int .i64 id] w (uh w g q (yh x id)):=by
 obtain⟨i0,hi,ed,ee,ef⟩:=info_parts Try.infoMail
 obtain⟨j0,hj,eg,eh,ei⟩:=info_parts Try.infoEntry
 have bg:=hf.clock
 have Z:=hf.cfg.mod
 have O:=hf.nb
 have a2:=hf.nm
 have o:=YQ w g q x id h (by omega)
 have D:=uI w g q x h hf
 have HS:=zdG h
 have T:=zdG hf
 by_cases G:id∈vw x.mails
 case neg=>
  have c7:Yi id x.mails= -1:=Yy x.mails (fun t ht=>by
   simp only[decide_eq_false_iff_not]
   exact fun e=>G (by rw[←e];exact List.mem_map_of_mem (List.getElem_mem ht)))
  have ay:yh x id=(x,6):=by
   unfold yh
   rw[show x.mails.find? (fun m=>decide (m.id=id))=none from List.find?_eq_none.2 (fun m hm hd=>G (by
    have:m.id=id:=by simpa using hd
    rw[←this]
    exact List.mem_map_of_mem hm))]
  rw[ay]
  rw[c7] at o
  clear ay c7 G h hf D bg Z O a2
  go_enter Tryz.func56,Tryz.ntmps56
  go_wp2_with (first
   |(go_at_call 130;refine o.mono ?_;rintro e w3 ⟨rfl,rfl⟩;clear o)
   |fail)
  go_ret
  exact⟨rfl,q,ze.refl HS.out⟩
 rw[←h.same] at G
 obtain⟨i,an,n1,P,n2,n3,ao⟩:=Zh G
 clear n1 n2 n3
 rw[h.same] at P ao
 rw[P] at o
 have ew:¬(i:Int) < 0:=by omega
 have d:yh x id=(if x.ends=true then (x,11) else ({x with clock:=x.clock+1,boxes:=zf (x.clock+1) (q.ms[i].p.members.map (·.1)) x.boxes,mails:=x.mails.eraseIdx i,octets:=x.octets - q.ms[i].p.text.length,log:=x.log.add (zn (x.clock+1) (q.ms[i].p.members.map (·.1))++[⟨x.clock+1,2,id,3⟩,⟨x.clock+1,3,q.ms[i].p.thread,zdB (x.mails.eraseIdx i) q.ms[i].p.thread⟩])},0)):=by
  have du:q.ms[i].p∈x.mails:=by rw[←h.same];exact List.mem_map_of_mem (List.getElem_mem an)
  unfold yh
  simp only[ao,P,Int.toNat_natCast,X8 (hf.mail _ du).mem.rising,zdB]
 obtain⟨m,hm⟩:∃m,q.ms[i]=m:=⟨_,rfl⟩
 have a3:m∈q.ms:=by rw[←hm];exact List.getElem_mem an
 simp only[hm] at d
 have HM:=zdG hm
 have bh:=zdG a3
 clear hm a3
 obtain⟨rr,bx⟩:∃rr,yh x id=rr:=⟨_,rfl⟩
 rw[bx] at d ⊢
 cases he:x.ends with
 |true=>
  rw[he] at D d
  simp only[if_true,Bool.not_true] at D d
  have HR:=zdG d
  clear bx d ao P G h hf bg Z O a2 he
  go_enter Tryz.func56,Tryz.ntmps56
  go_wp2_with (first
   |(go_at_call 130;refine o.mono ?_;rintro e w3 ⟨rfl,rfl⟩;clear o)
   |(go_at_call 107;refine D.mono ?_;rintro e R ⟨rfl,ad⟩;have E:=zdG ad;clear D ad)
   |fail)
  go_ret
  rw[HR.out]
  exact⟨rfl,q,E.out⟩
 |false=>
 rw[he] at D d
 simp only[Bool.false_eq_true,if_false,Bool.not_false] at D d
 have HR:=zdG d
 have az:=h.Za
 obtain⟨nm,di⟩:∃nm,x.mails.length=nm:=⟨_,rfl⟩
 have bi:i < nm:=by omega
 have et:nm≤4294967296:=by omega
 have I:=zdG di
 have ex:=zdG an
 have c8:=zdG az
 clear bx d ao P G h hf bg Z O a2 he di az
 go_enter Tryz.func56,Tryz.ntmps56
 go_upto_region 6 with(first
  |(go_at_call 130;refine o.mono ?_;rintro e w3 ⟨rfl,rfl⟩;clear o)
  |(go_at_call 107;refine D.mono ?_;rintro e R ⟨rfl,ad⟩;have E:=zdG ad;clear D ad)
  |fail)
 obtain⟨b1,o1,c1,bz,dj,ap,ej,ek,f⟩:=E.out.at_.xu i (by rw[I.out];exact bi) an
 have a4:R.cell? ⟨g,11,none⟩=some (.slice (some ⟨b1,o1,none⟩) nm c1):=by
  have:=E.out.at_.zU
  rw[bz] at this
  rw[←I.out]
  exact this
 rw[HM.out] at f
 have a3:=bh.out
 have d0:R.cell? ⟨b1,o1+i * 8,none⟩=some (.int .i64 m.p.id):=(f 0 (by omega)).1
 have d1:R.cell? ⟨b1,o1+i * 8+1,none⟩=some (.int .i64 m.p.thread):=(f 1 (by omega)).1
 have d2:R.cell? ⟨b1,o1+i * 8+2,none⟩=some (.string ⟨m.p.text.toArray⟩):=(f 2 (by omega)).1
 have d3:R.cell? ⟨b1,o1+i * 8+3,none⟩=some (.int .i64 m.p.at_):=(f 3 (by omega)).1
 have d4:R.cell? ⟨b1,o1+i * 8+4,none⟩=some m.kv:=(f 4 (by omega)).1
 have d5:R.cell? ⟨b1,o1+i * 8+5,none⟩=some m.mv:=(f 5 (by omega)).1
 have d6:R.cell? ⟨b1,o1+i * 8+6,none⟩=some (.int .i64 m.p.mod):=(f 6 (by omega)).1
 have d7:R.cell? ⟨b1,o1+i * 8+7,none⟩=some (.int .i64 m.p.born):=(f 7 (by omega)).1
 have K:=E.out.at_.parts m a3
 obtain⟨Ak,ck,aq,_,_⟩:=K.keys.form
 obtain⟨Am,cm,ar,_,_⟩:=K.mem.form
 rw[aq] at d4
 rw[ar] at d5
 obtain⟨lk,dk⟩:∃lk,m.p.keys.length=lk:=⟨_,rfl⟩
 obtain⟨C,b'⟩:∃C,m.p.members.length=C:=⟨_,rfl⟩
 rw[dk] at d4 aq
 rw[b'] at d5 ar
 have dv:(i:Int) < (nm:Int):=by omega
 have ca:(0:Int)≤(i:Int):=by omega
 have HP:=zdG K
 have cb:=zdG bz
 have ey:=zdG aq
 have dw:=zdG ar
 have bj:=zdG b'
 have ez:=zdG dj
 obtain⟨s,c0⟩:∃s,m.p.thread=s:=⟨_,rfl⟩
 have dx:=zdG c0
 rw[c0] at d1
 clear K a3 bz aq ar b' dk f dj c0
 generalize m.p.id=m0 at d0
 generalize m.p.text=m2 at d2
 generalize m.p.at_=m3 at d3
 generalize m.p.mod=m6 at d6
 generalize m.p.born=m7 at d7
 go_upto_region 7 with(fail)
 obtain⟨Q,au⟩:∃Q:World,Q=R.alloc (.cells #[.int .i64 m0,.int .i64 s,.string ⟨m2.toArray⟩,.int .i64 m3,.slice Ak lk ck,.slice Am C cm,.int .i64 m6,.int .i64 m7] 54):=⟨_,rfl⟩
 rw[←au]
 have y:Blk Q R.heap.size 54 #[.int .i64 m0,.int .i64 s,.string ⟨m2.toArray⟩,.int .i64 m3,.slice Ak lk ck,.slice Am C cm,.int .i64 m6,.int .i64 m7]:=by rw[au];exact Blk.new _ _ _
 have a5:Below R.heap.size R Q:=by rw[au];exact below_alloc1 _ _
 have dy:R.heap.size < Q.heap.size:=y.lt
 obtain⟨B,av⟩:∃B,B=R.heap.size:=⟨_,rfl⟩
 have cc:B∉q.own g:=fun hm=>by
  have:=E.out.at_.lt B hm
  omega
 have bk:=E.out.at_
 rw[←av] at y dy
 have e0:Q.cell? ⟨B,0,none⟩=some (.int .i64 m0):=y.cell 0
 have e1:Q.cell? ⟨B,1,none⟩=some (.int .i64 s):=y.cell 1
 have e2:Q.cell? ⟨B,2,none⟩=some (.string ⟨m2.toArray⟩):=y.cell 2
 have e3:Q.cell? ⟨B,3,none⟩=some (.int .i64 m3):=y.cell 3
 have e4:Q.cell? ⟨B,4,none⟩=some (.slice Ak lk ck):=y.cell 4
 have e5:Q.cell? ⟨B,5,none⟩=some (.slice Am C cm):=y.cell 5
 have e6:Q.cell? ⟨B,6,none⟩=some (.int .i64 m6):=y.cell 6
 have e7:Q.cell? ⟨B,7,none⟩=some (.int .i64 m7):=y.cell 7
 have a6:m.p∈x.mails:=by rw[←HS.out.same];exact List.mem_map_of_mem bh.out
 have Z:=T.out.mail _ a6
 have bl:m.p.members.length≤1099511627776:=by
  have l:=T.out.Jp a6
  have U:=T.out.nb
  have h3:=T.out.clock
  have h4:=T.out.cfg.mod
  omega
 have O:x.boxes.length≤1099511627776:=by
  have U:=T.out.nb
  have h3:=T.out.clock
  have h4:=T.out.cfg.mod
  omega
 have cd:=QT Q m0 s m3 m6 m7 ⟨m2.toArray⟩ (.slice Ak lk ck) (.slice Am C cm) m.p.members (by rw[←dw.out];exact(HP.out.mem.below a5).sub (fun _ _ _ hm=>by cases hm)) bl
 have a7:∀W v hh,Below Q.heap.size Q W→Sl W 3 1 v hh m.p.members.length ((yF m.p.members).map encI)→(∀b,hh=some b→Q.heap.size≤b)→Calls Tryz.prog 125 #[.pointer (some ⟨g,0,none⟩),v] W fun e w'=>∃A9 c9 hh,e=.returned (.slice A9 C c9)∧Sl w' 177 4 (.slice A9 C c9) hh C (zM (zn (x.clock+1) (m.p.members.map (·.1))))∧(∀b,hh=some b→W.heap.size≤b)∧ze W w' g q {x with clock:=x.clock+1,boxes:=zf (x.clock+1) (m.p.members.map (·.1)) x.boxes} q:=fun W v hh hb hs ho=>by
  have D:=bk.later (za a5 hb)
  have hl:(m.p.members.map (·.1)).length=C:=by rw[List.length_map];exact bj.out
  have l:=Xc W g q {x with clock:=x.clock+1} D O (m.p.members.map (·.1)) v (by
   rw[List.length_map]
   exact hs.reads (q.own g) (fun b hb2 hm=>by
    have U:=ho b hb2
    have h3:=bk.lt b hm
    have h4:=a5.size
    omega)) (by rw[List.length_map];exact bl) (fun i hi=>by
   obtain⟨p,hp,rfl⟩:=List.mem_map.1 hi
   exact(Z.mem.each p hp).1)
  refine l.mono ?_
  rintro e w' ⟨v',el,rfl,c3,em,en⟩
  rw[hl] at c3
  obtain⟨A9,c9,rfl,_,_⟩:=c3.form
  exact⟨A9,c9,el,rfl,c3,em,en⟩
 have bm:=zdG a5
 have a':=zdG y
 have ce:=zdG cd
 have a8:=zdG a7
 have cf:=zdG cc
 rw[←av]
 have f0:=zdG av
 clear d0 d1 d2 d3 d4 d5 d6 d7 a4 au y a5 bk a6 Z bl cd a7 cc av ek
 go_upto_region 8 with(first
  |(go_at_call 133;refine ce.out.mono ?_;rintro e w8 ⟨v8,h8,rfl,dl,dm,c4⟩;have cg:=a8.out w8 v8 h8 c4 dl dm;have ak:=zdG c4;clear dl dm c4)
  |(go_at_call 125;refine cg.mono ?_;rintro e w9 ⟨A9,c9,h9,rfl,dn,dp,F⟩;have bn:=zdG dn;have ch:=zdG dp;have ci:=zdG F;clear dn dp F cg)
  |fail)
 have F:ze w w9 g q {x with clock:=x.clock+1,boxes:=zf (x.clock+1) (m.p.members.map (·.1)) x.boxes} q:=
  ((E.out.trans (ze.of_below E.out.at_ (za bm.out ak.out))).trans ci.out)
 have cj:Blk w9 B 54 #[.int .i64 m0,.int .i64 s,.string ⟨m2.toArray⟩,.int .i64 m3,.slice Ak lk ck,.slice Am C cm,.int .i64 m6,.int .i64 m7]:=((a'.out.chg (Chg.of_below ak.out []) (by simp)).chg ci.out.chg cf.out)
 have cl:∀b,h9=some b→b∉q.own g:=fun b hb hm=>by
  have l:=ch.out b hb
  have U:=E.out.at_.lt b hm
  have h3:=bm.out.size
  have h4:=ak.out.size
  omega
 have a4:w9.cell? ⟨g,11,none⟩=some (.slice (some ⟨b1,o1,none⟩) nm c1):=by
  have:=F.at_.zU
  rw[cb.out] at this
  rw[←I.out]
  exact this
 have cn:w9.frozen? ⟨g,11,none⟩=false:=F.at_.frozen 11
 have co:Sl w9 54 8 (.slice (some ⟨b1,o1,none⟩) nm c1) q.hm nm (zk xP q.ms):=by
  have l:=F.at_.mails
  rw[cb.out] at l
  have U:x.mails.length=nm:=I.out
  simp only[U] at l
  exact l
 have b0:=zbw F.at_
 have bo:g∉q.hm.toList:=fun hm=>F.at_.apart.hm (by simpa using hm)
 have bp:g < w9.heap.size:=F.at_.blk.lt
 have dz:(i:Int)≤(c1:Int):=by
  have:nm≤c1:=by rw[←I.out];exact ap
  omega
 have cp:(nm:Int)≤(c1:Int):=by
  have:nm≤c1:=by rw[←I.out];exact ap
  omega
 have d':IntKind.i64.wrap ((i:Int)+1)=(i:Int)+1:=IntWalk.i64_in _ (by omega)
 have cq:(i:Int)+1≤(nm:Int):=by omega
 have cs:(0:Int)≤(i:Int)+1:=by omega
 have b3:nm≤maxLen:=by
  have:nm≤c1:=by rw[←I.out];exact ap
  omega
 have a9:=zdG F
 have ct:=zdG cj
 have bq:=zdG cl
 have cu:=zdG co
 have b4:=zdG b0
 clear F cj cl co b0 a8 ce a' ej ap e0 e1 e2 e3 e4 e5 e6 e7
 go_cut [] (fun wx=>∃q',Hid (ze w9 wx g q {x with clock:=x.clock+1,boxes:=zf (x.clock+1) (m.p.members.map (·.1)) x.boxes,mails:=x.mails.eraseIdx i} q'))
 case first=>
  go_region_law (first
   |(refine Z9 (by rfl) (.tmp 36) (.tmp 43) _ (by rfl) Tryz.underlying43 hi ed ee ef rfl (by omega) (cu.out.heap (by rfl)) b4.out i bi (by first|(simp[Act.eval];done)|simp[Act.eval,Act.put]) (by first|(simp[Act.eval];done)|simp[Act.eval,Act.put]) b3 (by omega) ?_;intro v2 U A ae u bc;obtain⟨eo,dq,rfl,_,_⟩:=ae.form;have f2:A.cell? ⟨g,11,none⟩=some (.slice (some ⟨b1,o1,none⟩) nm c1):=(u.cell (p:=⟨g,11,none⟩) bp bo).trans a4;have f3:A.frozen? ⟨g,11,none⟩=false:=(u.frozen (p:=⟨g,11,none⟩) bp bo).trans cn)
   |fail)
  all_goals
   have aa:=a9.out.at_.putMails (q.ms.eraseIdx i) (v':=.slice eo (nm - 1) dq) (h':=U) (w':=A) (fun a ha=>a9.out.at_.parts a (List.mem_of_mem_eraseIdx ha)) (by
    have al:q.ms.length=nm:=c8.out.trans I.out
    rw[List.length_eraseIdx_of_lt (by rw[al];exact bi),uY z8,al]
    exact ae) ⟨u.os,u.tape,u.output,u.size,u.block⟩ bc
   rw[X5,HS.out.same] at aa
   have b5:=zdG aa
   clear aa ae u bc
   go_wp2_with fail
   go_meet
   exact⟨_,b5⟩
   all_goals
    go_meet
    exact⟨_,b5⟩
 case rest=>
  obtain⟨q',j⟩:=hcut
  obtain⟨A,rfl⟩:∃A:World,A=wc:=⟨_,rfl⟩
  clear a4 cn bo bp cu b4 dz cp d' cq cs b3 dv ca
  obtain⟨x3,af⟩:∃x3:Acc,x3={x with clock:=x.clock+1,boxes:=zf (x.clock+1) (m.p.members.map (·.1)) x.boxes,mails:=x.mails.eraseIdx i}:=⟨_,rfl⟩
  rw[←af] at j
  have b6:Blk A B 54 #[.int .i64 m0,.int .i64 s,.string ⟨m2.toArray⟩,.int .i64 m3,.slice Ak lk ck,.slice Am C cm,.int .i64 m6,.int .i64 m7]:=ct.out.chg j.out.chg cf.out
  have b7:Sl A 177 4 (.slice A9 C c9) h9 C (zM (zn (x.clock+1) (m.p.members.map (·.1)))):=bn.out.chg j.out.chg bq.out
  have cv:∀b,h9=some b→b∉q'.own g:=fun b hb hm=>by
   rcases j.out.own b hm with l|l
   ·exact bq.out b hb l
   ·have:=bn.out.lt b hb
    omega
  obtain⟨rest,H⟩:∃rest,x.mails.eraseIdx i=rest:=⟨_,rfl⟩
  have br:x3.mails=rest:=by rw[af,←H]
  have b8:x3.clock=x.clock+1:=by rw[af]
  rw[H] at HR
  obtain⟨nr,aw⟩:∃nr,rest.length=nr:=⟨_,rfl⟩
  have eu:nr≤4294967296:=by
   rw[←aw,←H,List.length_eraseIdx_of_lt (by rw[I.out];omega),I.out]
   omega
  obtain⟨Ar,cr,c5,_,_⟩:=j.out.at_.mails.form
  rw[br,aw] at c5
  have bs:=zdG H
  have cw:=zdG af
  have V:=zdG b6
  have cx:=zdG b7
  have b9:=zdG cv
  have cy:=zdG br
  have cz:=zdG b8
  have c':=zdG aw
  have d8:=zdG c5
  clear af b6 b7 cv H br b8 aw c5 bn ct bq
  go_upto_block 0 with(fail)
  go_cut [8] (fun v wx=>∃n:Nat,v=.int .i64 (zdB rest s)∧Hid (wx=A.drewN n))
  case first=>
   go_wp2_with fail
   go_loopw [8,9] (fun hw iv wr=>∃(k n:Nat) (z:Int),k≤nr∧hw=.int .i64 z∧iv=.int .i64 k∧Hid (z=zdB (rest.take k) s)∧Hid (wr=A.drewN n)) (fun _ iv _=>nr - (intOf iv).toNat)
   case atStart=>exact⟨0,0,3,Nat.zero_le _,rfl,rfl,zdG rfl,zdG rfl⟩
   case round=>
    obtain⟨k,n,z,hk,rfl,rfl,HZ,HW⟩:=hrel
    have a4:wr.cell? ⟨g,11,none⟩=some (.slice Ar nr cr):=by
     rw[HW.out]
     exact j.out.at_.zU.trans (by rw[d8.out])
    by_cases ec:k < nr
    ·have d9:(k:Int) < (nr:Int):=by omega
     have f4:(0:Int)≤(k:Int):=by omega
     have da:k < rest.length:=by rw[c'.out];exact ec
     have f5:IntKind.i64.wrap ((k:Int)+1)=(k:Int)+1:=IntWalk.i64_in _ (by omega)
     obtain⟨b2,o2,c2,ep,dr,_,_,ds,bd⟩:=j.out.at_.Vx k (by rw[cy.out];exact da)
     have e8:=(Value.slice.inj (d8.out.symm.trans dr)).1
     subst e8
     obtain⟨t,ht⟩:∃t,ep.p.thread=t:=⟨_,rfl⟩
     have dt:wr.cell? ⟨b2,o2+k * 8+1,none⟩=some (.int .i64 t):=by
      rw[HW.out,←ht]
      exact(bd 1 (by omega)).1
     have e1:wr.cell? ⟨B,1,none⟩=some (.int .i64 s):=by
      rw[HW.out]
      exact V.out.cell 1
     have bt:=zcW rest s k da
     have db:rest[k].thread=t:=by
      rw[←ht,ds]
      simp only[cy.out]
     rw[db,←HZ.out] at bt
     have dc:=zdG bt
     clear dr ds bd ht bt db
     by_cases hc:t=s
     ·have f1:(t==s)=true:=by simpa using hc
      have S:Hid ((2:Int)=zdB (rest.take (k+1)) s):=zdG (by rw[dc.out,if_pos hc])
      clear hc
      go_wp2_with fail
      go_quiet (fail)
      go_wp2_with fail
      have ab:Hid (wr.drewN nq=A.drewN (n+nq)):=zdG (by rw[HW.out,World.drewN_drewN])
      refine⟨?_,by simp[intOf];omega⟩
      first|exact⟨k+1,_,2,by omega,by go_num,by go_num,S,ab⟩|((repeat apply Exists.intro);exact⟨⟨k+1,_,2,by omega,by go_num,by go_num,S,ab⟩,rfl⟩)
     ·have f1:(t==s)=false:=by simpa using hc
      have S:Hid (z=zdB (rest.take (k+1)) s):=zdG (by rw[dc.out,if_neg hc])
      clear hc
      go_wp2_with fail
      go_quiet (fail)
      go_wp2_with fail
      have ab:Hid (wr.drewN nq=A.drewN (n+nq)):=zdG (by rw[HW.out,World.drewN_drewN])
      refine⟨?_,by simp[intOf];omega⟩
      first|exact⟨k+1,_,z,by omega,by go_num,by go_num,S,ab⟩|((repeat apply Exists.intro);exact⟨⟨k+1,_,z,by omega,by go_num,by go_num,S,ab⟩,rfl⟩)
    ·have d9:¬(k:Int) < (nr:Int):=by omega
     have S:Hid (z=zdB rest s):=zdG (by
      rw[HZ.out,List.take_of_length_le (by rw[c'.out];omega)])
     go_wp2_with fail
     go_meet
     exact⟨n,by rw[S.out],HW⟩
  case rest=>
   obtain⟨n,rfl,HW⟩:=hcut
   obtain⟨c,rfl⟩:∃c:World,c=wc:=⟨_,rfl⟩
   have ac:ze w c g q x3 q':=(a9.out.trans j.out).trans (ze.of_below j.out.at_ (by rw[HW.out];exact below_drewN' (Below.refl _ _) _))
   have hK:∀W,Below c.heap.size c W→W.cell? ⟨B,1,none⟩=some (.int .i64 s):=fun W hb=>by
    have l:c.cell? ⟨B,1,none⟩=some (.int .i64 s):=by rw[HW.out];exact V.out.cell 1
    have U:B < c.heap.size:=by rw[HW.out];exact V.out.lt
    exact(hb.cell (p:=⟨B,1,none⟩) U).trans l
   have hS:∀W,Below c.heap.size c W→Sl W 177 4 (.slice A9 C c9) h9 C (zM (zn (x.clock+1) (m.p.members.map (·.1)))):=fun W hb=>by
    have l:Sl c 177 4 (.slice A9 C c9) h9 C (zM (zn (x.clock+1) (m.p.members.map (·.1)))):=cx.out.heap (by rw[HW.out];rfl)
    exact l.chg (Chg.of_below hb []) (by simp)
   have hE:∀W,Below c.heap.size c W→∀k i h,Calls Tryz.prog 109 #[.pointer (some ⟨g,0,none⟩),.int .i64 k,.int .i64 i,.int .i64 h] W fun e w'=>e=.returned (.agg #[.int .i64 (x.clock+1),.int .i64 k,.int .i64 i,.int .i64 h])∧Below W.heap.size W w':=fun W hb k i h=>by
    have h0:=vK W g q' x3 k i h (ac.at_.later hb)
    rw[cz.out] at h0
    exact h0
   have bu:∀b,h9=some b→b≠B∧w.heap.size≤b:=fun b hb=>by
    have l:=ch.out b hb
    have U:=ak.out.size
    have h3:=bm.out.size
    have h4:=E.out.chg.size
    omega
   have ev:C≤4294967296:=by
    have a6:m.p∈x.mails:=by rw[←HS.out.same];exact List.mem_map_of_mem bh.out
    have l:=T.out.Jp a6
    have U:=T.out.nb
    have h3:=T.out.clock
    have h4:=T.out.cfg.mod
    have h5:=bj.out
    omega
   obtain⟨hw,c6⟩:∃hw,zdB rest s=hw:=⟨_,rfl⟩
   have k1:=hK c (Below.refl _ _)
   have e9:B < c.heap.size:=by rw[HW.out];exact V.out.lt
   have dd:B∉h9.toList:=fun hm=>(bu B (by simpa using hm)).1 rfl
   have X:=zdG ac
   have HK:=zdG hK
   have bv:=zdG hS
   have HE:=zdG hE
   have ea:=zdG bu
   have eb:=zdG c6
   rw[c6]
   clear ac hK hS hE bu c6 HW
   go_upto_region 15 with(fail)
   go_cut [7] (fun v wx=>∃a0 a1 M,v=.slice a0 (C+2) a1∧Hid (Sl wx 177 4 (.slice a0 (C+2) a1) M (C+2) (zM (zn (x.clock+1) (m.p.members.map (·.1))++[⟨x.clock+1,2,id,3⟩,⟨x.clock+1,3,s,hw⟩]))∧Chg h9.toList c wx∧(M=h9∨∃b,M=some b∧c.heap.size≤b)))
   case first=>
    go_region_held3 (fun W=>W.cell? ⟨B,1,none⟩=some (.int .i64 s))
     (first
      |exact de.out
      |exact HK.out _ (za r.out (below_alloc1 _ _))
      |exact HK.out _ r.out
      |exact HK.out _ J.out
      |exact HK.out _ (za J.out (zb _))
      |exact HK.out _ (Below.refl _ _)
      |exact HK.out _ (zb _)
      |go_keep)
     (first
      |(go_at_call 109;refine(HE.out _ (by first|exact J.out|exact za J.out (zb _)) _ _ _).mono ?_;rintro e ax ⟨rfl,ag⟩;have r:Hid (Below c.heap.size c ax):=zdG (by first|exact za J.out ag|exact za (za J.out (zb _)) ag);have kk:=HK.out _ r.out;have f6:=World.new_ne ax _ kk;clear ag)
      |(go_at_call 109;refine(HE.out _ (by first|exact Below.refl _ _|exact zb _) _ _ _).mono ?_;rintro e er ⟨rfl,ah⟩;have J:Hid (Below c.heap.size c er):=zdG (by first|exact ah|exact za (zb c) ah);clear ah)
      |(refine zx _ (by rfl) (.tmp 67) (.tmp 76) _ (by rfl) Tryz.underlying102 hj eg eh ei rfl (by omega) (bv.out _ (za r.out (below_alloc1 _ _))) (by first|(simp[Act.eval];done)|simp[Act.eval,Act.put]) ax.heap.size #[.int .i64 (x.clock+1),.int .i64 2,.int .i64 id,.int .i64 3,.int .i64 (x.clock+1),.int .i64 3,.int .i64 s,.int .i64 hw] (e':=177) (fr:=(0,0)) (heap_alloc_new ax _) 2 2 (by first|(simp[Act.eval];done)|simp[Act.eval,Act.put]) (by rfl) (by simp[Value.oneCell']) (by unfold maxLen;omega) (by omega) ?_;intro v2 M N ai aj be;obtain⟨a0,a1,rfl,_,_⟩:=ai.form;have de:Hid (N.cell? ⟨B,1,none⟩=some (.int .i64 s)):=zdG ((aj.cell (p:=⟨B,1,none⟩) (Nat.lt_of_lt_of_le e9 (za r.out (below_alloc1 _ _)).size) dd).trans (HK.out _ (za r.out (below_alloc1 _ _)))))
      |fail)
    all_goals
     have df:Hid (Sl N 177 4 (.slice a0 (C+2) a1) M (C+2) (zM (zn (x.clock+1) (m.p.members.map (·.1))++[⟨x.clock+1,2,id,3⟩,⟨x.clock+1,3,s,hw⟩]))∧Chg h9.toList c N∧(M=h9∨∃b,M=some b∧c.heap.size≤b)):=zdG ⟨by
      rw[zP]
      exact ai,(Chg.of_below (za r.out (below_alloc1 _ _)) _).trans aj (fun i hi=>.inl hi),by
      rcases be with l|⟨b,l,U⟩
      ·exact .inl l
      ·exact .inr ⟨b,l,Nat.le_trans (za r.out (below_alloc1 _ _)).size U⟩⟩
     clear ai aj be
     go_wp2_with fail
     go_meet
     exact⟨a0,a1,M,rfl,df⟩
   case rest=>
    obtain⟨a0,a1,M,rfl,Y⟩:=hcut
    obtain⟨N,rfl⟩:∃N:World,N=wc:=⟨_,rfl⟩
    have L:zi N g q' x3:=zi.chgE X.out.at_ (bv.out c (Below.refl _ _)) b9.out Y.out.2.1
    have ba:ze w N g q x3 q':=⟨L,X.out.chg.trans Y.out.2.1 (fun k hk=>.inr ((ea.out k (by simpa using hk)).2)),X.out.own⟩
    have am:x3.log=x.log:=by rw[cw.out]
    have bw:=T.out.log
    have al:=T.out.cfg.log
    have bb:=Yh L (by rw[am,bw.1];omega) (by rw[am,bw.1];omega) (by rw[am];omega) Y.out.1 (by
     rw[List.length_append,yC,List.length_map,bj.out]
     rfl) (by omega) (fun b hb hm=>by
     rcases Y.out.2.2 with l|⟨b2,l,U⟩
     ·exact b9.out b (by rw[←l];exact hb) hm
     ·rw[l] at hb
      injection hb with hb
      have:=X.out.at_.lt b hm
      omega)
    have f7:N.cell? ⟨g,12,none⟩=some (.pointer (some ⟨q'.gl,0,none⟩)):=L.zV
    have dg:=zdG ba
    clear L ba am bw al k1 HK bv HE
    go_wp2_with (first
     |(go_at_call 108;refine bb.mono ?_;rintro e f8 ⟨rfl,es,_,bf⟩;have dh:=zdG bf;clear bf bb)
     |fail)
    go_ret
    have hR:=HR.out
    rw[dx.out,eb.out,←bs.out] at hR
    rw[hR]
    have l:=(dg.out.trans dh.out).octets (x.octets - m.p.text.length)
    rw[cw.out] at l
    exact⟨rfl,es,l⟩
end Go.Proofs.YtfhlhdmhgheonaaGreatDoor
