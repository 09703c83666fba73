/-
  Small laws over any program, for the walks of this seat: an append of what a literal has just laid. Memory in words of this seat: a block known whole, what a step has turned, a slice that the call's own memory holds (at any offset), and append onto it. Over any program. The log in plain words, with no program in sight: entries, what is added, what is told since a state, in the program's own order 
-/
import Derived.WalkKit
import Derived.WalkSpells
import Derived.WalkLawsBesides
import Derived.Lib.Hide
import Derived.RegionTactic
import Derived.Deep.Draws
import Derived.Below
import Derived.Test.YtnofkliaofgiaaaGreatDoorProg
import Derived.Deep.QuietTactic
import Derived.BigQuiet
import Derived.Deep.RegionLaw
import Derived.Deep.DrawnRows
import Derived.Deep.DeepCutAuto
import Derived.Deep.CutBlock
import Derived.RangeFuncFrom
set_option maxRecDepth 100000
set_option maxHeartbeats 8000000
open Go.Proofs.Tryz
open Array renaming getElem?_eq_some_iff→Pp,length_toList→PL,toList_setIfInBounds→RH
open Exists renaming intro→OA
open Go renaming Program→Pv,TypeId→Pa,Value→Oe,World→Oc
open Go.Ending renaming returned→RR,returned→Rv
open Go.IntKind renaming i64→Ov
open Go.IntWalk renaming i64_in→Og
open Go.Region renaming wanted→P9
open Go.RowKit renaming Below→Od
open Go.RowKit.Below renaming heap_setCell→P3,refl→Ok
open Go.Value renaming slice→RO,string→RP,int→P5
open Go.Value.slice renaming injEq→PH
open Go.World renaming cell?_alloc_at→PZ,cell?_alloc_past→Pw,cell?_of_block→PU,frozen?_alloc_past→Pn,putObj_heap_other→PI,size_alloc→O3
open List renaming append_assoc→O4,append_nil→Pr,cons_append→PO,drop_eq_getElem_cons→O7,eq_nil_of_length_eq_zero→Oi,getElem?_eq_getElem→Ot,getElem?_eq_some_iff→OX,length_append→Oo,length_cons→OT,length_drop→O8,length_take→OU,map_cons→OY,mem_cons→OB,nil_append→PE,size_toArray→PC,take_of_length_le→Ou,take_succ_eq_append_getElem→Oh
open Nat renaming le_refl→Oq,le_trans→Ol,lt_of_lt_of_le→OJ,mul_le_mul_right→PG,zero_le→OE
open Option.some renaming inj→O6,injEq→Pk
open _root_ renaming ByteArray→Oy,List→Ob,Option→OC,if_neg→Om,if_pos→OG
namespace Go.Proofs.YtnofkliaofgiaaaGreatDoor
theorem zzm1q{p:Prop}(h:p:=by
 rw[hy] at hyid mr
 have hin:id∈ids (x.zg.set i {y with name:=nl,zB:=zB}):=by
  rw[ids_set hi (by rw[hy])]
  exact OL.2 ⟨x.zg[i],Oj hi,by rw[hy];exact hyid⟩
 have zq:=V hin
 have D5:=V mr
 have Gx:=hf.zA
 have Hl:=hf.N3.mod
 rw[hnm] at ng
 have jh:=fun W (hb:Od w w W)=>UR q.vb [] x.zg zB id W ((h.later hb).zg.reads [] zv) oo
 rw[hun,hv2] at jh
 have hq:(id==1)=false:=xv
 have ug:=V ng
 have fe:=V jh
 have Aa:=V hv2
 have ai:=V ou
 have HY:=V hy
 clear hr hpl hfi h1 ng hnm hun jh hv hv2 aj ou hy mr h hf hyid hin
 go_enter func58,ntmps58
 go_upto_region 18 with(first
  |(go_at_call 119;refine jf.mono ?_;rintro e w1 ⟨rfl,ax⟩;have bg:=V ax;clear ax jf)
  |(go_at_call 105;refine(lg w1).mono ?_;rintro e w2 ⟨rfl,hb2⟩;have ay:=V (zj bg.o hb2);clear hb2 lg)
  |(go_at_call 106;refine(ug.o w2 ay.o).mono ?_;rintro e w3 ⟨rfl,iq⟩;have bn:=V (zj ay.o iq);clear iq;obtain⟨uf,_,_⟩:=mg.o w3 bn.o)
  |(go_at_call 120;refine(fe.o w3 bn.o).mono ?_;rintro e w4 ⟨rfl,hb4⟩;have ah:=V (zj bn.o hb4);clear hb4 fe;obtain⟨zx,m1,m2⟩:=mg.o w4 ah.o;have c6:w4.cell? (Y g 6)=some (I x.N3.ym):=(H.o.later ah.o).cells 6;have c9:=(H.o.later ah.o).vF)
  |(go_at_call 71;refine(vQ g x.zA x.N3.ym _ ((yD (w:=w4) zF _).trans c9) ((yD (w:=w4) zF _).trans c6)).mono ?_;rintro e w5 ⟨rfl,ne,rfl⟩;have Ah:=(zj ah.o (zO (Ok w4.heap.size w4) ne));have je:=V Ah;clear Ah)
  |fail)
 obtain⟨wa,hwa⟩:∃wa:Oc,wa=w4.drewN ne:=⟨_,rfl⟩
 rw[←hwa]
 have pu:Od w w wa:=by rw[hwa];exact je.o
 have Db:=V pu
 clear hwa uf zx m1 m2 c6 c9
 obtain⟨D6,_,_⟩:=mg.o wa pu
 have Di:=V (H.o.later pu)
 have fq:q.vb=RO (some (Y b off)) x.zg.length cap:=by rw[ai.o];exact Aa.o
 obtain⟨b',jk,jl,jg,_,_,_,qc,dw⟩:=Di.o.Vn i hi
 have h6:=fq.symm.trans jg
 injection h6 with e1 e2 e3
 injection e1 with e1
 injection e1 with e1 e4
 subst e1 e4 e3
 have f1:=(dw 1 O).2
 have f2:=(dw 2 O).2
 have c1:wa.cell? (Y b (off+i * 6+1))=some (RP ⟨y.name.toArray⟩):=((dw 1 O).1).trans (by rw[HY.o];rfl)
 have c2:wa.cell? (Y b (off+i * 6+2))=some (I y.zB):=((dw 2 O).1).trans (by rw[HY.o];rfl)
 have Ai:∀W:Oc,W.heap=wa.heap→W.os=wa.os→W.tape=wa.tape→W.output=wa.output→zL w ((W.setCell (Y b (off+i * 6+1)) (RP ⟨nl.toArray⟩)).setCell (Y b (off+i * 6+2)) (I zB)) g q {x with zg:=x.zg.set i {y with name:=nl,zB:=zB}} q∧zL w ((W.setCell (Y b (off+i * 6+2)) (I zB)).setCell (Y b (off+i * 6+1)) (RP ⟨nl.toArray⟩)) g q {x with zg:=x.zg.set i {y with name:=nl,zB:=zB}} q:=fun W e0 e1 e2 e3=>by
  have hb:Od wa wa W:=⟨e1,e2,e3,Nat.le_of_eq (by rw[e0]),fun _ _=>by rw[e0]⟩
  have hb2:=zj Db.o hb
  have hT:=zL.of_below H.o hb2
  have hs:=H.o.later hb2
  constructor
  ·have t1:=hs.vU fq i hi 1 O (RP ⟨nl.toArray⟩) {y with name:=nl} (by rw[HY.o];rfl)
   have t2:=t1.at_.vU Kc i vq 2 O (I zB) {y with name:=nl,zB:=zB} (by simp[uZ,Qh])
   have t3:=(hT.trans t1).trans t2
   rw[show (x.zg.set i {y with name:=nl}).set i {y with name:=nl,zB:=zB}=x.zg.set i {y with name:=nl,zB:=zB} from by rw[List.set_set]] at t3
   exact t3
  ·have t1:=hs.vU fq i hi 2 O (I zB) {y with zB:=zB} (by rw[HY.o];rfl)
   have t2:=t1.at_.vU Kc i vq 1 O (RP ⟨nl.toArray⟩) {y with name:=nl,zB:=zB} (by simp[uZ,Qh])
   have t3:=(hT.trans t1).trans t2
   rw[show (x.zg.set i {y with zB:=zB}).set i {y with name:=nl,zB:=zB}=x.zg.set i {y with name:=nl,zB:=zB} from by rw[List.set_set]] at t3
   exact t3
 have Ag:=V Ai
 clear dw jg fq Ai pu
 go_cut [] (fun wx=>Z (zL w wx g q {x with zg:=x.zg.set i {y with name:=nl,zB:=zB}} q))
 case first=>
  go_region_law (first
   |fail)
  all_goals
   go_wp2_with fail
   go_meet
   first
    |exact V (Ag.o wa.drew rfl rfl rfl rfl).1
    |exact V (Ag.o wa.drew rfl rfl rfl rfl).2
 case rest=>
  have HT:=hcut
  clear hcut
  obtain⟨wb,rfl⟩:∃wb:Oc,wb=wc:=⟨_,rfl⟩
  clear D6 c1 c2 f1 f2 qc
  have pq:wb.cell? (Y g 12)=some (RQ (some (Y q.gl 0))):=HT.o.at_.xp
  have qj:g < wb.heap.size:=HT.o.at_.blk.lt
  have Dc:=(Ox wb (.cells #[I id] 3) (Y g 12) qj).trans pq
  have qd:∀W:Oc,W.heap=wb.heap→W.os=wb.os→W.tape=wb.tape→W.output=wb.output→C 74 #[Y g 0] W fun e w'=>e=RR (I (x.zA+1))∧zL w w' g q {x with zA:=x.zA+1,zg:=x.zg.set i {y with name:=nl,zB:=zB}} q:=fun W e0 e1 e2 e3=>by
   have hb:Od wb wb W:=⟨e1,e2,e3,Nat.le_of_eq (by rw[e0]),fun _ _=>by rw[e0]⟩
   have h1:=HT.o.at_.later hb
   refine(YA g x.zA W h1.vF (h1.frozen 9) O).mono ?_
   rintro e w' ⟨rfl,rfl⟩
   exact⟨rfl,(HT.o.Zf hb).trans (h1.vn 9 (I (x.zA+1)) {x with zA:=x.zA+1,zg:=x.zg.set i {y with name:=nl,zB:=zB}} rfl rfl rfl rfl)⟩
  have hs2:∀W:Oc,W.heap=(wb.alloc (.cells #[I id] 3)).heap→W.os=wb.os→W.tape=wb.tape→W.output=wb.output→C 74 #[Y g 0] W fun e w'=>e=RR (I (x.zA+1))∧zL w w' g q {x with zA:=x.zA+1,zg:=x.zg.set i {y with name:=nl,zB:=zB}} q∧NG w' wb.heap.size 3 #[I id]:=fun W e0 e1 e2 e3=>by
   have hb:Od (wb.alloc (.cells #[I id] 3)).heap.size (wb.alloc (.cells #[I id] 3)) W:=⟨e1,e2,e3,Nat.le_of_eq (by rw[e0]),fun _ _=>by rw[e0]⟩
   have hb2:=zj (zt wb _) hb
   have h1:=HT.o.at_.later hb2
   refine(YA g x.zA W h1.vF (h1.frozen 9) O).mono ?_
   rintro e w' ⟨rfl,rfl⟩
   refine⟨rfl,(HT.o.Zf hb2).trans (h1.vn 9 (I (x.zA+1)) {x with zA:=x.zA+1,zg:=x.zg.set i {y with name:=nl,zB:=zB}} rfl rfl rfl rfl),?_⟩
   exact((NG.new wb 3 #[I id]).heap e0).far (p:=⟨g,9,none⟩) (by show wb.heap.size≠g;omega) _
  have Au:∀(W:Oc) (B:Nat),zH W g q {x with zA:=x.zA+1,zg:=x.zg.set i {y with name:=nl,zB:=zB}}→NG W B 3 #[I id]→C 78 #[Y g 0,I (x.zA+1),RO (some (Y B 0)) 1 1] W fun e w'=>∃A8 c8 h8,e=RR (RO A8 1 c8)∧zL W w' g q {x with zA:=x.zA+1,zg:=zI (x.zA+1) [id] (x.zg.set i {y with name:=nl,zB:=zB})} q∧∀W2,Od w' w' W2→C 77 #[Y q.gl 0,RO A8 1 c8] W2 fun e' Aw=>e'=RR (.tuple #[])∧∃ji,zL w' Aw g q {x with zA:=x.zA+1,zg:=zI (x.zA+1) [id] (x.zg.set i {y with name:=nl,zB:=zB}),log:=x.log.add (zX (x.zA+1) [id])} ji∧h8=h8:=fun W B hst hB=>by
   refine(Y2 W g q {x with zA:=x.zA+1,zg:=x.zg.set i {y with name:=nl,zB:=zB}} hst (by simp only[Pd];omega) (x.zA+1) [id] _ [] ((oneI_sl hB).reads [] zv) zv (fun j hj=>by
    have h1:j=id:=vL
    rw[h1]
    exact zq.o)).mono ?_
   rintro e w' ⟨v',hh,rfl,eu,hfr,ht⟩
   have uh:Sl w' 159 4 v' hh 1 (yR (zX (x.zA+1) [id])):=eu
   obtain⟨A8,c8,rfl,_,_⟩:=uh.form
   refine⟨A8,c8,hh,rfl,ht,fun W2 hb=>?_⟩
   have Da:Sl W2 159 4 (RO A8 1 c8) hh 1 (yR (zX (x.zA+1) [id])):=uh.keep (fun b hb2=>hb.block b (uh.lt b hb2))
   have Gy:=qf.o.log
   have Hf:=qf.o.N3.log
   refine(dY (ht.at_.later hb) (by show 1≤x.log.most;omega) (by show x.log.most≤_;omega) (by show x.log.es.length≤_;omega) Da rfl O (fun k hk hm=>?_)).mono ?_
   ·have h7:=hfr k hk
    have h8:=hst.lt k hm
    omega
   ·rintro e' Aw ⟨rfl,ji,Dh⟩
    exact⟨rfl,ji,(zL.of_below ht.at_ hb).trans Dh,rfl⟩
  have D9:=V qd
  have jq:=V hs2
  have Aq:=V Au
  clear qd hs2 Au
  go_upto_region 19 with(fail)
  go_cut [] (fun wx=>∃ji,Z (zL w wx g q {x with zA:=x.zA+1,zg:=zI (x.zA+1) [id] (x.zg.set i {y with name:=nl,zB:=zB}),log:=x.log.add (zX (x.zA+1) [id])} ji))
  case first=>
   go_region_law (first
    |(refine yK zF zF (O9 func74 zQ rfl) yl (D9.o _ rfl rfl rfl rfl) ?_;rintro e w9 ⟨rfl,fw⟩;refine⟨_,rfl,?_⟩;have ul:w9.cell? (Y g 12)=some (RQ (some (Y q.gl 0))):=fw.at_.xp;have Df:g < w9.heap.size:=fw.at_.blk.lt;have He:=(Ox w9 (.cells #[I id] 3) (Y g 12) Df).trans ul;have nu:=fun W (hb:Od (w9.alloc (.cells #[I id] 3)).heap.size (w9.alloc (.cells #[I id] 3)) W)=>Aq.o W w9.heap.size (fw.at_.later (zj (zt w9 _) hb)) ((NG.new w9 3 #[I id]).below hb (NG.new w9 3 #[I id]).lt);have ni:=fun W (hb:Od (w9.alloc (.cells #[I id] 3)).heap.size (w9.alloc (.cells #[I id] 3)) W)=>fw.Zf (zj (zt w9 _) hb);have kr:=V nu;have Ap:=V ni;clear nu ni fw)
    |(refine yK zF zF (O9 func74 zQ rfl) yl (jq.o _ rfl rfl rfl rfl) ?_;rintro e w9 ⟨rfl,fw,Aj⟩;refine⟨_,rfl,?_⟩;have ul:w9.cell? (Y g 12)=some (RQ (some (Y q.gl 0))):=fw.at_.xp;have nu:=fun W (hb:Od w9 w9 W)=>Aq.o W wb.heap.size (fw.at_.later hb) (Aj.below hb Aj.lt);have ni:=fun W (hb:Od w9 w9 W)=>fw.Zf hb;have kr:=V nu;have Ap:=V ni;clear nu ni fw)
    |(refine yK zF zF (O9 func78 zQ rfl) yl (kr.o _ ⟨rfl,rfl,rfl,Oq _,fun _ _=>rfl⟩) ?_;rintro e Dj ⟨A8,c8,h8,rfl,ol,Ac⟩;refine⟨_,rfl,?_⟩;have uj:=(Ap.o _ ⟨rfl,rfl,rfl,Oq _,fun _ _=>rfl⟩).trans ol;have Hg:Dj.cell? (Y g 12)=some (RQ (some (Y q.gl 0))):=uj.at_.xp;have Cz:=V Ac;have ve:=V uj;clear ol uj Ac)
    |(refine yK zF zF (O9 func77 zQ rfl) yl (Cz.o _ ⟨rfl,rfl,rfl,Oq _,fun _ _=>rfl⟩) ?_;rintro e Gz ⟨rfl,Dg,Ao,_⟩;refine⟨_,rfl,?_⟩;have D8:=V Ao;clear Ao)
    |fail)
   all_goals
    go_wp2_with fail
    go_meet
    exact⟨Dg,V (ve.o.trans D8.o)⟩
  case rest=>
   obtain⟨ji,Ad⟩:=hcut
   obtain⟨wz,rfl⟩:∃wz:Oc,wz=wc:=⟨_,rfl⟩
   have uy:Z (xJ w g q rr (RR (I 0)) wz):=V (by
    rw[D5.o]
    exact⟨rfl,ji,Ad.o⟩)
   clear Ad pq Dc
   go_wp2_with fail
   go_ret
   exact uy.o):p:=h
theorem zzm3q{p:Prop}(h:p:=by
 obtain⟨k,hk,rfl,HA⟩:=hrel
 by_cases af:k < s.size
 ·obtain⟨c,hc⟩:∃c:Int,c=(s[k].toNat:Int):=⟨_,rfl⟩
  have HC:=V hc
  have hn:∀(hbad:gR s[k].toNat=true),b=false:=fun hbad=>dz.o.symm.trans (Lm s k af hbad)
  have HN:=V hn
  clear hc hn
  by_cases a1:(s[k].toNat:Int) < 32
  ·have HF:=V (HN.o (by unfold gR;rw[OS O];rfl))
   clear HN HC
   go_wp2_with fail
   go_ret
   exact⟨xy HF.o.symm,ah.o⟩
  by_cases a2:s[k].toNat=127
  ·have HF:=V (HN.o (by unfold gR;rw[a2];rfl))
   have Cf:(s[k].toNat:Int)=127:=O
   clear HN HC
   go_wp2_with fail
   go_ret
   exact⟨xy HF.o.symm,ah.o⟩
  by_cases a3:s[k].toNat=47
  ·have HF:=V (HN.o (by unfold gR;rw[a3];rfl))
   have Ci:(s[k].toNat:Int)=47:=O
   clear HN HC
   go_wp2_with fail
   go_ret
   exact⟨xy HF.o.symm,ah.o⟩
  by_cases a4:s[k].toNat=42
  ·have HF:=V (HN.o (by unfold gR;rw[a4];rfl))
   have Ch:(s[k].toNat:Int)=42:=O
   clear HN HC
   go_wp2_with fail
   go_ret
   exact⟨xy HF.o.symm,ah.o⟩
  by_cases a5:s[k].toNat=37
  ·have HF:=V (HN.o (by unfold gR;rw[a5];rfl))
   have Cg:(s[k].toNat:Int)=37:=O
   clear HN HC
   go_wp2_with fail
   go_ret
   exact⟨xy HF.o.symm,ah.o⟩
  ·have yh:gR s[k].toNat=false:=by
    unfold gR
    rw[OD O,OD a2,OD a3,OD a4,OD a5]
    rfl
   have HX:=V (wk s k af HA.o yh)
   have Cf:((s[k].toNat:Int)==127)=false:=by simpa using (show ¬(s[k].toNat:Int)=127 by omega)
   have Ci:((s[k].toNat:Int)==47)=false:=by simpa using (show ¬(s[k].toNat:Int)=47 by omega)
   have Ch:((s[k].toNat:Int)==42)=false:=by simpa using (show ¬(s[k].toNat:Int)=42 by omega)
   have Cg:((s[k].toNat:Int)==37)=false:=by simpa using (show ¬(s[k].toNat:Int)=37 by omega)
   clear HN HC yh a2 a3 a4 a5
   go_wp2_with fail
   exact⟨⟨k+1,af,zE,HX⟩,zV⟩
 ·have hkn:k=s.size:=O
  subst hkn
  have HN:Z (b=true):=V (by
   rw[HD.o true rfl]
   have h1:=HA.o
   rw[aC s _ (Oq _)] at h1
   rw[h1]
   rfl)
  go_wp2_with fail
  go_ret
  exact⟨xy HN.o.symm,ah.o⟩):p:=h
theorem zzm4q{p:Prop}(h:p:=by
 go_wp2_with fail
 clear Iu h4
 go_loop [4,5] (fun n i=>∃(k:Nat) (v:Int),k≤s.size∧i=I k∧n=I v∧Z (ZM (s.data.toList.drop k) v=ZM s.data.toList 0)∧Z (0≤v∧v < 10 ^ k)) (fun _ i=>s.size - (intOf i).toNat)
 case atStart=>exact⟨0,0,OE _,rfl,rfl,V rfl,V ⟨zD,zD⟩⟩
 case round=>
  obtain⟨k,v,hk,rfl,rfl,HG,HV⟩:=hrel
  by_cases af:k < s.size
  ·by_cases h1:(s[k].toNat:Int) < 48
   ·have hn:=HN.o (HG.o.symm.trans (UA s k af v (.inl h1)))
    injection hn with hn1 hn2
    subst hn1 hn2
    clear HF HN HG HV
    go_wp2_with fail
    go_ret2
    exact⟨rfl,rfl⟩
   ·by_cases h2:57 < (s[k].toNat:Int)
    ·have hn:=HN.o (HG.o.symm.trans (UA s k af v (.inr h2)))
     injection hn with hn1 hn2
     subst hn1 hn2
     clear HF HN HG HV
     go_wp2_with fail
     go_ret2
     exact⟨rfl,rfl⟩
    ·have Ec:Z (ZM (s.data.toList.drop (k+1)) (10 * v+((s[k].toNat:Int) - 48))=ZM s.data.toList 0):=V (Int.mul_comm v 10 ▸ (cY s k af v h1 h2).symm.trans HG.o)
     have hp:=dF HV.o.1 HV.o.2 (show 0≤(s[k].toNat:Int) - 48 by omega) (show (s[k].toNat:Int) - 48≤9 by omega)
     have v0:0≤v:=HV.o.1
     have v9:v < 10000000000:=Qo O HV.o.2
     rw[Int.mul_comm v 10] at hp
     have HP:=V hp
     clear hp HG HV HF HN
     go_wp2_with fail
     go_round
     case rel=>exact⟨k+1,_,O,zE,rfl,Ec,V ⟨O,HP.o⟩⟩
     case measure=>simp[intOf];omega
  ·have xq:k=s.size:=O
   subst xq
   have hv:=HG.o
   rw[jW] at hv
   have hn:=HF.o v hv.symm
   have v0:0≤v:=HV.o.1
   have v9:v < 10000000000:=Qo O HV.o.2
   clear HF HN HG HV hv
   by_cases hb:4294967295 < v
   ·rw[OG hb] at hn
    injection hn with hn1 hn2
    subst hn1 hn2
    go_wp2_with fail
    go_ret2
    exact⟨rfl,rfl⟩
   ·rw[Om hb] at hn
    injection hn with hn1 hn2
    subst hn1 hn2
    go_wp2_with fail
    go_ret2
    exact⟨rfl,rfl⟩):p:=h
theorem zzm5q{p:Prop}(h:p:=by
 have ha:=h.apart
 have qj:g < w.heap.size:=h.blk.lt
 have jc:∀k,h'=some k→(q.hm=some k)∨w.heap.size≤k:=by
  intro k hk
  rcases ho with h2|⟨k2,h2,h3⟩
  ·exact .inl (by rw[←h2];exact hk)
  ·rw[h2] at hk
   injection hk with hk
   exact .inr O
 have ql:h'≠some g:=fun e=>by
  rcases jc g e with h1|h1
  ·exact ha.hm h1
  ·omega
 have bf:NH (q.own g) w (w'.setCell (Y g 11) v'):=(hc.mono fun k hk=>.inl (zW.Z5 yi)).set (p:=⟨g,11,none⟩) (.inl zW.ZP) v'
 have di:∀k∈({q with hm:=h',vm:=v',ms:=q.ms++[m]}:zW).own g,k∈q.own g∨w.heap.size≤k:=by
  intro k hk
  simp only[zW.own,OB,OO,Pe] at hk ⊢
  rcases hk with h1|h1|(h1|h1)|h1
  ·exact .inl (.inl h1)
  ·exact .inl (.inr (.inl h1))
  ·exact .inl (.inr (.inr (.inl (.inl h1))))
  ·exact .inl (.inr (.inr (.inl (.inr h1))))
  ·rcases jc k h1 with h2|h2
   ·exact .inl (.inr (.inr (.inr h2)))
   ·exact .inr h2
 have hc2:NH (g :: q.hm.toList) w (w'.setCell (Y g 11) v'):=(hc.mono fun k hk=>.inl (OP _ hk)).set (.inl zv) v'
 refine⟨⟨?_,?_,?_,?_,?_,fun a ha2=>?_⟩,bf,di⟩
 ·have hB:=(h.blk.N4 hc (by simpa using ha.hm)).set 11 v'
  exact hB
 ·exact h.log.N4 hc2 (by
   simp only[OB,Pe,not_or]
   exact⟨fun e=>ha.gl e.symm,ha.lm⟩) (fun b hb=>by
   simp only[OB,Pe,not_or]
   exact⟨fun e=>ha.hl Yq,ha.em b hb⟩)
 ·exact h.zg.N4 hc2 (fun b hb=>by
   simp only[OB,Pe,not_or]
   exact⟨fun e=>ha.hb Yq,ha.bm b hb⟩)
 ·show (q.ms++[m]).map (·.p)=x.zC++[m.p]
  rw[OQ,h.same]
  rfl
 ·have h1:=hs.far (p:=⟨g,11,none⟩) ql v'
  show Sl _ _ 8 v' h' (x.zC++[m.p]).length (zU xV (q.ms++[m]))
  rw[Oo,Pf,uI]
  exact h1
 ·rcases OO.1 ha2 with h1|h1
  ·exact(h.parts a h1).step bf di
  ·rw[OI] at h1
   subst h1
   exact hp.step bf di):p:=h
theorem zzm6q{p:Prop}(h:p:=by
 have ha:=h.apart
 have qj:g < w.heap.size:=h.blk.lt
 have jc:∀k,h'=some k→(q.hb=some k)∨w.heap.size≤k:=by
  intro k hk
  rcases ho with h2|⟨k2,h2,h3⟩
  ·exact .inl (by rw[←h2];exact hk)
  ·rw[h2] at hk
   injection hk with hk
   exact .inr O
 have ql:h'≠some g:=fun e=>by
  rcases jc g e with h1|h1
  ·exact ha.hb h1
  ·omega
 have bf:NH (q.own g) w (w'.setCell (Y g 10) v'):=(hc.mono fun k hk=>.inl (zW.Yo yi)).set (p:=⟨g,10,none⟩) (.inl zW.ZP) v'
 have di:∀k∈({q with hb:=h',vb:=v'}:zW).own g,k∈q.own g∨w.heap.size≤k:=by
  intro k hk
  simp only[zW.own,OB,OO,Pe] at hk ⊢
  rcases hk with h1|h1|(h1|h1)|h1
  ·exact .inl (.inl h1)
  ·exact .inl (.inr (.inl h1))
  ·exact .inl (.inr (.inr (.inl (.inl h1))))
  ·rcases jc k h1 with h2|h2
   ·exact .inl (.inr (.inr (.inl (.inr h2))))
   ·exact .inr h2
  ·exact .inl (.inr (.inr (.inr h1)))
 have hc2:NH (g :: q.hb.toList) w (w'.setCell (Y g 10) v'):=(hc.mono fun k hk=>.inl (OP _ hk)).set (.inl zv) v'
 refine⟨⟨?_,?_,?_,h.same,?_,fun m hmm=>(h.parts m hmm).step bf di⟩,bf,di⟩
 ·have hB:=(h.blk.N4 hc (by simpa using ha.hb)).set 10 v'
  exact hB
 ·exact h.log.N4 hc2 (by
   simp only[OB,Pe,not_or]
   exact⟨fun e=>ha.gl e.symm,ha.lb⟩) (fun b hb=>by
   simp only[OB,Pe,not_or]
   exact⟨fun e=>ha.hl Yq,ha.eb b hb⟩)
 ·have h1:=hs.far (p:=⟨g,10,none⟩) ql v'
  show Sl _ _ 6 v' h' (x.zg++[y]).length (zU uZ (x.zg++[y]))
  rw[Oo,Pf,uI]
  exact h1
 ·exact h.zC.N4 hc2 (fun b hb=>by
   simp only[OB,Pe,not_or]
   exact⟨fun e=>ha.hm Yq,fun e=>ha.bm b e hb⟩)):p:=h
theorem zzm8q{p:Prop}(h:p:=by
 have ha:=h.apart
 have dh:=h.zC
 rw[hv] at dh
 have hn:n=x.zC.length:=by
  obtain⟨A,c,hv2,_⟩:=dh.form
  injection hv2
 subst hn
 have ak:q.hm=some b:=by
  obtain⟨b',jk,jl,hh,hv2,_⟩:=dh.at_ O
  injection hv2 with e1
  injection e1 with e2
  injection e2 with e3
  rw[hh,e3]
 have qi:g≠b:=fun e=>ha.hm (by rw[ak,e])
 have hc:NH [b] w (w.setCell (Y b (off+i * 8+j)) u):=(NH.refl [b] w).set (.inl zv) u
 have bf:NH (q.own g) w (w.setCell (Y b (off+i * 8+j)) u):=hc.mono fun k hk=>by
  simp only[OI] at hk
  subst hk
  exact .inl (zW.Z5 ak)
 have di:∀k∈({q with ms:=q.ms.set i m}:zW).own g,k∈q.own g∨w.heap.size≤k:=fun k hk=>.inl hk
 refine⟨⟨h.blk.far (p:=⟨b,off+i * 8+j,none⟩) qi u,?_,?_,?_,?_,fun a ha2=>?_⟩,bf,di⟩
 ·exact h.log.N4 hc (by simp only[OI];rintro e;exact ha.lm (by rw[ak,e])) (fun k hk=>by
   simp only[OI]
   rintro rfl
   exact ha.em _ hk ak)
 ·exact h.zg.far (p:=⟨b,off+i * 8+j,none⟩) (fun e=>ha.bm b e ak) u
 ·show (q.ms.set i m).map (·.p)=x.zC.set i m.p
  rw[List.map_set,h.same]
 ·have h1:=dh.store (i * 8+j) u
  rw[ub xr q.ms i j hi2 hj u m hm] at h1
  rw[hv]
  show Sl _ _ 8 _ q.hm (x.zC.set i m.p).length (zU xV (q.ms.set i m))
  rw[Pd]
  rw[←O1] at h1
  exact h1
 ·rcases List.mem_or_eq_of_mem_set ha2 with h1|h1
  ·exact(h.parts a h1).step bf di
  ·subst h1
   exact hp.step bf di):p:=h
theorem zzm9q{p:Prop}(h:p:=by
 rw[hnm] at ng
 have jh:=fun W (hb:Od w w W)=>UR q.vb [] x.zg zB id W ((h.later hb).zg.reads [] zv) oo
 rw[hun,hv2] at jh
 have hq:(id==1)=false:=xv
 have ug:=V ng
 have fe:=V jh
 have Aa:=V hv2
 have ai:=V ou
 have HY:=V hy
 clear hr hpl hfi h1 ng hnm hun jh hv hv2 aj ou hy mr h hf
 go_enter func58,ntmps58
 go_wp2_with (first
  |(go_at_call 119;refine jf.mono ?_;rintro e w1 ⟨rfl,ax⟩;have bg:=V ax;clear ax jf)
  |(go_at_call 105;refine(lg w1).mono ?_;rintro e w2 ⟨rfl,hb2⟩;have ay:=V (zj bg.o hb2);clear hb2 lg)
  |(go_at_call 106;refine(ug.o w2 ay.o).mono ?_;rintro e w3 ⟨rfl,iq⟩;have bn:=V (zj ay.o iq);clear iq;obtain⟨uf,_,_⟩:=mg.o w3 bn.o)
  |(go_at_call 120;refine(fe.o w3 bn.o).mono ?_;rintro e w4 ⟨rfl,hb4⟩;have ah:=V (zj bn.o hb4);clear hb4 fe;obtain⟨zx,m1,m2⟩:=mg.o w4 ah.o;have c6:w4.cell? (Y g 6)=some (I x.N3.ym):=(H.o.later ah.o).cells 6;have c9:=(H.o.later ah.o).vF)
  |(go_at_call 71;refine(vQ g x.zA x.N3.ym _ ((yD (w:=w4) zF _).trans c9) ((yD (w:=w4) zF _).trans c6)).mono ?_;rintro e w5 ⟨rfl,ne,rfl⟩)
  |fail)
 go_ret
 exact⟨rfl,q,(zL.of_below H.o ah.o).yO (zO (Ok _ _) _)⟩):p:=h
theorem L1{p:Prop}(h:p:=by
 have ha:=h.apart
 have dh:=h.zg
 rw[hv] at dh
 have hn:n=x.zg.length:=by
  obtain⟨A,c,hv2,_⟩:=dh.form
  injection hv2
 subst hn
 have ak:q.hb=some b:=by
  obtain⟨b',jk,jl,hh,hv2,_⟩:=dh.at_ O
  injection hv2 with e1
  injection e1 with e2
  injection e2 with e3
  rw[hh,e3]
 have qi:g≠b:=fun e=>ha.hb (by rw[ak,e])
 have hc:NH [b] w (w.setCell (Y b (off+i * 6+j)) u):=(NH.refl [b] w).set (.inl zv) u
 have bf:NH (q.own g) w (w.setCell (Y b (off+i * 6+j)) u):=hc.mono fun k hk=>by
  simp only[OI] at hk
  subst hk
  exact .inl (zW.Yo ak)
 refine⟨⟨h.blk.far (p:=⟨b,off+i * 6+j,none⟩) qi u,?_,?_,h.same,?_,fun m hmm=>(h.parts m hmm).step bf (fun k hk=>.inl hk)⟩,bf,fun k hk=>.inl hk⟩
 ·exact h.log.N4 hc (by simp only[OI];rintro e;exact ha.lb (by rw[ak,e])) (fun k hk=>by
   simp only[OI]
   rintro rfl
   exact ha.eb _ hk ak)
 ·have h1:=dh.store (i * 6+j) u
  rw[ub xF x.zg i j hi hj u y hy] at h1
  rw[hv]
  show Sl _ _ 6 _ q.hb (x.zg.set i y).length (zU uZ (x.zg.set i y))
  rw[Pd]
  rw[←O1] at h1
  exact h1
 ·exact h.zC.far (p:=⟨b,off+i * 6+j,none⟩) (fun e=>ha.bm b ak e) u):p:=h
theorem ET{p:Prop}(h:p:=by
 rw[←qh] at hW
 have hc:∀W,Od w1 w1 W→_:=hW.prog (f:=26) fun W hb=>VH W g q x bs _ [] ks _ [] at_ nm (hin.app hb)
 have o7:=fun W q' (ht:zL w1 W g q (ya yL x bs ks at_ nm).1 q')=>nO W g2 q2 x bs _ [] ks _ [] at_ nm (hin.UD (hW.b1.st.turned ht).below (hW.b1.half ht))
 obtain⟨⟨x2,Cy,er⟩,ny⟩:∃r,ya yL x bs ks at_ nm=r:=⟨_,rfl⟩
 simp only[ny] at hc o7
 rw[ny]
 have HC:=V hc
 have Ay:=V o7
 have HW:=V hW
 clear hc o7 hW hin hnb Es ny
 go_enter func17,ntmps17
 go_upto_region 13 with(fail)
 rw[←qh]
 clear qh
 obtain⟨e0,e1,e2,e3,e4,e5⟩:=HW.o.here (Ok _ w1)
 go_wp2_with (first
  |(go_at_call 26;refine(HC.o _ uO).mono ?_;rintro e w2 ⟨rfl,pz,ht⟩;have HT:=V ht;clear e0 e1 e2 e3 e4 e5;obtain⟨z0,z1,z2,z3,z4,z5⟩:=HW.o.t1 ht;clear ht)
  |(go_at_call 62;refine(Ay.o _ _ HT.o).mono ?_;rintro e w3 ⟨rfl,qa,hr⟩;have ic:=V hr;clear hr)
  |(go_at_call 9;refine(Zd _ _).mono ?_;rintro e wn ⟨rfl,rfl⟩)
  |fail)
 go_ret
 exact HW.o.both.o HW.o.bl HT.o ic.o):p:=h
theorem L6{p:Prop}(h:p:=by
 have ha:=h.apart
 have bf:NH (q.own g) w w':=hc.mono fun k hk=>by
  rcases OB.1 hk with rfl|hk
  ·exact .inl zW.J4
  ·exact .inl (zW.Yp yi)
 have di:∀k∈({q with hl:=hl'}:zW).own g,k∈q.own g∨w.heap.size≤k:=by
  intro k hk
  simp only[zW.own,OB,OO,Pe] at hk ⊢
  rcases hk with h1|h1|(h1|h1)|h1
  ·exact .inl (.inl h1)
  ·exact .inl (.inr (.inl h1))
  ·rcases ho with h2|⟨k2,h2,h3⟩
   ·rw[h2] at h1
    exact .inl (.inr (.inr (.inl (.inl h1))))
   ·rw[h2] at h1
    injection h1 with h1
    exact .inr O
  ·exact .inl (.inr (.inr (.inl (.inr h1))))
  ·exact .inl (.inr (.inr (.inr h1)))
 refine⟨⟨?_,hl,?_,h.same,?_,fun m hmm=>(h.parts m hmm).step bf di⟩,bf,di⟩
 ·exact h.blk.N4 hc (by
   simp only[OB,Pe,not_or]
   exact⟨ha.gl,ha.hl⟩)
 ·exact h.zg.N4 hc (fun b hb=>by
   simp only[OB,Pe,not_or]
   exact⟨fun e=>ha.lb Yq,fun e=>ha.eb b e hb⟩)
 ·exact h.zC.N4 hc (fun b hb=>by
   simp only[OB,Pe,not_or]
   exact⟨fun e=>ha.lm Yq,fun e=>ha.em b e hb⟩)):p:=h
theorem L8{p:Prop}(h:p:=by
 have hne:∀b,hh=some b→b≠B:=hs.vu Bw zD
 have hc2:NH (B :: hh.toList) W (W2.setCell (Y B 5) mv'):=(hc.mono fun j hj=>.inl (OP _ hj)).set (.inl zv) mv'
 have hfr:∀j∈B :: hh.toList,w5.heap.size≤j:=fun j hj=>by
  rcases OB.1 hj with rfl|hj
  ·omega
  ·exact hf j vL
 have jc:∀b,h'=some b→w5.heap.size≤b:=fun b hb=>by
  rcases ho with h1|⟨g2,h1,h2⟩
  ·exact hf b X8
  ·rw[h1] at hb
   injection hb with hb
   omega
 have Bv:h'≠some B:=fun e=>by
  rcases ho with h1|⟨g2,h1,h2⟩
  ·exact hne B (by rw[←h1];exact e) rfl
  ·rw[h1] at e
   injection e with e
   omega
 refine⟨?_,?_,?_,⟨h',?_,jc⟩⟩
 ·rw[Bu]
  exact(h.st.trans ht).newer hw hc2 fun j hj=>Ol h5 (hfr j hj)
 ·exact(h.ch.trans ht.N4 (fun i hi=>.inl hi)).trans hc2 fun i hi=>.inr (hfr i hi)
 ·exact(Bw.N4 hc (fun hm=>hne B yT rfl)).set 5 mv'
 ·rw[Bu,ZL]
  exact hs2.far (p:=⟨B,5,none⟩) Bv mv'):p:=h
theorem L9{p:Prop}(h:p:=by
 have e3:Ov.wrap ((f:Int) * 64)=(f:Int) * 64:=Og _ O
 have e4:bits .or .i64 ((f:Int) * 64) ((s[k+j].toNat:Int) % 64)=(f:Int) * 64+(s[k+j].toNat:Int) % 64:=bits_join .i64 62 zD (fun n h0 h1=>Og _ O) 6 _ _ O O O O O O
 have e5:Ov.wrap ((k:Int)+j)=(k:Int)+j:=Og _ O
 have jr:f * 64+s[k+j].toNat % 64=Zp b ((s.data.toList.drop (k+1)).take (j+1 - 1)):=by
  obtain⟨j',rfl⟩:∃j',j=j'+1:=⟨j - 1,O⟩
  rw[Nat.add_sub_cancel,DN s (k+1) j' O,sL,HJ.o,Nat.add_sub_cancel]
  simp only[show k+1+j'=k+(j'+1) by omega]
 have qo:=HF.o (j+1) O
 rw[←jr] at qo
 have HN:=V jr
 clear jr
 go_wp2_with fail
 refine⟨⟨j+1,f * 64+s[k+j].toNat % 64,O,O,zE,zE,qo,HN⟩,zV⟩):p:=h
theorem Ma{p:Prop}(h:p:=by
 have i2:0≤(p:Int) - 1:=O
 have i3:((p:Int) - 1).toNat=p - 1:=O
 have i4:(p:Int) - 1 < (m:Int):=O
 have i5:Ov.wrap ((p:Int) - 1)=(p:Int) - 1:=Og _ O
 obtain⟨yu,um⟩:∃yu,ys[p - 1].uid=yu:=⟨_,rfl⟩
 rw[um] at y0
 have Az:=V um
 clear hs hv1 Ht um kg
 by_cases Dl:u < yu
 ·have mh:Z (∀i (hi:i < ys.length),p - 1≤i→u < ys[i].uid):=V fun i hi hpi=>by
   by_cases he:i=p - 1
   ·subst he
    rw[Az.o]
    exact Dl
   ·exact HP.o i hi O
  have i6:((p - 1:Nat):Int)=(p:Int) - 1:=O
  have Dk:=V i6
  clear i6
  go_wp2_with fail
  go_round
  case rel=>exact⟨p - 1,O,by rw[Dk.o],mh⟩
  case measure=>simp[intOf];omega
 ·have HL:Z (∀(h0:0 < p) (hp:p - 1 < ys.length),ys[p - 1].uid≤u):=V fun _ _=>by
   rw[Az.o]
   omega
  go_wp2_with fail
  go_meet
  exact⟨p,hp,rfl,HP,HL,V rfl⟩):p:=h
theorem Mc{p:Prop}(h:p:=by
 go_enter func60,ntmps60
 go_upto_region 1 with(fail)
 rw[←Gu.o,←Gv.o]
 clear gy
 go_wp2_with (first
  |(go_at_call 119;refine jf.mono ?_;rintro e w1 ⟨rfl,ax⟩;have d1:=(ax.cell (p:=⟨B,0,none⟩) Gw).trans d0;have ak:=zj dz.o ax;have uf:=(H.o.later ak).yZ;have Gt:=(H.o.later ak).xj;have c6:w1.cell? (Y g 6)=some (I x.N3.ym):=(H.o.later ak).cells 6;have c9:=(H.o.later ak).vF;have bg:=V ak;clear ax jf ak)
  |fail)
 go_ret
 exact⟨rfl,q,zL.of_below H.o bg.o⟩):p:=h
theorem Md{p:Prop}(h:p:=by
 go_wp2_with fail
 refine bodyPost_ret (v:=.tuple #[.agg #[RP ⟨#[]⟩,RP ⟨#[]⟩],.bool false]) ?_ rfl Ea.o
 have z0:(w.alloc (.cells #[RP ⟨#[]⟩,RP ⟨#[]⟩] 240)).cell? (Y w.heap.size 0)=some (RP ⟨#[]⟩):=(NG.new w 240 #[RP ⟨#[]⟩,RP ⟨#[]⟩]).cell 0
 have z1:(w.alloc (.cells #[RP ⟨#[]⟩,RP ⟨#[]⟩] 240)).cell? (Y w.heap.size 1)=some (RP ⟨#[]⟩):=(NG.new w 240 #[RP ⟨#[]⟩,RP ⟨#[]⟩]).cell 1
 simp[results,Tryz.results212,go_sem,z0,z1]):p:=h
theorem Me{p:Prop}(h:p:=by
 have mh:Z (∀j (hj:j < acc.length),j < p+1→acc[j] < x):=V fun j hj hj2=>by
  by_cases Ck:j=p
  ·subst Ck
   exact hc
  ·exact HP.o j hj O
 generalize acc[p]=y at e1 f1
 clear hc
 go_wp2_with fail
 go_quiet (fail)
 go_wp2_with fail
 have gu:Z (wr.drewN nq=w2.drewN (q+nq)):=V JG
 refine⟨?_,zV⟩
 first|exact⟨p+1,_,O,zE,mh,gu⟩|((repeat apply OA);exact⟨⟨p+1,_,O,zE,mh,gu⟩,rfl⟩)):p:=h
theorem Mf{p:Prop}(h:p:=by
 have bf:NH (q.own g) w W2:=h.N4.trans hc fun i hi=>.inr (hS i hi)
 have ko:∀k∈q.own g,k∉S:=fun k hk hm=>by
  have h1:=hw.lt k hk
  have h2:=hS k hm
  omega
 exact⟨⟨h.at_.blk.N4 hc (ko g zW.ZP),h.at_.log.N4 hc (ko _ zW.J4) (fun b hb=>ko b (zW.Yp hb)),h.at_.zg.N4 hc (fun b hb=>ko b (zW.Yo hb)),h.at_.same,h.at_.zC.N4 hc (fun b hb=>ko b (zW.Z5 hb)),fun m hm=>(hw.parts m hm).step bf fun k hk=>.inl hk⟩,bf,fun k hk=>.inl hk⟩):p:=h
theorem Mg{p:Prop}(h:p:=by
 by_cases h0:th=0
 ·subst h0
  go_wp2_with fail
  go_meet
  exact⟨rfl,V ((NH.refl [B] wm).set (.inl zv) _),V (BM.o.set 1 _)⟩
 ·have Fw:(th==0)=false:=Xq
  have e1:(if th=0 then (1:Int) else 2)=2:=Om h0
  have e2:(if th=0 then x.zN+1 else th)=th:=Om h0
  have E1:=V e1
  have E2:=V e2
  clear e1 e2
  go_wp2_with fail
  go_meet
  exact⟨by rw[E1.o],V (NH.refl _ _),V (by rw[E2.o];exact BM.o)⟩):p:=h
theorem IL{p:Prop}(h:p:=by
 intro v2 h2 w2 hs2 hc2 ho2
 have xh:Od w w w2:=⟨hc2.os,hc2.tape,hc2.output,Ol zv hc2.size,fun k hk=>(hc2.block k zT zT).trans (Below.heap_alloc w _ k hk)⟩
 have hfr:∀b,h2=some b→w.heap.size≤b:=by
  intro b hb
  rcases ho2 with h3|⟨g,h3,h4⟩
  ·rw[hb] at h3
   injection h3 with h3
   omega
  ·rw[hb] at h3
   injection h3 with h3
   omega
 clear hc2 ho2
 go_wp2
 go_ret
 exact⟨v2,h2,rfl,hs2,xh,hfr⟩):p:=h
theorem Mh{p:Prop}(h:p:=by
 obtain⟨v,bq,gm⟩:=h.log
 exact⟨h.blk.ne bq zD,fun e=>gm.vu h.blk zD g e rfl,fun e=>h.zg.vu h.blk zD g e rfl,fun e=>h.zC.vu h.blk zD g e rfl,fun e=>h.zg.vu bq zD _ e rfl,fun e=>h.zC.vu bq zD _ e rfl,
  fun e=>gm.vu bq zD _ e rfl,gm.np h.zg zD,gm.np h.zC zD,h.zg.np h.zC zD⟩):p:=h
theorem IM{p:Prop}(h:p:=by
 rw[O4,List.drop_append_of_le_length O,List.drop_take,Nat.add_sub_cancel_left,←O4]
 rw[List.take_append_of_le_length Ke]
 rw[←htake,List.take_take,Nat.min_eq_left O]
 exact Ou Ke):p:=h
theorem Mi{p:Prop}(h:p:=by
 have h1:(l.take (j+1)).filter (fun x=>!p x)=(l.take j).filter (fun x=>!p x):=by
  rw[Oh hj,List.filter_append]
  simp[hp]
 refine⟨h.sl.keep (fun b hb2=>hb.block b (h.sl.lt b hb2)),h.len,by rw[h1];exact h.i_,by have:=h.lt;omega,by rw[h1];exact h.done,?_,h.N4.trans (NH.of_below hb hh.toList) (fun k hk=>.inl hk)⟩
 have h2:=congrArg (List.drop 1) h.rest
 simpa[List.drop_drop] using h2):p:=h
theorem Mj{p:Prop}(h:p:=by
 go_enter func64,ntmps64
 go_wp2_with (first
  |(go_at_call 134;refine tu.mono ?_;rintro e w1 ⟨rfl,rfl⟩;clear tu)
  |(go_at_call 127;refine(Gr.o w (Ok _ _)).mono ?_;rintro e w2 ⟨A3,p3,h3,rfl,uq,iq,qb⟩;have ay:=V iq;have Gs:=V uq;have Gq:Z (∀b,h3=some b→w.heap.size≤b):=V qb;clear uq iq qb)
  |fail)
 go_ret
 exact⟨rfl,q,zK.of_below H.o.at_ ay.o⟩):p:=h
theorem Mk{p:Prop}(h:p:=by
 have iw:¬(k:Int) < (n:Int):=O
 have hkn:k=n:=O
 subst hkn
 obtain⟨jy,h0,gq,ig⟩:=HU.o
 rw[Ou pS] at gq
 obtain⟨A0,c0,rfl,_,_⟩:=gq.form
 have ja:=V gq
 have jm:=V ig
 have dz:=V jy
 clear gq ig jy HU
 go_wp2_with fail
 go_ret
 first|exact⟨_,_,_,rfl,ja.o,jm.o,dz.o⟩|exact⟨_,_,rfl,_,(by simpa using ja.o),jm.o,dz.o⟩):p:=h
theorem Ml{p:Prop}(h:p:=by
 have i2:0≤(r:Int) - 1:=O
 have i3:((r:Int) - 1).toNat=r - 1:=O
 have i4:((r - 1:Nat):Int)=(r:Int) - 1:=O
 have oq:=V i4
 clear hcell q1 q2 G8 i4
 generalize (acc[r - 1]' O)=y at e1 HZ
 go_wp2_with fail
 refine⟨?_,zV⟩
 first|exact⟨r - 1,O,O,by rw[oq.o],HZ⟩|((repeat apply OA);exact⟨⟨r - 1,O,O,by rw[oq.o],HZ⟩,rfl⟩)):p:=h
theorem Mm{p:Prop}(h:p:=by
 apply List.ext_getElem?
 intro k
 rw[List.getElem?_take]
 by_cases hk:k < d.size
 ·rw[OG hk,List.getElem?_drop,O5]
  simp only[putCells,Array.getElem?_toList,Array.getElem?_mapIdx]
  rw[Array.getElem?_eq_getElem (show off+k < cur.size by omega),Option.map_some,OG ⟨O,O⟩,Nat.add_sub_cancel_left]
  simp[hk]
 ·rw[Om hk,List.getElem?_eq_none]
  simp
  omega):p:=h
theorem Mn{p:Prop}(h:p:=by
 rw[Om hk,Pr]
 refine⟨h1,fun x=>?_⟩
 rw[h2]
 have xq:¬(m=0∨d.toArray[m]!≠d.toArray[m - 1]!):=by simpa[Lib.keeps] using hk
 constructor
 ·rintro⟨j,hj,he⟩
  exact⟨j,O,he⟩
 ·rintro⟨j,hj,he⟩
  by_cases qm:j=m
  ·subst qm
   refine⟨j - 1,O,?_⟩
   rw[←he]
   refine Decidable.byContradiction fun hne=>xq (.inr fun e=>hne e.symm)
  ·exact⟨j,O,he⟩):p:=h
theorem Mo{p:Prop}(h:p:=by
 refine⟨h.blk.N4 hc (hd g zW.ZP),h.log.N4 hc (hd _ zW.J4) (fun k hk=>hd k (zW.Yp hk)),h.zg.N4 hc (fun k hk=>hd k (zW.Yo hk)),h.same,h.zC.N4 hc (fun k hk=>hd k (zW.Z5 hk)),fun m hm=>?_⟩
 exact((h.parts m hm).wider hS).keep hc.size (fun k hk hn=>hc.block k hk (fun hm=>hn (PJ _ hm))) (fun k _ hn hk=>hn (List.mem_append_right _ hk))):p:=h
theorem Mp{p:Prop}(h:p:=by
 have f1:(y==t)=false:=vM
 have fu:Z (∀j (hj:j < l.length),j < k+1→l[j]≠t):=V (fun j hj h=>by
  by_cases Ce:j < k
  ·exact HK.o j hj Ce
  ·obtain rfl:j=k:=O
   rw[Cc.o]
   exact hc)
 clear hc
 go_wp2_with fail
 refine⟨?_,zV⟩
 first|exact⟨k+1,O,zE,fu⟩|((repeat apply OA);exact⟨⟨k+1,O,zE,fu⟩,rfl⟩)):p:=h
theorem I0{p:Prop}(h:p:=by
 simp only[zW.own,OB,OO,Pe] at hk
 rcases hk with rfl|rfl|(hk|hk)|hk
 ·rw[(hB.inj h.blk).1] at hT;exact absurd hT zD
 ·rw[(hB.inj bq).1] at hT;exact absurd hT zD
 ·rw[eu gm hk] at hT;exact absurd hT zD
 ·rw[eu h.zg hk] at hT;exact absurd hT zD
 ·rw[eu h.zC hk] at hT;exact absurd hT zD):p:=h
theorem Mq{p:Prop}(h:p:=by
 obtain⟨v,bq,gm⟩:=h.log
 intro b hb
 simp only[zW.own,OB,OO] at hb
 rcases hb with rfl|rfl|(hb|hb)|hb
 ·exact⟨_,_,h.blk,zD,zD⟩
 ·exact⟨_,_,bq,zD,zD⟩
 ·exact gm.typed zD zD b hb
 ·exact h.zg.typed zD zD b hb
 ·exact h.zC.typed zD zD b hb):p:=h
theorem Mr{p:Prop}(h:p:=by
 have hn:ss.length=n:=Jr
 intro j hj
 have wu:j < ss.length:=vL
 obtain⟨b',jk,jl,hh,hv,_,_,_,aj⟩:=hs.at_ O
 simp only[PH,Pk,Addr.mk.injEq,and_true,true_and] at hv
 obtain⟨⟨rfl,rfl⟩,rfl⟩:=hv
 obtain⟨h1,h2⟩:=aj j O
 refine⟨?_,h2⟩
 rw[h1]
 simp[wu]):p:=h
theorem Ms{p:Prop}(h:p:=by
 have Cq:=V Cn
 have Co:=V Cm
 have q1:(0:Int)≤(i:Int):=O
 have q2:(i:Int)≤(j:Int):=O
 have q3:(j:Int)≤(cap:Int):=O
 have q4:¬cap=i:=O
 have q5:((cap:Int)==(i:Int))=false:=zT
 have q6:i≤cap:=O
 have q7:i≤j:=O
 clear Gc Cn Cm
 go_wp2_with fail
 go_ret
 exact⟨_,rfl,Cq.o,Co.o⟩):p:=h
theorem Mt{p:Prop}(h:p:=by
 have hl:(acc.take k).length=k:=Zh
 rw[List.set_append_right _ _ O,hl,Nat.sub_self,List.set_cons_zero]
 obtain⟨j,rfl⟩:∃j,k=j+1:=⟨k - 1,O⟩
 simp only[Nat.add_sub_cancel]
 rw[Oh O,O4,O7 (show j < acc.length by omega)]
 rfl):p:=h
theorem Mu{p:Prop}(h:p:=by
 have iw:¬(k:Int) < (n:Int):=O
 have hkn:k=n:=O
 subst hkn
 rw[Ou pS] at gq
 have ja:=V gq
 have jm:=V ig
 have dz:=V jy
 clear gq ig jy HU
 go_wp2_with fail
 go_ret
 first|exact⟨_,_,_,rfl,ja.o,jm.o,dz.o⟩|exact⟨_,_,rfl,_,(by simpa using ja.o),jm.o,dz.o⟩):p:=h
theorem Mv{p:Prop}(h:p:=by
 have Bz:0 < e.length:=by
  cases e with
  |nil=>exact absurd rfl hne
  |cons y r=>simp
 obtain⟨b,off,cap,hb,hv,_,_,af,aj⟩:=hs.at_ Bz
 injection hv with hv1
 refine⟨b,off,hv1,af,fun hm=>hho b hb ?_,fun j hj=>(aj j hj).1⟩
 rcases OB.1 hm with hm|hm
 ·rw[hm]
  exact zW.J4
 ·exact zW.Yp yT):p:=h
theorem Mw{p:Prop}(h:p:=by
 rw[←hp];unfold gS;rw[Om O,Om O,Om O,Om O]
 rw[show (240+r / 262144).toNat=240+r.toNat / 262144 by omega,show (128+r % 64).toNat=128+r.toNat % 64 by omega,show (128+r / 64 % 64).toNat=128+r.toNat / 64 % 64 by omega,show (128+r / 4096 % 64).toNat=128+r.toNat / 4096 % 64 by omega]):p:=h
theorem Mx{p:Prop}(h:p:=by
 go_enter func58,ntmps58
 go_wp2_with (first
  |(go_at_call 119;refine jf.mono ?_;rintro e w1 ⟨rfl,ax⟩;have bg:=V ax;clear ax jf)
  |(go_at_call 105;refine(lg w1).mono ?_;rintro e w2 ⟨rfl,hb2⟩;have ay:=V (zj bg.o hb2);clear hb2 lg)
  |fail)
 go_ret
 exact⟨rfl,q,zL.of_below H.o ay.o⟩):p:=h
theorem My{p:Prop}(h:p:=by
 intro u hu
 obtain⟨m,hm,yg⟩:=List.mem_flatMap.1 hu
 obtain⟨A1,c1,hk,_,_⟩:=(h.parts m hm).keys.form
 obtain⟨A2,c2,hv,_,_⟩:=(h.parts m hm).mem.form
 simp only[xV,OB,List.not_mem_nil,or_false] at yg
 rcases yg with rfl|rfl|rfl|rfl|rfl|rfl|rfl|rfl
 all_goals first|rfl|(rw[hk];rfl)|(rw[hv];rfl)):p:=h
theorem Mz{p:Prop}(h:p:=by
 have g1:decide (p < m)=false:=OD yw
 have qy:Z (∀hp:p < acc.length,¬acc[p] < x):=V fun Cj=>absurd Cj bE
 go_wp2_with fail
 go_quiet (fail)
 go_wp2_with fail
 have gu:Z (wr.drewN nq=w2.drewN (q+nq)):=V JG
 go_meet
 exact⟨p,_,hp,rfl,HP,qy,gu⟩):p:=h
theorem MA{p:Prop}(h:p:=by
 go_wp2_with fail
 go_quiet ((go_at_call 55;exact dG (HQ.o _)))
 go_wp2_with fail
 have gu:Z (wr.drewN nq=w.drewN (d+nq)):=V JG
 refine⟨?_,zV⟩
 first|exact⟨k+1,_,O,zE,gu,fu⟩|((repeat apply OA);exact⟨⟨k+1,_,O,zE,gu,fu⟩,rfl⟩)):p:=h
theorem MB{p:Prop}(h:p:=by
 rcases yj with hp|⟨hp,hr⟩
 ·subst hp
  go_wp2_with fail
  go_meet
  exact⟨rfl,ay⟩
 ·have G6:(zB !=0)=true:=YN
  have Bg:¬r < 0:=O
  go_wp2_with (first
   |(go_at_call 55;refine ax.mono ?_;rintro e w3 ⟨rfl,rfl⟩;clear ax)
   |fail)
  go_meet
  exact⟨by rw[OD (Int.not_lt.2 hr)],ay⟩):p:=h
theorem lT{p:Prop}(h:p:=by
 have h5:=h.later hb
 obtain⟨b',jk,jl,jg,_,_,_,_,dw⟩:=h5.Vn i hi
 have h6:=hv.symm.trans jg
 injection h6 with e1 e2 e3
 injection e1 with e1
 injection e1 with e1 e4
 subst e1 e4 e3
 refine⟨by rw[h5.yZ,hv2],((dw 1 O).1).trans (by rw[hy];rfl),((dw 2 O).1).trans (by rw[hy];rfl)⟩):p:=h
theorem MC{p:Prop}(h:p:=by
 go_wp2_with (first
  |(go_at_call 179;refine(Io.o _ _ vg.o).mono ?_;rintro e w4 ⟨rfl,hb4⟩;have ah:=V (zj bn.o hb4);clear hb4)
  |fail)
 refine⟨?_,zV⟩
 first|exact⟨k+1,O,zE,ah,mh⟩|((repeat apply OA);exact⟨⟨k+1,O,zE,ah,mh⟩,rfl⟩)):p:=h
theorem MD{p:Prop}(h:p:=by
 obtain⟨b,off,cap,hh,hv,h1,h2,h3,aj⟩:=h.zg.at_ O
 refine⟨b,off,cap,hv,hh,h1,h2,h3,fun j hj=>?_⟩
 have af:i * 6+j < x.zg.length * 6:=O
 obtain⟨c1,c2⟩:=aj (i * 6+j) af
 rw[←O1] at c1 c2
 exact⟨c1.trans (yv xF x.zg i j hi hj),c2⟩):p:=h
theorem ME{p:Prop}(h:p:=by
 obtain⟨b,off,cap,hh,hv,h1,h2,h3,aj⟩:=h.zC.at_ O
 refine⟨b,off,cap,hv,hh,h1,h2,h3,fun j hj=>?_⟩
 have af:i * 8+j < x.zC.length * 8:=O
 obtain⟨c1,c2⟩:=aj (i * 8+j) af
 rw[←O1] at c1 c2
 exact⟨c1.trans (yv xr q.ms i j hi2 hj),c2⟩):p:=h
theorem MF{p:Prop}(h:p:=by
 exact qL _ [] fr x.spent _ _ (O9 func73 zQ rfl) W (oh.reads [] zv) (by rw[←su.o];exact Gg) (fun W2 hb2 y hy=>(lD W2 g q x (H.o.later (zj (zj Gh.o hb) hb2)) oo y (zq.o y hy)).mono fun e w' ⟨e1,e2⟩=>⟨e1,zj hb2 e2⟩)):p:=h
theorem Kf{p:Prop}(h:p:=by
 go_enter func59,ntmps59
 go_wp2_with (first
  |(go_at_call 55;refine Gm.mono ?_;rintro e w3 ⟨rfl,rfl⟩;clear Gm)
  |(go_at_call 114;refine lg.mono ?_;rintro e w2 ⟨rfl,hb2⟩;have ay:=V hb2;clear hb2)
  |fail)
 go_ret
 rw[HR.o]
 exact⟨rfl,q,zK.of_below HS.o ay.o⟩):p:=h
theorem MG{p:Prop}(h:p:=by
 constructor
 ·intro hz
  have h1:=(h z).1 (OP _ hz)
  rcases OB.1 h1 with rfl|h1
  ·have:=a1 z hz
   omega
  ·exact h1
 ·intro hz
  have h1:=(h z).2 (OP _ hz)
  rcases OB.1 h1 with rfl|h1
  ·have:=b1 z hz
   omega
  ·exact h1):p:=h
theorem MH{p:Prop}(h:p:=by
 have mq:l.take (k+1)=a++[x]:=by
  rw[h1,←hk,List.take_length_add_append]
  rfl
 have ze:(l.take (k+1)).filter (fun x=>!p x)=a:=by
  rw[mq,List.filter_append,Gb]
  simp[h2]
 refine⟨by rw[←ou];exact hs,rfl,by rw[ze,hk],O,?_,rfl,NH.refl _ _⟩
 rw[ze,h1,←hk,List.take_left]):p:=h
theorem MI{p:Prop}(h:p:=by
 have qy:Z (∀hp:p < acc.length,¬acc[p] < x):=V fun _=>hc
 generalize acc[p]=y at e1 f1
 clear hc
 go_wp2_with fail
 go_quiet (fail)
 go_wp2_with fail
 have gu:Z (wr.drewN nq=w2.drewN (q+nq)):=V JG
 go_meet
 exact⟨p,_,hp,rfl,HP,qy,gu⟩):p:=h
theorem MJ{p:Prop}(h:p:=by
 rw[←hp];unfold gS;rw[Om O,Om O,Om O,OG O]
 rw[show (224+r / 4096).toNat=224+r.toNat / 4096 by omega,show (128+r % 64).toNat=128+r.toNat % 64 by omega,show (128+r / 64 % 64).toNat=128+r.toNat / 64 % 64 by omega]):p:=h
theorem MK{p:Prop}(h:p:=by
 go_wp2_with (first
  |(go_at_call 54;refine Hr.o.mono ?_;rintro e w2 ⟨rfl,hb2⟩;have ow:=kr _ hb2;clear hb2)
  |fail)
 refine⟨?_,zV⟩
 first|exact⟨k+1,O,zE,ow⟩|((repeat apply OA);exact⟨⟨k+1,O,zE,ow⟩,rfl⟩)):p:=h
theorem ML{p:Prop}(h:p:=by
 have hrel:=Kq HU.o hke HE.o ko q2 q1 q4 hs2 hc2 ho2
 have uo:=V hrel
 clear hrel hs2 hc2 ho2
 go_wp2
 refine⟨?_,zV⟩
 first|exact⟨k+1,_,_,O,zE,uo⟩|((repeat apply OA);exact⟨⟨k+1,_,_,O,zE,uo⟩,rfl⟩)):p:=h
theorem MM{p:Prop}(h:p:=by
 intro k hk
 obtain⟨v,bq,gm⟩:=h.log
 simp only[zW.own,OB,OO,Pe] at hk
 rcases hk with rfl|rfl|(hk|hk)|hk
 ·exact h.blk.lt
 ·exact bq.lt
 ·exact gm.lt k hk
 ·exact h.zg.lt k hk
 ·exact h.zC.lt k hk):p:=h
theorem MN{p:Prop}(h:p:=by
 have dh:=hw.zC
 rw[hv] at dh
 have hn:n=x.zC.length:=by
  obtain⟨A,c,fq,_⟩:=dh.form
  injection fq
 have hl:=hw.XC
 obtain⟨b',jk,jl,hh,fq,_⟩:=dh.at_ O
 injection fq with e1
 injection e1 with e2
 injection e2 with e3
 rw[hh,e3]):p:=h
theorem MO{p:Prop}(h:p:=by
 clear b1
 go_wp2_with (first
  |(go_at_call 271;(with_reducible refine(hm2 _).mono ?_);rintro e w1 ⟨rfl,rfl⟩;clear hm2)
  |(go_at_call 271;refine(hm1 _).mono ?_;rintro e w1 ⟨rfl,rfl⟩)
  |fail)
 go_ret
 exact⟨rfl,(Ok _ w).alloc (Oq _) _⟩):p:=h
theorem MP{p:Prop}(h:p:=by
 have g1:decide (p < m)=false:=OD yw
 have hd:decide (acc[p]?=some x)=false:=by
  rw[List.getElem?_eq_none Xv]
  rfl
 have HD:=V hd
 clear hd
 go_quiet (fail)
 go_wp2_with fail
 go_meet
 exact⟨_,by rw[HD.o],V rfl⟩):p:=h
theorem MQ{p:Prop}(h:p:=by
 refine hK' _ _ (hk v' h' w' r1 ⟨r2.os,r2.tape,r2.output,Ol zv r2.size,fun k hk hn=>(r2.block k zT hn).trans (Below.heap_alloc _ _ _ hk)⟩ ?_)
 rcases r3 with h2|⟨g,h2,h3⟩
 ·exact .inl h2
 ·exact .inr ⟨g,h2,by simp at h3;omega⟩):p:=h
theorem MR{p:Prop}(h:p:=by
 have hc:NH [] w w':=NH.of_below hb []
 refine⟨h.blk.N4 hc zv,h.log.N4 hc zv zv,h.zg.N4 hc zv,h.same,h.zC.N4 hc zv,fun m hm=>(h.parts m hm).keep hb.size (fun b hb2 _=>hb.block b hb2) (fun _ _ h=>h)⟩):p:=h
theorem MS{p:Prop}(h:p:=by
 have hb:YG S[k]=false:=aS
 rw[hb] at iy
 go_wp2_with fail
 refine⟨?_,zV⟩
 first|exact⟨k+1,O,zE,by rw[iy.o];rfl⟩|((repeat apply OA);exact⟨⟨k+1,O,zE,by rw[iy.o];rfl⟩,rfl⟩)):p:=h
theorem MT{p:Prop}(h:p:=by
 rw[mr]
 have E5:((is.length:Int)==0)=false:=by simpa using hne
 obtain⟨A,cap,qw,_,_⟩:=h.zg.form
 rw[qw]
 have H:=V h
 clear qw h mr hne
 go_enter func62,ntmps62
 go_wp2_with fail
 go_ret2
 exact⟨rfl,q,zK.refl H.o.at_⟩):p:=h
theorem MU{p:Prop}(h:p:=by
 have l8:=V (HR.o.skip hj2 (by rw[HY.o];exact hq) ah.o)
 refine⟨?_,zV⟩
 first|exact⟨i,j+1,cur,O,O,rfl,zE,l8⟩|((repeat apply OA);exact⟨⟨i,j+1,cur,O,O,rfl,zE,l8⟩,rfl⟩)):p:=h
theorem MV{p:Prop}(h:p:=by
 rw[OO,h2,OI]
 constructor
 ·rintro(⟨j,hj,he⟩|he)
  ·exact⟨j,O,he⟩
  ·exact⟨m,O,he.symm⟩
 ·rintro⟨j,hj,he⟩
  by_cases qm:j=m
  ·subst qm
   exact .inr he.symm
  ·exact .inl ⟨j,O,he⟩):p:=h
theorem MW{p:Prop}(h:p:=by
 clear hp ht G5 HG Ec HV HF HJ
 go_wp2_with fail
 go_region_with (first
  |(go_at_call 251;refine(Fz _).mono ?_;rintro e w4 ⟨rfl,hb4⟩;have ah:=V (bdrop hb4);clear hb4)
  |fail)
 all_goals
  go_wp2_with fail
  go_ret2
  exact⟨rfl,ah.o⟩):p:=h
theorem MX{p:Prop}(h:p:=by
 have hb:Od w0 w0 W:=hb4.trans (hc.below hb4.size (fun b hb=>ho4 b xQ))
 exact hpred x W ((hb.cell (p:=⟨B,0,none⟩) Gd).trans hcell) ((hsk.keep (fun b hb2=>hb.block b (hsk.lt b hb2))).reads [] zv) hkn):p:=h
theorem MZ{p:Prop}(h:p:=by
 clear hp ht G5 HG HV HF HJ
 go_wp2_with fail
 go_region_with (first
  |(go_at_call 246;refine(Fz _).mono ?_;rintro e w4 ⟨rfl,hb4⟩;have ah:=V (bdrop hb4);clear hb4)
  |fail)
 all_goals
  go_wp2_with fail
  go_ret2
  exact⟨rfl,ah.o⟩):p:=h
theorem M2{p:Prop}(h:p:=by
 have vg:=V l8
 clear l8
 refine⟨?_,zV⟩
 first|exact⟨i+1,j+1,_,O,O,zE,zE,vg⟩|((repeat apply OA);exact⟨⟨i+1,j+1,_,O,O,zE,zE,vg⟩,rfl⟩)):p:=h
theorem M3{p:Prop}(h:p:=by
 have hkn:k=s.size:=O
 subst hkn
 have HN:Z (b=true):=V (by
  rw[←HV.o]
  unfold X5
  rw[List.drop_of_length_le (by rw[jJ];exact Oq _)]
  rfl)
 go_wp2_with fail
 go_ret
 exact⟨xy HN.o.symm,HL.o⟩):p:=h
theorem M4{p:Prop}(h:p:=by
 exact h.log.N4 hc2 (by
  simp only[OB,Pe,not_or]
  exact⟨fun e=>ha.gl e.symm,ha.lb⟩) (fun b hb=>by
  simp only[OB,Pe,not_or]
  exact⟨fun e=>ha.hl Yq,ha.eb b hb⟩)):p:=h
theorem M5{p:Prop}(h:p:=by
 exact h.log.N4 hc2 (by
  simp only[OB,Pe,not_or]
  exact⟨fun e=>ha.gl e.symm,ha.lm⟩) (fun b hb=>by
  simp only[OB,Pe,not_or]
  exact⟨fun e=>ha.hl Yq,ha.em b hb⟩)):p:=h
theorem M6{p:Prop}(h:p:=by
 have iw:¬(k:Int) < (n:Int):=O
 have HE:Z (true=R):=V (HY.o (fun j hj=>HK.o j hj (by rw[ai.o] at hj;omega)))
 go_wp2_with fail
 go_ret
 exact⟨uG HE.o,by rw[HW.o];exact zO (Ok _ _) _⟩):p:=h
theorem M7{p:Prop}(h:p:=by
 go_wp2_with fail
 refine⟨?_,(by show t'.toArray.size < z.toArray.size;rw[PC,PC,HM.o,Im];omega)⟩
 first|exact⟨t',Gi,rfl,HN⟩|((repeat apply OA);exact⟨⟨t',Gi,rfl,HN⟩,rfl⟩)):p:=h
theorem M8{p:Prop}(h:p:=by
 have uz:p=0:=O
 subst uz
 have HL:Z (∀(h0:0 < 0) (hp:0 - 1 < ys.length),ys[0 - 1].uid≤u):=V fun h0=>absurd h0 O
 go_wp2_with fail
 go_meet
 exact⟨0,OE _,rfl,HP,HL,V rfl⟩):p:=h
theorem M9{p:Prop}(h:p:=by
 have h1:=(h x).1 zv
 have h2:=(h y).2 zv
 rcases OB.1 h1 with h1|h1
 ·exact h1
 ·rcases OB.1 h2 with h2|h2
  ·exact h2.symm
  ·have:=b1 x h1
   have:=a1 y h2
   omega):p:=h
theorem Na{p:Prop}(h:p:=by
 intro i hi
 have h1:¬x.spent i=true:=fun h2=>by
  have h3:=Ps.2 ⟨i,hi,h2⟩
  rw[hend.2] at h3
  cases h3
 have h4:¬x.N3.vC < yb x.zg i:=Jt
 omega):p:=h
theorem Nb{p:Prop}(h:p:=by
 go_enter func36,ntmps36
 go_wp2_with (first
  |(go_at_call 87;refine Ho.mono ?_;rintro e w1 ⟨rfl,ax⟩;have bg:=V ax;clear ax)
  |fail)
 go_ret
 exact⟨rfl,q,zL.of_below H.o bg.o⟩):p:=h
theorem Nc{p:Prop}(h:p:=by
 have l8:=V Bg
 clear Bg
 go_wp2
 refine⟨?_,zV⟩
 first|exact⟨k+1,O,zE,l8.o,Eb,hb2⟩|((repeat apply OA);exact⟨⟨k+1,O,zE,l8.o,Eb,hb2⟩,rfl⟩)):p:=h
theorem Nd{p:Prop}(h:p:=by
 have hkn:k=n:=O
 subst hkn
 have hm:=mK name l (fun j hj=>HM.o j hj O)
 rw[F3.o] at hm
 injection hm with hm1 hm2
 subst hm1 hm2
 go_wp2_with fail
 go_ret2
 exact⟨rfl,HB.o⟩):p:=h
theorem Nf{p:Prop}(h:p:=by
 go_wp2_with (first
  |(go_at_call 5;refine Dm.mono ?_;rintro e w1 ⟨b,rfl,hb,ax⟩;have HB:=V hb;have bg:=V ax;clear hb ax Dm)
  |fail)
 go_meet
 exact⟨b,rfl,HB,bg⟩):p:=h
theorem Ng{p:Prop}(h:p:=by
 rw[XH]
 generalize yU p l=r at hi
 clear hp hr hn eg
 go_enter func72,ntmps72
 go_wp2_with (go_at_call 150;refine hi.mono ?_;rintro e w' ⟨rfl,dn⟩)
 go_ret
 exact⟨rfl,dn⟩):p:=h
theorem Nh{p:Prop}(h:p:=by
 clear oh Fv Fu
 go_wp2_with fail
 refine⟨?_,zV⟩
 first|exact⟨k+1,_,_,O,zE,uo⟩|((repeat apply OA);exact⟨⟨k+1,_,_,O,zE,uo⟩,rfl⟩)):p:=h
theorem Ni{p:Prop}(h:p:=by
 constructor
 ·rintro((h|h)|h)
  ·exact .inr (.inl h)
  ·exact .inl h
  ·exact .inr (.inr h)
 ·rintro(h|h|h)
  ·exact .inl (.inr h)
  ·exact .inl (.inl h)
  ·exact .inr h):p:=h
theorem Nj{p:Prop}(h:p:=by
 refine(((q4.alloc o).drew).trans hc2 fun i hi=>?_)
 simp at hi
 rcases hu.own with h1|⟨k1,h1,h3⟩
 ·rw[h1] at hi
  exact .inl (by simp[hi])
 ·rw[h1] at hi
  simp at hi
  subst hi
  exact .inr h3):p:=h
theorem Nk{p:Prop}(h:p:=by
 go_wp2_with fail
 refine⟨?_,zV⟩
 first|exact⟨k+1,O,zE,by rw[iy.o];rfl⟩|((repeat apply OA);exact⟨⟨k+1,O,zE,by rw[iy.o];rfl⟩,rfl⟩)):p:=h
theorem Nl{p:Prop}(h:p:=by
 go_wp2_with fail
 refine⟨?_,zV⟩
 first|exact⟨r - 1,O,O,by rw[oq.o],HZ⟩|((repeat apply OA);exact⟨⟨r - 1,O,O,by rw[oq.o],HZ⟩,rfl⟩)):p:=h
theorem Nn{p:Prop}(h:p:=by
 have:=hS i j (OE _) Fg O
 rw[PD d' j wu,PD d' i Fh,ltG] at this
 simp only[decide_eq_false_iff_not] at this
 simp only[Array.getElem_toList]
 omega):p:=h
theorem Kg{p:Prop}(h:p:=by
 constructor
 ·rintro(h|h|h)
  ·exact .inr (.inl h)
  ·exact .inl h
  ·exact .inr (.inr h)
 ·rintro(h|h|h)
  ·exact .inr (.inl h)
  ·exact .inl h
  ·exact .inr (.inr h)):p:=h
theorem Np{p:Prop}(h:p:=by
 have hc:=h.turned.N4
 exact⟨k2.os.trans hc.os,k2.tape.trans hc.tape,k2.output.trans hc.output,Ol hc.size k2.size,fun i hi hn=>(k2.block i hi).trans (hc.block i hi hn)⟩):p:=h
theorem Kh{p:Prop}(h:p:=by
 refine⟨(Y b off),ZE,V (fun t u hu=>?_)⟩
 have h0:Dx.length=0:=by
  rw[hlen,show n - (i+1)=0 by omega,Nat.zero_mul]
 rw[List.length_eq_zero_iff.1 h0] at hu
 simp at hu):p:=h
theorem Nq{p:Prop}(h:p:=by
 rw[h1,←h.done,Oh (by rw[Pd];omega),List.take_set,Ph]
 congr 1
 rw[List.set_eq_of_length_le Zh]):p:=h
theorem Nr{p:Prop}(h:p:=by
 have h1:=h.same
 have h2:(q.ms.map (·.p))[i]?=x.zC[i]?:=by rw[h1]
 rw[O5,Ot hi2,Ot hi] at h2
 exact O6 h2):p:=h
theorem Ns{p:Prop}(h:p:=by
 unfold Oper.wp execOp
 simp only[ho,resolve,invoke,builtin,Sem.run_bind,Sem.run_pure,Result.andThen_ok,List.map_toArray,OY,List.map_nil,hs,hx,hr]
 exact hk v' h' w' r1 r2 r3):p:=h
theorem Nt{p:Prop}(h:p:=by
 have h1:=h.at_.later hb
 obtain⟨b1,o1,c1,hv1,_,_,_,_,kg⟩:=h1.ud i O zw
 refine⟨b1,o1,c1,by rw[←hv1];exact h1.xj,?_⟩
 rw[hm] at kg
 exact(kg 4 O).1):p:=h
theorem Nu{p:Prop}(h:p:=by
 rw[←hp];unfold gS;rw[Om O,Om O,OG O]
 rw[show (192+r / 64).toNat=192+r.toNat / 64 by omega,show (128+r % 64).toNat=128+r.toNat % 64 by omega]):p:=h
theorem EC{p:Prop}(h:p:=by
 have kf:w3.frozen? (Y (N+1) 0)=false:=(HB.o.N4 F5 (fun hm=>by have:=HF.o (N+1) yT;omega)).frozen 0
 have F4:=V hp
 clear uq F5 qb hp
 gi_wp2
 exact F4.o):p:=h
theorem oO{p:Prop}(h:p:=by
 refine⟨rfl,rfl,rfl,zv,fun k hk hne=>?_⟩
 rw[heap_grow_old _ _ yi]
 have:b≠k:=fun e=>hne (by simp[e])
 simp[putRow,mapBlock,Rf,Array.getElem?_modify,this]):p:=h
theorem ED{p:Prop}(h:p:=by
 go_enter func61,ntmps61
 go_wp2_with (first
  |(go_at_call 55;refine Gl.mono ?_;rintro e w3 ⟨rfl,rfl⟩;clear Gl)
  |fail)
 go_ret
 rw[HR.o]
 exact⟨rfl,q,zK.refl HS.o⟩):p:=h
theorem fK{p:Prop}(h:p:=by
 intro e Bj n u o xs hs ho
 rcases hs.2 with⟨h2,_⟩|⟨b,off,cap,cur,h2,_,h3,_⟩
 ·rw[ho] at h2
  cases h2
 ·rw[ho] at h2
  obtain rfl:=O6 h2
  exact(hB.inj h3).1):p:=h
theorem EE{p:Prop}(h:p:=by
 go_wp2_with fail
 go_quiet ((go_at_call 55;exact dG (HQ.o _)))
 go_wp2_with fail
 go_ret
 exact⟨uG HE.o,by rw[HW.o];exact zO (zO (Ok _ _) _) _⟩):p:=h
theorem EF{p:Prop}(h:p:=by
 go_wp2_with fail
 refine⟨?_,zV⟩
 first|exact⟨i+1,_,hh,O,rfl,zE,Gj⟩|((repeat apply OA);exact⟨⟨i+1,_,hh,O,rfl,zE,Gj⟩,rfl⟩)):p:=h
theorem EG{p:Prop}(h:p:=by
 have iw:¬(k:Int) < (n:Int):=O
 have HE:Z ((-1:Int)=R):=V (HN.o (fun t ht=>HK.o t ht (by rw[ai.o] at ht;omega)))
 go_wp2_with fail
 go_ret
 exact⟨UE HE.o,rfl⟩):p:=h
theorem EH{p:Prop}(h:p:=by
 rw[show x.zC.find? (fun m=>decide (m.id=id))=none from List.find?_eq_none.2 (fun m hm hd=>Gn (by
  have:m.id=id:=V6
  rw[←this]
  exact OV hm))]):p:=h
theorem EI{p:Prop}(h:p:=by
 go_wp2_with (first
  |(go_at_call 86;with_reducible refine(Fj _).mono ?_;rintro e w3 ⟨rfl,rfl⟩)
  |fail)
 go_ret
 exact⟨rfl,0,_,by rw[alloc_eq_grow,alloc_eq_grow,grow_grow];rfl⟩):p:=h
theorem EJ{p:Prop}(h:p:=by
 go_wp2_with (first
  |(go_at_call 82;refine hc2.mono ?_;rintro e w2 ⟨rfl,hb⟩)
  |fail)
 go_ret
 exact⟨rfl,((Ok _ _).alloc (Oq _) _).trans (hb.mono zv)⟩):p:=h
theorem EK{p:Prop}(h:p:=by
 go_wp2_with fail
 refine⟨?_,zV⟩
 first|exact⟨k+1,O,O,zE,ow⟩|((repeat apply OA);exact⟨⟨k+1,O,O,zE,ow⟩,rfl⟩)):p:=h
theorem EL{p:Prop}(h:p:=by
 have iw:¬(k:Int) < (n:Int):=O
 have HE:Z (false=R):=V (HN.o (fun j hj=>HK.o j hj (by rw[ai.o] at hj;omega)))
 go_wp2_with fail
 go_ret
 exact⟨uG HE.o,rfl⟩):p:=h
theorem EM{p:Prop}(h:p:=by
 split
 · exact h
 · simp only
   repeat' split
   all_goals first
     |exact h
     | (show ((zI _ _ _).length:Int)≤x.N3.xl
        rw[vA]
        exact h)):p:=h
theorem EN{p:Prop}(h:p:=by
 clear hcell q2
 go_wp2_with fail
 refine⟨?_,zV⟩
 first|exact⟨k+1,_,O,zE,HZ⟩|((repeat apply OA);exact⟨⟨k+1,_,O,zE,HZ⟩,rfl⟩)):p:=h
theorem fL{p:Prop}(h:p:=by
 clear jd o8 lu
 go_wp2_with fail
 refine⟨?_,zV⟩
 first|exact⟨k+1,O,zE,HN⟩|((repeat apply OA);exact⟨⟨k+1,O,zE,HN⟩,rfl⟩)):p:=h
theorem EO{p:Prop}(h:p:=by
 have HX:=V (Uj HL.o ah.o)
 refine⟨?_,zV⟩
 first|exact⟨k+n,hn2,zE,HX,HN⟩|((repeat apply OA);exact⟨⟨k+n,hn2,zE,HX,HN⟩,rfl⟩)):p:=h
theorem EP{p:Prop}(h:p:=by
 clear e hlen
 go_enter func206,ntmps206
 go_wp2_with (first
  |(go_at_call 245;refine(Eb _).mono ?_;rintro e w1 ⟨rfl,rfl⟩)
  |fail)
 go_ret2
 exact⟨rfl,Ok _ _⟩):p:=h
theorem EQ{p:Prop}(h:p:=by
 go_wp2_with (first
  |(go_at_call 6;refine(Dn.o _ bg.o).mono ?_;rintro e w5 ⟨rfl,hb⟩;have je:=V (zj bg.o hb);clear hb)
  |fail)
 go_ret
 exact⟨rfl,je.o⟩):p:=h
theorem ER{p:Prop}(h:p:=by
 go_wp2_with (first
  |(go_at_call 6;refine(Dn.o _ Dp.o).mono ?_;rintro e w5 ⟨rfl,hb⟩;have je:=V (zj Dp.o hb);clear hb)
  |fail)
 go_ret
 exact⟨rfl,je.o⟩):p:=h
theorem ES{p:Prop}(h:p:=by
 obtain rfl:l=[]:=Oi h0
 obtain⟨A,cap,rfl,_,_⟩:=hr.form
 refine(sW A cap _ w).mono ?_
 rintro e w' ⟨rfl,rfl⟩
 exact⟨rfl,Ok _ _⟩):p:=h
theorem EU{p:Prop}(h:p:=by
 clear he
 go_wp2_with fail
 refine⟨?_,zV⟩
 first|exact⟨k+1,_,O,zE,HZ⟩|((repeat apply OA);exact⟨⟨k+1,_,O,zE,HZ⟩,rfl⟩)):p:=h
theorem EW{p:Prop}(h:p:=by
 have f1:(y==id)=true:=vM
 have HE:Z ((k:Int)=R):=V (HY.o k jb HK.o (by rw[Cc.o,hc]))
 clear hc
 go_wp2_with fail
 go_ret
 exact⟨UE HE.o,rfl⟩):p:=h
theorem fM{p:Prop}(h:p:=by
 clear hc
 go_wp2_with fail
 refine⟨?_,zV⟩
 first|exact⟨k+1,O,zE,fu⟩|((repeat apply OA);exact⟨⟨k+1,O,zE,fu⟩,rfl⟩)):p:=h
theorem EX{p:Prop}(h:p:=by
 go_wp2_with fail
 refine⟨?_,zV⟩
 first|exact⟨k+1,q1,O,zE,HN⟩|((repeat apply OA);exact⟨⟨k+1,q1,O,zE,HN⟩,rfl⟩)):p:=h
theorem EY{p:Prop}(h:p:=by
 refine⟨hB,hl,⟨rfl,.inr ⟨b,0,1,_,rfl,rfl,hb,Oq _,yV,by simp[uZ],?_⟩⟩,rfl,Sl.nil _ _ _,fun m hm=>by simp at hm⟩
 simp[Yt,zU,uZ]):p:=h
theorem EZ{p:Prop}(h:p:=by
 go_wp2_with (first
  |(go_at_call 172;refine Fy.mono ?_;rintro e w4 ⟨rfl,hb4⟩;have ah:=V hb4;clear hb4 Fy)
  |fail)
 go_ret
 exact⟨uG HF.o,ah.o⟩):p:=h
theorem oP{p:Prop}(h:p:=by
 go_wp2_with fail
 refine⟨?_,zV⟩
 first|exact⟨k+1,O,zE,fu⟩|((repeat apply OA);exact⟨⟨k+1,O,zE,fu⟩,rfl⟩)):p:=h
theorem aN{p:Prop}(h:p:=by
 go_wp2
 go_loopg [5,8] 0 (fun _ _ s8 wr=>s8=I 0∧wr=w)
 case atStart=>exact⟨rfl,rfl⟩
 case round=>
  obtain⟨rfl,rfl⟩:=hrel
  go_wp2
  go_ret
  exact⟨rfl,rfl⟩):p:=h
theorem E0{p:Prop}(h:p:=by
 go_wp2_with fail
 refine⟨?_,zV⟩
 first|exact⟨k+1,O,zE,HZ⟩|((repeat apply OA);exact⟨⟨k+1,O,zE,HZ⟩,rfl⟩)):p:=h
theorem fN{p:Prop}(h:p:=by
 have iw:¬(kk:Int) < (n:Int):=O
 have:kk=n:=O
 subst this
 go_wp2
 go_ret
 refine⟨?_,BW.out⟩
 rw[dE p zs (fun j hj=>A.out j O)]
 rfl):p:=h
theorem E3{p:Prop}(h:p:=by
 split
 ·exact .inl rfl
 ·split
  ·exact .inl rfl
  ·split
   ·exact .inl rfl
   ·split
    ·exact .inl rfl
    ·split
     ·exact .inl rfl
     ·exact .inr ⟨rfl,rfl⟩):p:=h
theorem E6{p:Prop}(h:p:=by
 go_wp2_with fail
 refine⟨?_,zV⟩
 first|exact⟨k+1,O,zE⟩|((repeat apply OA);exact⟨⟨k+1,O,zE⟩,rfl⟩)):p:=h
theorem E7{p:Prop}(h:p:=by
 show (q.ms.set i m2).map (·.p)=x1.zC.set i m2.p
 rw[←Bc,List.map_set]
 show _=((q.ms.set i m1).map (·.p)).set i m2.p
 rw[List.map_set,List.set_set]):p:=h
theorem Fc{p:Prop}(h:p:=by
 refine⟨?_,zV⟩
 first|exact⟨k+1,O,zE,bn,Bl⟩|((repeat apply OA);exact⟨⟨k+1,O,zE,bn,Bl⟩,rfl⟩)):p:=h
theorem Fd{p:Prop}(h:p:=by
 rw[OG hc] at hu
 have hq:(cur==top)=true:=vM
 have HB:=V hu
 clear hu hc
 go_wp2_with fail
 go_ret
 exact⟨xy HB.o,HU.o⟩):p:=h
theorem Fi{p:Prop}(h:p:=by
 refine(HU.o.cell Fx).trans ?_
 have h1:=aj (i * 6+2) O
 rw[yv xF l i 2 hi O,←O1] at h1
 exact h1):p:=h
theorem Fk{p:Prop}(h:p:=by
 exact h.zC.N4 hc2 (fun b hb=>by
  simp only[OB,Pe,not_or]
  exact⟨fun e=>ha.hm Yq,fun e=>ha.bm b e hb⟩)):p:=h
theorem Fl{p:Prop}(h:p:=by
 simp only[zW.own,Option.toList,OB,OO,List.not_mem_nil,or_false,false_or] at hk
 rcases hk with rfl|rfl|rfl <;> omega):p:=h
theorem Fm{p:Prop}(h:p:=by
 go_wp2_with (first
  |(go_at_call 134;refine tu.mono ?_;rintro e w3 ⟨rfl,rfl⟩;clear tu)
  |fail)
 go_ret
 exact⟨rfl,q,zK.refl HS.o⟩):p:=h
theorem Fo{p:Prop}(h:p:=by
 have hu:=HT.o
 rw[show n+1 - k=0 by omega,uL] at hu
 have HB:=V hu
 clear hu
 go_wp2_with fail
 go_ret
 exact⟨xy HB.o,HU.o⟩):p:=h
theorem oQ{p:Prop}(h:p:=by
 have af:=hB.lt
 unfold NG at hB ⊢
 rw[heap_grow_old _ _ bG]
 simp[putRow,mapBlock,Rf,Array.getElem?_modify,hB]
 rfl):p:=h
theorem Fr{p:Prop}(h:p:=by
 intro k hk
 rcases ho with h2|⟨k2,h2,h3⟩
 ·exact .inl (by rw[←h2];exact hk)
 ·rw[h2] at hk
  injection hk with hk
  exact .inr O):p:=h
theorem FA{p:Prop}(h:p:=by
 refine⟨?_,zV⟩
 first|exact⟨k+1,O,zE,K1⟩|((repeat apply OA);exact⟨⟨k+1,O,zE,K1⟩,rfl⟩)):p:=h
theorem fO{p:Prop}(h:p:=by
 rw[q2.1,O5,List.getElem?_append_right Zh,OU,Nat.min_eq_left Ga,Nat.sub_self]
 rfl):p:=h
theorem oT{p:Prop}(h:p:=by
 rw[←hfr] at hj
 have h1:=(OZ.1 hj).1
 have h2:=List.any_eq_false.1 hw j h1
 exact(uv x.zg j).1 V7):p:=h
theorem FB{p:Prop}(h:p:=by
 have hl:(acc.take k).length=k:=Zh
 rw[List.set_append_right _ _ O,hl,Nat.sub_self,List.set_cons_zero]):p:=h
theorem FC{p:Prop}(h:p:=by
 have e1:=(OM hv).1
 injection e1 with e1
 subst e1
 rw[Addr.add_lit]
 exact(hb.cell af).trans ((aj j O).trans hu)):p:=h
theorem FD{p:Prop}(h:p:=by
 rw[hl]
 exact h.log.N4 hc (by simpa using fun e=>ha.gl e.symm) (fun b hb=>by
  simp only[OI]
  rintro rfl
  exact ha.hl hb)):p:=h
theorem FE{p:Prop}(h:p:=by
 have h3:=hs2.far (p:=⟨g,1,none⟩) Eu (RO A2 (es.length+1) cap2)
 have hl:(es++[y]).length=es.length+1:=zv
 rw[hl]
 exact h3):p:=h
theorem FH{p:Prop}(h:p:=by
 rw[List.getElem?_append_left Zh,List.getElem?_take,OG O,Ot O]):p:=h
theorem FI{p:Prop}(h:p:=by
 exact h.zg.N4 hc2 (fun b hb=>by
  simp only[OB,Pe,not_or]
  exact⟨fun e=>ha.hb Yq,ha.bm b hb⟩)):p:=h
theorem FJ{p:Prop}(h:p:=by
 have h1:=congrArg (fun z=>z[0]?) HR.o.rest
 simp only[List.getElem?_drop,Nat.add_zero] at h1
 rw[h1,Ot hj2,hy]):p:=h
theorem FK{p:Prop}(h:p:=by
 have hn:=V (dz.o.symm.trans (mF s k af (by simp[Ui];omega)))
 go_wp2_with fail
 go_ret
 exact⟨xy hn.o.symm,rfl⟩):p:=h
theorem oU{p:Prop}(h:p:=by
 intro j u hu
 have hb:=OH w _ (xg j u hu)
 rw[Ox w _ _ hb]
 exact xg j u hu):p:=h
theorem FL{p:Prop}(h:p:=by
 rw[O1]
 refine(hb.cell bq).trans ((kg (k * 8+j) O).trans ?_)
 rw[yv YD ts k j Hy hj,mq]):p:=h
theorem FM{p:Prop}(h:p:=by
 simp only[PC,Oo,OU,O8,List.length_replicate,PL]
 omega):p:=h
theorem FN{p:Prop}(h:p:=by
 intro y hy
 rcases OO.1 hy with hy|hy
 ·exact h.ne y hy
 ·rw[OI] at hy
  subst hy
  exact hne):p:=h
theorem FO{p:Prop}(h:p:=by
 have h1:=h.zP
 refine⟨?_,h1.2⟩
 show x.zP=ZR (xz id _ x.zC)
 rw[UG]
 ·exact h1.1
 ·exact fun _=>rfl):p:=h
theorem FP{p:Prop}(h:p:=by
 clear hp a2 e
 go_enter func251,ntmps251
 go_wp2_with fail
 go_ret
 exact⟨rfl,(Ok _ w).alloc (Oq _) _⟩):p:=h
theorem FQ{p:Prop}(h:p:=by
 rw[←dz.o]
 unfold zY
 rw[OD (show ¬s.data.toList.length≤64 by rw[jJ];omega),Bool.false_and,Bool.and_false]):p:=h
theorem oV{p:Prop}(h:p:=by
 simp only[PC,Oo,OU,O8,OT,List.length_nil,qd]
 omega):p:=h
theorem FR{p:Prop}(h:p:=by
 split
 ·exact .inl rfl
 ·split
  ·exact .inl rfl
  ·split
   ·exact .inl rfl
   ·split
    ·exact .inl rfl
    ·exact .inr ⟨rfl,rfl⟩):p:=h
theorem FT{p:Prop}(h:p:=by
 injection hb with h1 h2
 subst h1 h2
 clear dz Et
 go_enter func52,ntmps52
 go_wp2_with fail
 go_ret2
 exact⟨rfl,rfl⟩):p:=h
theorem FU{p:Prop}(h:p:=by
 have h1:=(aj (vo.length * 4) O).1
 rw[h1]
 have h2:=(Qk (vo++[z]) vo.length zv).1
 rw[h2]
 simp):p:=h
theorem FV{p:Prop}(h:p:=by
 have hn:b=false:=Ea.o YM
 subst hn
 clear Ea Ii mg hf dz
 go_wp2_with fail
 go_ret
 exact⟨rfl,rfl⟩):p:=h
theorem FW{p:Prop}(h:p:=by
 go_wp2_with (first
  |(go_at_call 94;refine hc.mono ?_;rintro e w2 ⟨rfl,rfl⟩)
  |fail)
 go_ret
 exact⟨rfl,Ok _ _⟩):p:=h
theorem FX{p:Prop}(h:p:=by
 rw[Yk,Oo,Pf]
 have h1:=Vr (Zv pre) x.1.1
 have h2:=h.glen
 omega):p:=h
theorem FY{p:Prop}(h:p:=by
 rw[←hb2]
 exact tU W g q x v [] (rise is) (h.at_.later hb) h.Kk hr pI):p:=h
theorem FZ{p:Prop}(h:p:=by
 simp only[OQ,Nat.mul_one]
 rw[List.take_append_of_le_length zv,Ou zv]):p:=h
theorem F2{p:Prop}(h:p:=by
 refine Pc.2 ⟨fun y hy=>?_,h⟩
 rcases OB.1 hy with rfl|hy
 ·exact hx
 ·have:=h1 y hy
  omega):p:=h
theorem Ge{p:Prop}(h:p:=by
 have E5:((n:Int)==0)=false:=Xq
 go_enter func26,ntmps26
 go_wp2
 go_ret2
 exact qf.o _ rfl):p:=h
theorem Gk{p:Prop}(h:p:=by
 rw[←hR]
 refine(OD fun hm=>?_).symm
 obtain⟨j,hj,h1⟩:=Pg hm
 exact h j hj h1):p:=h
theorem GA{p:Prop}(h:p:=by
 have h1:=h.fit.zP
 have h2:=h.fit.N3.size
 have h3:0≤x.zP:=by
  rw[h1.1]
  exact xo _
 omega):p:=h
theorem GC{p:Prop}(h:p:=by
 have h1:=aj (k * 2+0) O
 rw[yv yG l k 0 jb O] at h1
 rw[←Fa]
 exact h1):p:=h
theorem oW{p:Prop}(h:p:=by
 go_wp2_with fail
 go_meet
 exact⟨Ee,V ((yt.o.trans (zK.of_below yt.o.at_ Ed.o)).trans ve.o)⟩):p:=h
theorem GD{p:Prop}(h:p:=by
 rw[List.drop_set,OG O]
 have h2:=congrArg (List.drop 1) h.rest
 simpa[List.drop_drop] using h2):p:=h
theorem GG{p:Prop}(h:p:=by
 exact bn.o.trans (I4.o.below bn.o.size fun k hk=>Ol ay.o.size (Hz.o k yi))):p:=h
theorem GH{p:Prop}(h:p:=by
 go_ret
 refine⟨xy ?_,hb⟩
 rw[←dz.o,xD,HA.o,oI,OS (by rw[jJ];omega)]
 rfl):p:=h
theorem GJ{p:Prop}(h:p:=by
 have h1:=(h.zg.heap he).reads [] zv
 rw[qw] at h1
 exact Yy _ [] x.zg id W h1 hnb):p:=h
theorem GK{p:Prop}(h:p:=by
 rw[HW.o]
 refine(kg k O).trans ?_
 rw[O5,Ot jb,hy]
 rfl):p:=h
theorem GL{p:Prop}(h:p:=by
 go_ret
 refine⟨xy ?_,Ok _ _⟩
 rw[←dz.o,xD,OD (by rw[jJ];omega)]
 simp):p:=h
theorem GM{p:Prop}(h:p:=by
 go_enter func45,ntmps45
 go_wp2
 go_ret
 exact⟨rfl,(Ok _ _).alloc (Oq _) _⟩):p:=h
theorem GN{p:Prop}(h:p:=by
 intro y hy hd
 obtain⟨j,hj,rfl⟩:=Pg hy
 exact h j hj V6):p:=h
theorem VZ{p:Prop}(h:p:=by
 obtain⟨rfl,pz,qa,W,HT,ic⟩:=hcut
 go_wp2_with fail
 go_ret
 exact HW.o.both.o HW.o.bl HT.o ic.o):p:=h
theorem GP{p:Prop}(h:p:=by
 go_ret2
 exact⟨rfl,q,(zL.of_below H.o.at_ bn.o).yO (zO (Ok _ _) _)⟩):p:=h
theorem GQ{p:Prop}(h:p:=by
 injection hn with hn1 hn2
 subst hn1 hn2
 clear HF HN HG HV
 go_wp2_with fail
 go_ret2
 exact⟨rfl,rfl⟩):p:=h
theorem GR{p:Prop}(h:p:=by
 obtain rfl:p=r:=O
 have Et:¬(p:Int) < (p:Int):=O
 go_wp2_with fail
 go_meet
 exact HT):p:=h
theorem GS{p:Prop}(h:p:=by
 rw[List.any_eq_false]
 intro y hy
 obtain⟨j,hj,rfl⟩:=Pg hy
 simp[h j hj]):p:=h
theorem GU{p:Prop}(h:p:=by
 rw[List.find?_eq_none]
 intro y hy hd
 exact hin (OL.2 ⟨y,hy,V6⟩)):p:=h
theorem GV{p:Prop}(h:p:=by
 split
 ·exact h1
 ·simp only
  repeat' split
  all_goals first
   |exact h1
   |exact hm _ (Ir _ _)):p:=h
theorem GW{p:Prop}(h:p:=by
 refine(kg k O).trans ?_
 rw[O5,Ot jb,hy]
 rfl):p:=h
theorem GY{p:Prop}(h:p:=by
 subst e
 clear hp
 go_enter func246,ntmps246
 go_wp2
 go_ret
 exact⟨rfl,Ok _ _⟩):p:=h
theorem GZ{p:Prop}(h:p:=by
 subst e
 clear hp
 go_enter func251,ntmps251
 go_wp2
 go_ret
 exact⟨rfl,Ok _ _⟩):p:=h
theorem G0{p:Prop}(h:p:=by
 go_ret
 exact⟨_,rfl,HS.o.keep (fun b hb=>bg.o.block b (HS.o.lt b hb)),NH.of_below bg.o _⟩):p:=h
theorem fP{p:Prop}(h:p:=by
 have h1:=HF.o.lW Ej
 have h2:=HF.o.nb
 have h3:=HF.o.zA
 have h4:=HF.o.N3.mod
 omega):p:=h
theorem G1{p:Prop}(h:p:=by
 rw[List.filter_eq_self]
 intro x hx
 have:=List.any_eq_false.1 h1 x hx
 simpa using this):p:=h
theorem G2{p:Prop}(h:p:=by
 rw[HU.o.loop,O7 hke,HE.o,vD,OG]
 rw[Ev]
 simpa using Ew):p:=h
theorem G3{p:Prop}(h:p:=by
 show (Zb (xz id _ x.zC)).Nodup
 rw[Q4]
 ·exact h.idsM
 ·exact fun _=>rfl):p:=h
theorem oX{p:Prop}(h:p:=by
 simp only[Oo,OU,O8,PL]
 omega):p:=h
theorem G4{p:Prop}(h:p:=by
 cases hx:zZ l cur with
 |false=>rfl
 |true=>exact absurd ((uv l cur).1 hx) hin):p:=h
theorem G'{p:Prop}(h:p:=by
 go_wp2_with fail
 go_ret2
 exact⟨fun h=>absurd h (by rw[Ij.o];decide),fun _=>⟨rfl,dz.o⟩⟩):p:=h
theorem Ha{p:Prop}(h:p:=by
 rcases Hu.o with h3|⟨g3,h3,h4⟩
 ·exact Hw.o.own b4 h3.symm
 ·injection h3 with h3
  omega):p:=h
theorem oY{p:Prop}(h:p:=by
 rw[hB.cell,←htake,List.getElem?_take,OG hj,List.getElem?_drop,Array.getElem?_toList]):p:=h
theorem Hb{p:Prop}(h:p:=by
 have C9:=V (Ff.o.trans ol)
 clear ol
 go_wp2_with fail
 go_meet
 exact⟨Fe,C9⟩):p:=h
theorem Hc{p:Prop}(h:p:=by
 have:=h.nm
 show ((xz id _ x.zC).length:Int)≤x.zA+1
 rw[VA]
 omega):p:=h
theorem Hd{p:Prop}(h:p:=by
 go_enter func105,ntmps105
 go_wp2_with fail
 go_ret
 exact⟨rfl,Ok _ _⟩):p:=h
theorem Hh{p:Prop}(h:p:=by
 go_enter func114,ntmps114
 go_wp2_with fail
 go_ret
 exact⟨rfl,Ok _ _⟩):p:=h
theorem Hi{p:Prop}(h:p:=by
 go_wp2_with fail
 go_ret2
 exact⟨rfl,q,zK.of_below H.o.at_ (zO bn.o _)⟩):p:=h
theorem Hj{p:Prop}(h:p:=by
 have jy:=HF.o 1 O
 exact⟨1,b,Oq _,O,rfl,rfl,jy,V rfl⟩):p:=h
theorem Hk{p:Prop}(h:p:=by
 rcases qb with h3|⟨g,h3,h4⟩
 ·exact G9.o.own b2 h3.symm
 ·injection h3 with h3
  omega):p:=h
theorem Hm{p:Prop}(h:p:=by
 simp only[OI] at hk
 subst hk
 exact⟨O,fun _ _=>.inr O⟩):p:=h
theorem Hn{p:Prop}(h:p:=by
 clear b1
 go_wp2_with fail
 go_ret
 exact⟨rfl,(Ok _ w).alloc (Oq _) _⟩):p:=h
theorem Jq{p:Prop}(h:p:=by
 rw[Oo,OU,OT,O8,HM.o]
 omega):p:=h
theorem Hp{p:Prop}(h:p:=by
 rw[Yk,Y7,Oo,Pf]
 have:=h.sum
 omega):p:=h
theorem Hs{p:Prop}(h:p:=by
 go_enter func104,ntmps104
 go_wp2
 go_ret
 exact⟨rfl,HB.o.alloc HB.o.size _⟩):p:=h
theorem Hv{p:Prop}(h:p:=by
 go_enter func122,ntmps122
 go_wp2
 go_ret
 exact⟨rfl,HB.o.alloc HB.o.size _⟩):p:=h
theorem Hx{p:Prop}(h:p:=by
 go_enter func160,ntmps160
 go_wp2
 go_ret
 exact⟨rfl,HB.o.alloc HB.o.size _⟩):p:=h
theorem H1{p:Prop}(h:p:=by
 go_enter func173,ntmps173
 go_wp2
 go_ret
 exact⟨rfl,HB.o.alloc HB.o.size _⟩):p:=h
theorem H2{p:Prop}(h:p:=by
 go_enter func176,ntmps176
 go_wp2
 go_ret
 exact⟨rfl,HB.o.alloc HB.o.size _⟩):p:=h
theorem H'{p:Prop}(h:p:=by
 go_enter func210,ntmps210
 go_wp2
 go_ret
 exact⟨rfl,HB.o.alloc HB.o.size _⟩):p:=h
theorem Iy{p:Prop}(h:p:=by
 simp only[Lib.keeps,decide_eq_true_eq] at hk
 rcases hk with hk|hk
 ·omega
 ·exact hk):p:=h
theorem Iz{p:Prop}(h:p:=by
 unfold yq
 simp only[Oo,OT,List.length_nil]
 omega):p:=h
theorem IA{p:Prop}(h:p:=by
 first|exact⟨r,zf,rfl,HN⟩|((repeat apply OA);exact⟨⟨r,zf,rfl,HN⟩,rfl⟩)):p:=h
theorem oZ{p:Prop}(h:p:=by
 go_wp2
 go_ret
 exact⟨_,none,rfl,Sl.nil _ _ _,Ok _ _,fun b hb=>by cases hb⟩):p:=h
theorem IB{p:Prop}(h:p:=by
 have:=hu.len
 simp only[Oo,OT,List.length_nil]
 omega):p:=h
theorem o0{p:Prop}(h:p:=by
 subst Bg
 clear HR
 go_enter func86,ntmps86
 go_wp2
 go_ret
 exact⟨rfl,rfl⟩):p:=h
theorem IC{p:Prop}(h:p:=by
 clear a2 a3 a4
 go_enter func245,ntmps245
 go_wp2
 go_ret2
 exact⟨rfl,rfl⟩):p:=h
theorem ID{p:Prop}(h:p:=by
 rcases ho2 with h1|⟨k1,h1,h3⟩
 ·rw[h1]
  exact hu.own
 ·exact .inr ⟨k1,h1,O⟩):p:=h
theorem IE{p:Prop}(h:p:=by
 refine Ol (List.length_filterMap_le _ _) ?_
 rw[OU]
 omega):p:=h
theorem IG{p:Prop}(h:p:=by
 rw[Ot Zi] at yj
 exact O6 yj):p:=h
theorem IH{p:Prop}(h:p:=by
 rw[Oh hi2,OQ,OQ,Fp]
 rfl):p:=h
theorem o5{p:Prop}(h:p:=by
 rw[rz]
 exact(zo.o.keep (fun b2 hb2=>zn.o.block b2 (zo.o.lt b2 hb2))).alloc _):p:=h
theorem IJ{p:Prop}(h:p:=by
 injection hn with hn1 hn2
 subst hn1 hn2
 go_wp2_with fail
 go_ret2
 exact⟨rfl,rfl⟩):p:=h
theorem pc{p:Prop}(h:p:=by
 cases hh:zZ x.zg zB with
 |true=>rfl
 |false=>exact absurd ⟨hp,hh⟩ hA):p:=h
theorem IK{p:Prop}(h:p:=by
 clear hb e
 go_enter func245,ntmps245
 go_wp2
 go_ret2
 exact⟨rfl,rfl⟩):p:=h
theorem pd{p:Prop}(h:p:=by
 rw[O1,aj _ O,yv vV l k j jb hj,E9]):p:=h
theorem pg{p:Prop}(h:p:=by
 exact bodyPost_end (results_none rfl _ _ _) rfl ⟨rfl,Iw.o _ _ HT.o HA.o⟩):p:=h
theorem pj{p:Prop}(h:p:=by
 go_wp2_with fail
 go_meet
 exact⟨by rw[Il.o];rfl,by rw[Ik.o],V rfl⟩):p:=h
theorem pn{p:Prop}(h:p:=by
 have h1:=hV.fit.nm
 have h2:=hV.fit.zA
 have h3:=hV.fit.N3.mod
 omega):p:=h
theorem po{p:Prop}(h:p:=by
 rw[show (m:Int)+1 - 1=(m:Int) by omega]
 exact Og _ O):p:=h
theorem pp{p:Prop}(h:p:=by
 have h1:=h.fit.nb
 have h2:=h.fit.zA
 have h3:=h.fit.N3.mod
 omega):p:=h
theorem pw{p:Prop}(h:p:=by
 go_wp2_with fail
 go_ret
 exact⟨rfl,zj HB.o (zt _ _)⟩):p:=h
theorem fQ{p:Prop}(h:p:=by
 obtain⟨A9,c9,rfl,_,_⟩:=sw.form
 exact⟨A9,c9,Cw,rfl,sw,Cv,Cu⟩):p:=h
theorem px{p:Prop}(h:p:=by
 split
 ·exact .inl rfl
 ·split
  ·exact .inl rfl
  ·exact .inr ⟨rfl,rfl⟩):p:=h
theorem py{p:Prop}(h:p:=by
 rw[←E8]
 exact(uz.keys.below hb).sub (fun _ _ _ hm=>by cases hm)):p:=h
theorem pA{p:Prop}(h:p:=by
 have h1:=H.o.fit.log
 have h2:=H.o.fit.N3.log
 rw[h1.1]
 omega):p:=h
theorem aO{p:Prop}(h:p:=by
 have:¬x.N3.ym≤x.zA:=by simpa[Acc.ends] using hend
 omega):p:=h
theorem pB{p:Prop}(h:p:=by
 go_wp2
 go_ret
 exact⟨_,rfl,by rw[←Dz.o];exact uy.o,Dy.o⟩):p:=h
theorem aP{p:Prop}(h:p:=by
 go_wp2_with fail
 go_ret
 refine⟨Jc ?_,rfl⟩
 rw[←HQ.o]
 rfl):p:=h
theorem zT{p:Prop}(h:p:=by simp;omega):p:=h
theorem zv{p:Prop}(h:p:=by simp):p:=h
theorem O{p:Prop}(h:p:=by omega):p:=h
theorem Yq{p:Prop}(h:p:=by rw[hb,e]):p:=h
theorem yi{p:Prop}(h:p:=by simpa using hk):p:=h
theorem zD{p:Prop}(h:p:=by decide):p:=h
theorem zF{p:Prop}(h:p:=by rfl):p:=h
theorem uE{p:Prop}(h:p:=by simp[Act.eval]):p:=h
theorem xt{p:Prop}(h:p:=by simp[Value.oneCell']):p:=h
theorem yV{p:Prop}(h:p:=by unfold maxLen;omega):p:=h
theorem fR{p:Prop}(h:p:=by have:=HU.o.len;omega):p:=h
theorem zQ{p:Prop}(h:p:=by kernel_rfl):p:=h
theorem IP{p:Prop}(h:p:=by rw[show (N:Int)+1 - 1=N from by omega];exact Og _ O):p:=h
theorem aQ{p:Prop}(h:p:=by simpa using hlen):p:=h
theorem Jr{p:Prop}(h:p:=by have:=hs.1;simpa using this):p:=h
theorem fS{p:Prop}(h:p:=by rw[he,Nat.add_mul];omega):p:=h
theorem vq{p:Prop}(h:p:=by simpa using hi):p:=h
theorem X7{p:Prop}(h:p:=by simp[zU]):p:=h
theorem vZ{p:Prop}(h:p:=by simpa using h):p:=h
theorem zE{p:Prop}(h:p:=by go_num):p:=h
theorem zV{p:Prop}(h:p:=by simp[intOf];omega):p:=h
theorem vL{p:Prop}(h:p:=by simpa using hj):p:=h
theorem ZE{p:Prop}(h:p:=by simp[h]):p:=h
theorem V0{p:Prop}(h:p:=by rw[HN.o];exact Oq _):p:=h
theorem Zg{p:Prop}(h:p:=by rw[HN.o];exact af):p:=h
theorem ZY{p:Prop}(h:p:=by unfold NV;decide):p:=h
theorem yT{p:Prop}(h:p:=by simpa using hm):p:=h
theorem IQ{p:Prop}(h:p:=by have:=run_endLoop (P:=P) hl (by rw[Ey];simp);rw[Ey] at this;exact this):p:=h
theorem pC{p:Prop}(h:p:=by show s.toArray.size≤_;simp;omega):p:=h
theorem xv{p:Prop}(h:p:=by simpa using h1):p:=h
theorem vM{p:Prop}(h:p:=by simpa using hc):p:=h
theorem aR{p:Prop}(h:p:=by simpa[ids] using h):p:=h
theorem pD{p:Prop}(h:p:=by have:=(h y).2 zv;simp at this):p:=h
theorem pE{p:Prop}(h:p:=by have:=(h x).1 zv;simp at this):p:=h
theorem xQ{p:Prop}(h:p:=by simpa using hb):p:=h
theorem fT{p:Prop}(h:p:=by rw[Ym];exact h.idsB):p:=h
theorem V1{p:Prop}(h:p:=by have:=h.zA.1;show 1≤x.zA+1;omega):p:=h
theorem Js{p:Prop}(h:p:=by have:=h.zS.2;show x.zS≤x.zA+1;omega):p:=h
theorem Jt{p:Prop}(h:p:=by simpa[Acc.spent] using h1):p:=h
theorem Ju{p:Prop}(h:p:=by simpa using he):p:=h
theorem Jv{p:Prop}(h:p:=by have:=h.zN.2;show x.zN≤x.zA+1;omega):p:=h
theorem V2{p:Prop}(h:p:=by rw[←h3];exact hb):p:=h
theorem aS{p:Prop}(h:p:=by simp[YG];omega):p:=h
theorem Xq{p:Prop}(h:p:=by simpa using h0):p:=h
theorem fU{p:Prop}(h:p:=by rw[Pu];rfl):p:=h
theorem Zh{p:Prop}(h:p:=by rw[OU];omega):p:=h
theorem X8{p:Prop}(h:p:=by rw[←h1];exact hb):p:=h
theorem V3{p:Prop}(h:p:=by rw[HN.o];omega):p:=h
theorem IR{p:Prop}(h:p:=by rw[show (k:Int)+1 - 1=k from by omega];exact Og _ O):p:=h
theorem yl{p:Prop}(h:p:=by first|(simp[Act.eval];done)|simp[Act.eval,Act.put]):p:=h
theorem vN{p:Prop}(h:p:=by rw[ai.o];exact af):p:=h
theorem aT{p:Prop}(h:p:=by rw[O8,bq];omega):p:=h
theorem X9{p:Prop}(h:p:=by simp[Act.eval,Act.put]):p:=h
theorem pF{p:Prop}(h:p:=by rw[Oo,OU,hlen];omega):p:=h
theorem pG{p:Prop}(h:p:=by rw[y4,u4];exact Oq _):p:=h
theorem pH{p:Prop}(h:p:=by simpa using (show ¬(i:Int)=(i:Int)+1 by omega)):p:=h
theorem IU{p:Prop}(h:p:=by have h1:=NG.new (w.alloc (.cells #[I mu,I mi,Y t 0] 89)) 85 #[I 0,I 0,I 0,RP ⟨#[]⟩,I 0,RO none 0 0,RO none 0 0,I 0,I 0];rw[O3] at h1;exact h1):p:=h
theorem Jw{p:Prop}(h:p:=by rw[hhas];decide):p:=h
theorem aU{p:Prop}(h:p:=by simpa using hy):p:=h
theorem pI{p:Prop}(h:p:=by have:=xG is;have:=h.nb;omega):p:=h
theorem ZZ{p:Prop}(h:p:=by rw[hke];simp):p:=h
theorem Yr{p:Prop}(h:p:=by rw[hwa];simp):p:=h
theorem Zt{p:Prop}(h:p:=by simpa using jw):p:=h
theorem Va{p:Prop}(h:p:=by simp[Acc.ends,hen]):p:=h
theorem Xr{p:Prop}(h:p:=by rw[vB];exact oh):p:=h
theorem Xs{p:Prop}(h:p:=by rw[Oo,C8.o];rfl):p:=h
theorem aV{p:Prop}(h:p:=by rw[O3];exact lu):p:=h
theorem aW{p:Prop}(h:p:=by rw[ai.o];exact Oq _):p:=h
theorem Jy{p:Prop}(h:p:=by rw[←h.at_.same,←hm0];exact OV (Oj hi)):p:=h
theorem Jz{p:Prop}(h:p:=by simp[Acc.ends];omega):p:=h
theorem aX{p:Prop}(h:p:=by show i < x.zC.length;rw[ai.o];exact Fb):p:=h
theorem V4{p:Prop}(h:p:=by rw[←y8.o];rfl):p:=h
theorem pJ{p:Prop}(h:p:=by rw[Ph];rfl):p:=h
theorem aY{p:Prop}(h:p:=by rw[←Bf.o];rfl):p:=h
theorem aZ{p:Prop}(h:p:=by rw[←h.XC];exact hi):p:=h
theorem bA{p:Prop}(h:p:=by rw[←h.same,←hm0];exact OV (Oj hi)):p:=h
theorem JA{p:Prop}(h:p:=by unfold EV;decide):p:=h
theorem V6{p:Prop}(h:p:=by simpa using hd):p:=h
theorem IV{p:Prop}(h:p:=by rw[Ig];exact zj (zj Ih.o je.o) (zt _ _)):p:=h
theorem uO{p:Prop}(h:p:=by first|exact Ok _ _|exact zG _):p:=h
theorem JB{p:Prop}(h:p:=by rw[qp.o];exact af):p:=h
theorem bB{p:Prop}(h:p:=by rw[qg.o];exact af):p:=h
theorem fV{p:Prop}(h:p:=by simpa using Sl.nil w 3 1):p:=h
theorem fW{p:Prop}(h:p:=by rw[Ca.o];simpa[yJ] using jd):p:=h
theorem YM{p:Prop}(h:p:=by rw[mg.o,hf];simp):p:=h
theorem Xt{p:Prop}(h:p:=by rw[beq_iff_eq];omega):p:=h
theorem Xu{p:Prop}(h:p:=by rw[beq_eq_false_iff_ne];omega):p:=h
theorem IW{p:Prop}(h:p:=by rw[Cb.o,show yb (zM (l.take k) x.zg).1 id=Fs from by rw[←Cb.o];exact Fq.o];exact oh):p:=h
theorem bC{p:Prop}(h:p:=by rw[qp.o];exact Oq _):p:=h
theorem Zu{p:Prop}(h:p:=by unfold lim;omega):p:=h
theorem V7{p:Prop}(h:p:=by simpa using h2):p:=h
theorem Vb{p:Prop}(h:p:=by rw[ai.o];omega):p:=h
theorem uP{p:Prop}(h:p:=by show nl.toArray.size≤_;simp;omega):p:=h
theorem JC{p:Prop}(h:p:=by simpa using oo):p:=h
theorem YN{p:Prop}(h:p:=by simpa using hp):p:=h
theorem JD{p:Prop}(h:p:=by simpa using q1):p:=h
theorem bD{p:Prop}(h:p:=by simpa using q2):p:=h
theorem IX{p:Prop}(h:p:=by rw[←HV.o];exact(HR.o.below HU.o).sub (fun _ _ _ hm=>by cases hm)):p:=h
theorem YO{p:Prop}(h:p:=by rw[IntKind.wrap_u8];omega):p:=h
theorem fX{p:Prop}(h:p:=by rw[←hp];unfold gS;rw[OG O]):p:=h
theorem IY{p:Prop}(h:p:=by rw[←hp];unfold gS;rw[Om O,OG O]):p:=h
theorem IZ{p:Prop}(h:p:=by unfold uD;rw[Om O,Om O,Om O]):p:=h
theorem I1{p:Prop}(h:p:=by unfold vt;rw[Om h1,Om O,Om O,Om O]):p:=h
theorem vr{p:Prop}(h:p:=by have:=hf.nb;have:=hf.zA;have:=hf.N3.mod;omega):p:=h
theorem Vc{p:Prop}(h:p:=by rw[hnm];decide):p:=h
theorem fY{p:Prop}(h:p:=by rw[qx];exact HF.o.log):p:=h
theorem fZ{p:Prop}(h:p:=by rw[qx];exact HF.o.N3.log):p:=h
theorem pK{p:Prop}(h:p:=by first|exact yo|exact zj (zG wf) yo):p:=h
theorem I2{p:Prop}(h:p:=by rw[HW.o];exact fu.o.later (zO (Ok _ _) q)):p:=h
theorem JE{p:Prop}(h:p:=by rw[HM.o];exact hp):p:=h
theorem I3{p:Prop}(h:p:=by rw[HW.o];exact G7.o.later (zO (Ok _ _) q2)):p:=h
theorem YP{p:Prop}(h:p:=by rw[HM.o];exact Oq _):p:=h
theorem bE{p:Prop}(h:p:=by rw[HM.o];exact yw):p:=h
theorem gA{p:Prop}(h:p:=by rw[←qz];simp[x9]):p:=h
theorem Z0{p:Prop}(h:p:=by rw[jo.o];exact zf):p:=h
theorem Z1{p:Prop}(h:p:=by rw[og.o];exact Cr):p:=h
theorem gC{p:Prop}(h:p:=by rw[jo.o];exact Ct):p:=h
theorem gD{p:Prop}(h:p:=by rw[og.o];exact Cs):p:=h
theorem gF{p:Prop}(h:p:=by rw[(h.later hb).xj,hv]):p:=h
theorem gG{p:Prop}(h:p:=by rw[hwa,hC];exact(NG.new w2 35 #[RO A2 ns c2]).cell 0):p:=h
theorem gH{p:Prop}(h:p:=by rw[hwa];exact zj ay.o (zt _ _)):p:=h
theorem gI{p:Prop}(h:p:=by rw[hwa];exact jq.o.alloc _):p:=h
theorem gJ{p:Prop}(h:p:=by rw[r9];exact zj bn.o (zt _ _)):p:=h
theorem gK{p:Prop}(h:p:=by rw[r9,hD,←qz];exact(NG.new w3 35 #[RO A3 m0.p.zr.length c3]).cell 0):p:=h
theorem gL{p:Prop}(h:p:=by rw[jo.o];exact rq.o.keep (fun b2 hb2=>ak.block b2 (rq.o.lt b2 hb2))):p:=h
theorem pL{p:Prop}(h:p:=by have:=su.o;have:=zh.o;have:=Ei.o;omega):p:=h
theorem pM{p:Prop}(h:p:=by rw[←hfr];exact List.length_filter_le _ _):p:=h
theorem pN{p:Prop}(h:p:=by rw[←hlf];exact Ol (List.length_filter_le _ _) (by simp[x9])):p:=h
theorem I'{p:Prop}(h:p:=by rw[rz,Gf];exact(NG.new w7 35 #[RO A7 n7 c7]).cell 0):p:=h
theorem pO{p:Prop}(h:p:=by rw[rz];exact zj (zj Eg.o je.o) (zj zn.o (zt _ _))):p:=h
theorem pP{p:Prop}(h:p:=by have:=su.o;have:=Eh.o;have:=jo.o;omega):p:=h
theorem pQ{p:Prop}(h:p:=by have:=zh.o;have:=Ef.o;have:=og.o;simp only[x9,Ow] at this;omega):p:=h
theorem pR{p:Prop}(h:p:=by rw[Pd];exact hi):p:=h
theorem pS{p:Prop}(h:p:=by rw[qg.o];exact Oq _):p:=h
theorem gM{p:Prop}(h:p:=by simp only[Ph];rfl):p:=h
theorem pT{p:Prop}(h:p:=by rw[←e];exact OV (Oj ht)):p:=h
theorem JF{p:Prop}(h:p:=by rw[Em.o];exact El):p:=h
theorem JG{p:Prop}(h:p:=by rw[HW.o,World.drewN_drewN]):p:=h
theorem Ka{p:Prop}(h:p:=by first|exact tq.o|exact zj tq.o (zG _)):p:=h
theorem Kb{p:Prop}(h:p:=by first|exact zj tq.o Cx|exact zj (zj tq.o (zG _)) Cx):p:=h
theorem JH{p:Prop}(h:p:=by rw[En,bq.1];omega):p:=h
theorem gN{p:Prop}(h:p:=by rw[←hm];exact Oj zw):p:=h
theorem bF{p:Prop}(h:p:=by rw[←HS.o.same];exact OV Gp.o):p:=h
theorem pU{p:Prop}(h:p:=by rw[←h.at_.same];exact OV Eo):p:=h
theorem JI{p:Prop}(h:p:=by simpa using Ep):p:=h
theorem JJ{p:Prop}(h:p:=by rw[gy];exact zt _ _):p:=h
theorem JK{p:Prop}(h:p:=by rw[gy];exact(NG.new w 3 #[I id]).cell 0):p:=h
theorem JL{p:Prop}(h:p:=by rw[gy,O3];omega):p:=h
theorem bG{p:Prop}(h:p:=by simpa using af):p:=h
theorem V8{p:Prop}(h:p:=by rw[hr];simp[h1]):p:=h
theorem bH{p:Prop}(h:p:=by rw[hun];decide):p:=h
theorem bI{p:Prop}(h:p:=by simpa using hn1):p:=h
theorem pV{p:Prop}(h:p:=by show x.zA≤x.zA+1;omega):p:=h
theorem bJ{p:Prop}(h:p:=by rw[←g2];exact g3):p:=h
theorem Xv{p:Prop}(h:p:=by rw[HM.o];omega):p:=h
theorem Zi{p:Prop}(h:p:=by rw[Hq];omega):p:=h
theorem pW{p:Prop}(h:p:=by rw[Iq.o];exact Oq _):p:=h
theorem Kc{p:Prop}(h:p:=by show q.vb=RO (some (Y b off)) x.zg.length cap;exact fq):p:=h
theorem gO{p:Prop}(h:p:=by have h1:=ay.o.size;have h2:=lq.o;rw[O3];omega):p:=h
theorem Kd{p:Prop}(h:p:=by have h1:=ay.o.size;have h2:=lq.o;have h3:=o8.size;rw[O3] at h3;omega):p:=h
theorem Ke{p:Prop}(h:p:=by rw[Oo,OU,O8,PL,hlen];omega):p:=h
structure AdC where
 b:Nat
 o:Nat
abbrev Y:=AdC.mk
instance(b o:Nat):CoeDep AdC (Y b o) Go.Addr:=⟨⟨b,o,none⟩⟩
instance(b o:Nat):CoeDep AdC (Y b o) Go.Value:=⟨.pointer (some ⟨b,o,none⟩)⟩
structure StC where
 l:List UInt8
abbrev Oa:=StC.mk
instance(l:List UInt8):CoeDep StC (Oa l) Go.Value:=⟨.string ⟨l.toArray⟩⟩
instance:Coe Go.World Nat:=⟨fun w=>w.heap.size⟩
structure CaC where
def C:CaC:=⟨⟩
instance:CoeFun CaC fun _=>Go.FuncId→Array Go.Value→Go.World→(Go.Ending→Go.World→Prop)→Prop:=⟨fun _=>Go.Calls Tryz.prog⟩
structure IntC where
def I:IntC:=⟨⟩
instance:CoeFun IntC fun _=>Int→Go.Value:=⟨fun _=>.int .i64⟩
section
def Z(p:Prop):Prop:=p
theorem Z.o{p:Prop}(h:Z p):p:=h
theorem Z.out{p:Prop}(h:Z p):p:=h
theorem V{p:Prop}(h:p):Z p:=h
open Go.RowKit
theorem xy {a b:Bool}(h:a=b):Rv (.bool a)=RR (.bool b):=by rw[h]
theorem Jc {a b:Oy}(h:a=b):Rv (.string a)=RR (.string b):=by rw[h]
theorem nV {k:IntKind}{a b:Int}(h:a=b):Rv (.int k a)=RR (.int k b):=by rw[h]
theorem Addr.ZI (g j:Nat):((Y g 0):Addr).add j=⟨g,j,none⟩:=by
 unfold Addr.add
 split <;> simp_all
theorem Jo {P:Pv}{W:Oc}{cs:Array Oe}{e':Pa}{ops:Array Oper}{rest:Ob Oper}{o:Oper}{a:Act}{Q:Exit→Act→Oc→Prop}(hgd:o.guard=none)(s x:Operand)(t:Pa)(ho:o.op=.call {callee:=.builtin .append,args:=#[s,x],argTypes:=#[t,t]}){base:Nat}{e:Pa}{i:TypeInfo}{z:Oe}{size bytes:Nat}(ht:P.underlying t=some (.slice e))(hi:P.info? e=some i)(hz:i.zero=some z)(hsize:i.size=size)(hby:i.bytes=bytes)(hzs:z.cells.size=size)(hsz:0 < size){v:Oe}{n:Nat}{xs:Ob Oe}(hown:W.ownsRow base e size v n xs)(hs:a.eval s=v)(m c:Nat)(hx:a.eval x=RO (some (Y W.heap.size 0)) m c)(hl:cs.toList.length=m * size)(h1:∀u∈cs.toList,u.oneCell'=true)(h63:n+m≤maxLen)(hbytes:(n+m) * bytes≤140737488355328)(hbase:base≤W.heap.size)(h:∀v' w',w'.ownsRow base e size v' (n+m) (xs++cs.toList)→W.grownBy w' v.ownBlock→(v'=RO none 0 0↔v=RO none 0 0∧m=0)→wpList P ops Q rest (a.put o.dst v') w') :
  wpList P ops Q (o :: rest) a (W.alloc (.cells cs e')):=by
 refine wpList_append_own _ hgd s x t ho base e i z size bytes ht hi hz hsize hby hzs hsz v n xs hs (hown.alloc _) (Y W.heap.size 0) m c cs.toList hx hl ?_ h1 h63 hbytes zT ?_
 ·intro j u g
  rw[Addr.ZI,PZ _ _ _ _ rfl]
  simpa using g
 ·intro v' w' d b f
  refine h v' w' d ?_ f
  refine⟨b.os,b.tape,b.output,Ol zv b.size,fun k hk hne=>?_⟩
  rw[b.block k zT hne]
  exact Below.heap_alloc _ _ _ hk
theorem bR {P:Pv}{w:Oc}{src e base n:Nat}{v:Oe}{xs:Ob Int}(hs:P.underlying src=some (.slice e))(he:P.underlying e=some (.int .u8))(h:w.ownsRow base e 1 v n (xs.map (P5 .u8)))(dst:Pa)(hd:P.underlying dst=some .string) :
  (convert src dst v).run P w=.ok (RP (strOfNums xs)) w:=by
 have a:xs.length=n:=by have:=h.1;simpa using this
 rcases h.2 with⟨rfl,rfl⟩|⟨g,cap,cur,rfl,_,hg,hnc,_,hcs,htake⟩
 ·have:xs=[]:=Oi a
  subst this
  exact run_convert_bytes_nil w src e hs he 0 0 dst hd
 ·refine run_convert_bytes_arg w src e hs he g 0 n cap xs a (fun i hi=>?_) dst hd
  have b:=h.cellAt i O
  rw[Nat.zero_add,b]
  simp[List.getD,Ot (show i < xs.length by omega)]
end
section
open Go.RowKit
def NG (w:Oc)(g:Nat)(t:Pa)(cs:Array Oe):Prop:=w.heap[g]?=some (.cells cs t (0,0))
structure NH (S:Ob Nat)(w w':Oc):Prop where
 os:w'.os=w.os
 tape:w'.tape=w.tape
 output:w'.output=w.output
 size:w.heap.size≤w'.heap.size
 block:∀k,k < w.heap.size→k∉S→w'.heap[k]?=w.heap[k]?
section
variable {w w' w'':Oc} {g:Nat} {t:Pa} {cs:Array Oe} {S T:Ob Nat}
theorem NG.lt (h:NG w g t cs):g < w.heap.size:=by
 rcases Nat.lt_or_ge g w.heap.size with hlt|hge
 ·exact hlt
 ·unfold NG at h
  rw[Array.getElem?_eq_none hge] at h
  cases h
theorem NG.cell (h:NG w g t cs)(i:Nat):w.cell? (Y g i)=cs[i]?:=cell_of_row w g i cs t (0,0) h
theorem NG.frozen (h:NG w g t cs)(i:Nat):w.frozen? (Y g i)=false:=by
 unfold NG at h
 simp[World.frozen?,h]
theorem NG.new (w:Oc)(t:Pa)(cs:Array Oe):NG (w.alloc (.cells cs t)) w.heap.size t cs:=heap_alloc_new w _
theorem NG.heap (h:NG w g t cs)(e:w'.heap=w.heap):NG w' g t cs:=by
 unfold NG at h ⊢
 rw[e]
 exact h
theorem NG.alloc (h:NG w g t cs)(o:Obj):NG (w.alloc o) g t cs:=(Below.heap_alloc w o g h.lt).trans h
theorem NG.N4 (h:NG w g t cs)(hc:NH S w w')(hg:g∉S):NG w' g t cs:=(hc.block g h.lt hg).trans h
theorem NG.below {B:Nat}(h:NG w g t cs)(hb:Od B w w')(hg:g < B):NG w' g t cs:=(hb.block g hg).trans h
theorem NG.set (h:NG w g t cs)(i:Nat)(u:Oe):NG (w.setCell (Y g i) u) g t (cs.setIfInBounds i u):=by
 unfold NG at h ⊢
 simp[World.setCell,Array.getElem?_modify,h]
theorem NG.far (h:NG w g t cs){p:Addr}(hp:g≠p.block)(u:Oe):NG (w.setCell p u) g t cs:=(P3 w p u g hp).trans h
theorem NG.inj {t':Pa}{cs':Array Oe}(h:NG w g t cs)(h':NG w g t' cs'):t=t'∧cs=cs':=by
 unfold NG at h h'
 rw[h] at h'
 simp only[Pk,Obj.cells.injEq,and_true] at h'
 exact⟨h'.2,h'.1⟩
theorem NG.ne {g':Nat}{t':Pa}{cs':Array Oe}(h:NG w g t cs)(h':NG w g' t' cs')(hne:t≠t'):g≠g':=by
 rintro rfl
 exact hne (h.inj h').1
theorem NH.refl (S:Ob Nat)(w:Oc):NH S w w:=⟨rfl,rfl,rfl,Oq _,fun _ _ _=>rfl⟩
theorem NH.mono (h:NH S w w')(hs:∀k∈S,k∈T∨w.heap.size≤k):NH T w w':=
 ⟨h.os,h.tape,h.output,h.size,fun k hk hn=>h.block k hk (fun hm=>by
  rcases hs k hm with h1|h1
  ·exact hn h1
  ·omega)⟩
theorem NH.trans (h:NH S w w')(k:NH T w' w'')(hs:∀i∈T,i∈S∨w.heap.size≤i):NH S w w'':=
 ⟨k.os.trans h.os,k.tape.trans h.tape,k.output.trans h.output,Ol h.size k.size,fun i hi hn=>
  (k.block i (OJ hi h.size) (fun hm=>by
   rcases hs i hm with h1|h1
   ·exact hn h1
   ·omega)).trans (h.block i hi hn)⟩
theorem NH.alloc (h:NH S w w')(o:Obj):NH S w (w'.alloc o):=
 ⟨h.os,h.tape,h.output,Ol h.size zv,fun k hk hn=>(Below.heap_alloc w' o k (OJ hk h.size)).trans (h.block k hk hn)⟩
theorem NH.heap (h:NH S w w')(e:w''.heap=w'.heap)(e1:w''.os=w'.os)(e2:w''.tape=w'.tape)(e3:w''.output=w'.output):NH S w w'':=
 ⟨e1.trans h.os,e2.trans h.tape,e3.trans h.output,by rw[e];exact h.size,fun k hk hn=>by rw[e];exact h.block k hk hn⟩
theorem NH.drewN (h:NH S w w')(n:Nat):NH S w (w'.drewN n):=h.heap rfl rfl rfl rfl
theorem NH.drew (h:NH S w w'):NH S w w'.drew:=h.heap rfl rfl rfl rfl
theorem NH.set (h:NH S w w'){p:Addr}(hp:p.block∈S∨w.heap.size≤p.block)(u:Oe):NH S w (w'.setCell p u):=
 ⟨h.os,h.tape,h.output,by simpa[World.setCell] using h.size,fun k hk hn=>(P3 w' p u k (by
  rintro rfl
  rcases hp with hp|hp
  ·exact hn hp
  ·omega)).trans (h.block k hk hn)⟩
theorem NH.of_below (h:Od w w w')(S:Ob Nat):NH S w w':=⟨h.os,h.tape,h.output,h.size,fun k hk _=>h.block k hk⟩
theorem NH.Qn {row:OC Nat}(h:w.grownBy w' row):NH row.toList w w':=
 ⟨h.os,h.tape,h.output,h.size,fun k hk hn=>h.block k hk (fun e=>hn (by rw[←e];simp))⟩
theorem NH.cell (h:NH S w w'){p:Addr}(hlt:p.block < w.heap.size)(hp:p.block∉S):w'.cell? p=w.cell? p:=PU (h.block p.block hlt hp)
theorem NH.frozen (h:NH S w w'){p:Addr}(hlt:p.block < w.heap.size)(hp:p.block∉S):w'.frozen? p=w.frozen? p:=World.frozen?_of_block (h.block p.block hlt hp)
theorem NH.below {B:Nat}(h:NH S w w')(hb:B≤w.heap.size)(hs:∀k∈S,B≤k):Od B w w':=
 ⟨h.os,h.tape,h.output,h.size,fun k hk=>h.block k O (fun hm=>by have:=hs k hm;omega)⟩
def Sl (w:Oc)(e:Pa)(size:Nat)(v:Oe)(h:OC Nat)(n:Nat)(xs:Ob Oe):Prop:=
 xs.length=n * size∧
 ((h=none∧v=RO none 0 0∧n=0)∨
  ∃b off cap cur,h=some b∧v=RO (some (Y b off)) n cap∧NG w b e cur∧n≤cap∧cap≤maxLen∧off+cap * size≤cur.size∧(cur.toList.drop off).take (n * size)=xs)
variable {e:Pa} {size n:Nat} {v:Oe} {h:OC Nat} {xs:Ob Oe}
theorem Sl.nil (w:Oc)(e:Pa)(size:Nat):Sl w e size (RO none 0 0) none 0 []:=⟨zv,.inl ⟨rfl,rfl,rfl⟩⟩
theorem Sl.rk {base:Nat}(ho:w.ownsRow base e size v n xs):Sl w e size v v.ownBlock n xs:=by
 refine⟨ho.1,?_⟩
 rcases ho.2 with⟨rfl,rfl⟩|⟨g,cap,cur,rfl,_,hg,hn,hc,hs,ht⟩
 ·exact .inl ⟨rfl,rfl,rfl⟩
 ·exact .inr ⟨g,0,cap,cur,rfl,rfl,hg,hn,hc,O,by simpa using ht⟩
theorem Sl.keep (hs:Sl w e size v h n xs)(hk:∀b,h=some b→w'.heap[b]?=w.heap[b]?):Sl w' e size v h n xs:=by
 refine⟨hs.1,?_⟩
 rcases hs.2 with hn|⟨b,off,cap,cur,hh,hv,hb,r⟩
 ·exact .inl hn
 ·exact .inr ⟨b,off,cap,cur,hh,hv,(hk b hh).trans hb,r⟩
theorem Sl.lt (hs:Sl w e size v h n xs):∀b,h=some b→b < w.heap.size:=by
 intro b a
 rcases hs.2 with⟨hn,_⟩|⟨b',off,cap,cur,hh,hv,hB,_⟩
 ·rw[a] at hn
  cases hn
 ·rw[a] at hh
  obtain rfl:=O6 hh
  exact hB.lt
theorem Sl.N4 (hs:Sl w e size v h n xs)(hc:NH S w w')(hn:∀b,h=some b→b∉S):Sl w' e size v h n xs:=
 hs.keep fun b hb=>hc.block b (hs.lt b hb) (hn b hb)
theorem Sl.heap (hs:Sl w e size v h n xs)(he:w'.heap=w.heap):Sl w' e size v h n xs:=hs.keep fun b _=>by rw[he]
theorem Sl.alloc (hs:Sl w e size v h n xs)(o:Obj):Sl (w.alloc o) e size v h n xs:=hs.keep fun b hb=>Below.heap_alloc w o b (hs.lt b hb)
theorem Sl.far (hs:Sl w e size v h n xs){p:Addr}(hp:h≠some p.block)(u:Oe):Sl (w.setCell p u) e size v h n xs:=
 hs.keep fun b hb=>P3 w p u b (fun e=>hp Yq)
theorem Sl.vu {g':Nat}{t':Pa}{cs':Array Oe}(hs:Sl w e size v h n xs)(hb:NG w g' t' cs')(hne:e≠t'):∀b,h=some b→b≠g':=by
 intro b a
 rcases hs.2 with⟨hn,_⟩|⟨b',off,cap,cur,hh',hv,hB,_⟩
 ·rw[a] at hn
  cases hn
 ·rw[a] at hh'
  obtain rfl:=O6 hh'
  exact hB.ne hb hne
theorem Sl.at_ (hs:Sl w e size v h n xs)(hn:0 < n):∃b off cap,h=some b∧v=RO (some (Y b off)) n cap∧n≤cap∧cap≤maxLen∧b < w.heap.size∧
  ∀j,j < n * size→w.cell? (Y b (off+j))=xs[j]?∧w.frozen? (Y b (off+j))=false:=by
 rcases hs.2 with⟨_,_,rfl⟩|⟨b,off,cap,cur,hh,hv,hB,hnc,hcm,hcs,ht⟩
 ·omega
 ·refine⟨b,off,cap,hh,hv,hnc,hcm,hB.lt,fun j hj=>⟨?_,hB.frozen _⟩⟩
  rw[hB.cell,←ht,List.getElem?_take,OG hj,List.getElem?_drop]
  simp
theorem Sl.form (hs:Sl w e size v h n xs):∃A cap,v=RO A n cap∧n≤cap∧cap≤maxLen:=by
 rcases hs.2 with⟨_,rfl,rfl⟩|⟨b,off,cap,cur,_,hv,_,hnc,hcm,_⟩
 ·exact⟨none,0,rfl,Oq _,OE _⟩
 ·exact⟨_,cap,hv,hnc,hcm⟩
theorem Sl.store {b off cap:Nat}(hs:Sl w e size (RO (some (Y b off)) n cap) h n xs)(j:Nat)(u:Oe) :
  Sl (w.setCell (Y b (off+j)) u) e size (RO (some (Y b off)) n cap) h n (xs.set j u):=by
 refine⟨by simpa using hs.1,?_⟩
 rcases hs.2 with⟨_,hv,_⟩|⟨b',off',cap',cur,hh,hv,hB,hnc,hcm,hcs,ht⟩
 ·cases hv
 ·simp only[PH,Pk,Addr.mk.injEq,and_true,true_and] at hv
  obtain⟨⟨rfl,rfl⟩,rfl⟩:=hv
  refine .inr ⟨b,off,cap,cur.setIfInBounds (off+j) u,hh,rfl,hB.set _ u,hnc,hcm,by simpa using hcs,?_⟩
  rw[RH,←ht,←List.take_set,List.drop_set,Om O,Nat.add_sub_cancel_left]
theorem Sl.cut {b off cap:Nat}(hs:Sl w e size (RO (some (Y b off)) n cap) h n xs)(k:Nat)(hk:k < n) :
  Sl w e size (.slice (some (Y b (off+k * size))) (n - k) (cap - k)) h (n - k) (xs.drop (k * size)):=by
 refine⟨by rw[O8,hs.1,Nat.sub_mul],?_⟩
 rcases hs.2 with⟨_,hv,_⟩|⟨b',off',cap',cur,hh,hv,hB,hnc,hcm,hcs,ht⟩
 ·cases hv
 ·simp only[PH,Pk,Addr.mk.injEq,and_true,true_and] at hv
  obtain⟨⟨rfl,rfl⟩,rfl⟩:=hv
  refine .inr ⟨b,off+k * size,cap - k,cur,hh,rfl,hB,O,O,?_,?_⟩
  ·have:(cap - k) * size=cap * size - k * size:=Nat.sub_mul _ _ _
   have a:k * size≤cap * size:=PG _ O
   omega
  ·rw[←ht,List.drop_take,List.drop_drop,Nat.sub_mul]
end
def NN (w:Oc)(S:Ob Nat)(size:Nat)(v:Oe)(n:Nat)(xs:Ob Oe):Prop:=
 xs.length=n * size∧((v=RO none 0 0∧n=0)∨
  ∃(a:Addr) (cap:Nat),v=RO (some a) n cap∧n≤cap∧cap≤maxLen∧(0 < n→a.spot=none∧a.block < w.heap.size∧a.block∉S∧∀j,j < n * size→w.cell? (Y a.block (a.off+j))=xs[j]?))
theorem Sl.reads {w:Oc}{e:Pa}{size n:Nat}{v:Oe}{h:OC Nat}{xs:Ob Oe}(hs:Sl w e size v h n xs)(S:Ob Nat)(hS:∀b,h=some b→b∉S):NN w S size v n xs:=by
 refine⟨hs.1,?_⟩
 rcases hs.2 with⟨_,rfl,rfl⟩|⟨b,off,cap,cur,hh,rfl,hB,hnc,hcm,hcs,ht⟩
 ·exact .inl ⟨rfl,rfl⟩
 ·refine .inr ⟨_,cap,rfl,hnc,hcm,fun hn=>⟨rfl,hB.lt,hS b hh,fun j hj=>?_⟩⟩
  obtain⟨g,d,c,_,f,_,_,_,a⟩:=hs.at_ hn
  injection f with hv1
  injection hv1 with hv2
  injection hv2 with hv3 hv4
  subst hv3
  subst hv4
  exact(a j hj).1
theorem NN.keep {w w':Oc}{S T:Ob Nat}{size n:Nat}{v:Oe}{xs:Ob Oe}(h:NN w S size v n xs)(hsz:w.heap.size≤w'.heap.size)(hk:∀b,b < w.heap.size→b∉S→w'.heap[b]?=w.heap[b]?)(hT:∀b,b < w.heap.size→b∉S→b∉T):NN w' T size v n xs:=by
 refine⟨h.1,?_⟩
 rcases h.2 with h0|⟨a,cap,hv,h1,h2,h3⟩
 ·exact .inl h0
 ·refine .inr ⟨a,cap,hv,h1,h2,fun hn=>?_⟩
  obtain⟨e,c,d,f⟩:=h3 hn
  refine⟨e,O,hT _ c d,fun j hj=>?_⟩
  rw[←f j hj]
  exact PU (hk a.block c d)
theorem NN.N4 {w w':Oc}{S:Ob Nat}{size n:Nat}{v:Oe}{xs:Ob Oe}(h:NN w S size v n xs)(hc:NH S w w'):NN w' S size v n xs:=
 h.keep hc.size hc.block (fun _ _ h=>h)
theorem NN.below {w w':Oc}{S:Ob Nat}{size n:Nat}{v:Oe}{xs:Ob Oe}(h:NN w S size v n xs)(hc:Od w w w'):NN w' S size v n xs:=
 h.keep hc.size (fun b hb _=>hc.block b hb) (fun _ _ h=>h)
theorem NN.sub {w:Oc}{S T:Ob Nat}{size n:Nat}{v:Oe}{xs:Ob Oe}(h:NN w S size v n xs)(hT:∀b,b < w.heap.size→b∉S→b∉T):NN w T size v n xs:=
 h.keep (Oq _) (fun _ _ _=>rfl) hT
theorem NN.at_ {w:Oc}{S:Ob Nat}{size n:Nat}{v:Oe}{xs:Ob Oe}(h:NN w S size v n xs)(hn:0 < n) :
  ∃b off cap,v=RO (some (Y b off)) n cap∧n≤cap∧cap≤maxLen∧b < w.heap.size∧b∉S∧∀j,j < n * size→w.cell? (Y b (off+j))=xs[j]?:=by
 rcases h.2 with⟨_,h0⟩|⟨⟨b,off,sp⟩,cap,hv,h1,h2,h3⟩
 ·omega
 ·obtain⟨a,c,d,e⟩:=h3 hn
  simp only at a c d e
  subst a
  exact⟨b,off,cap,hv,h1,h2,c,d,e⟩
theorem NN.form {w:Oc}{S:Ob Nat}{size n:Nat}{v:Oe}{xs:Ob Oe}(h:NN w S size v n xs):∃A cap,v=RO A n cap∧n≤cap∧cap≤maxLen:=by
 rcases h.2 with⟨rfl,rfl⟩|⟨a,cap,hv,h1,h2,_⟩
 ·exact⟨none,0,rfl,Oq _,OE _⟩
 ·exact⟨some a,cap,hv,h1,h2⟩
section
variable {P:Pv} (w:Oc)
theorem xL (b:Nat)(e:Pa):∀(vs:Ob Oe) (o:Nat) (w:Oc) (cur:Array Oe),NG w b e cur→o+vs.length≤cur.size→
  NG (w.setCells b o vs) b e ((cur.toList.take o++vs++cur.toList.drop (o+vs.length)).toArray)
 |[],o,w,cur,h,_=>by
  simp only[World.setCells,Pr,List.length_nil,Nat.add_zero,List.take_append_drop]
  exact h
 |v :: r,o,w,cur,h,hl=>by
  simp only[OT] at hl
  have ih:=xL b e r (o+1) (w.setCell (Y b o) v) (cur.setIfInBounds o v) (h.set o v) zT
  have he:(cur.setIfInBounds o v).toList.take (o+1)++r++(cur.setIfInBounds o v).toList.drop (o+1+r.length)=cur.toList.take o++(v :: r)++cur.toList.drop (o+(v :: r).length):=by
   rw[RH,List.drop_set_of_lt O]
   have a:o < cur.toList.length:=zT
   have c:(cur.toList.set o v).take (o+1)=cur.toList.take o++[v]:=by
    rw[Oh (by simpa using a),List.take_set_of_le (Oq _)]
    simp
   rw[c]
   simp only[O4,PO,PE,OT]
   rw[show o+1+r.length=o+(r.length+1) from by omega]
  rw[he] at ih
  exact ih
theorem xY (b:Nat):∀(vs:Ob Oe) (o:Nat) (w:Oc) (k:Nat),k≠b→(w.setCells b o vs).heap[k]?=w.heap[k]?
 |[],_,_,_,_=>rfl
 |v :: r,o,w,k,hk=>by
  rw[World.setCells,xY b r (o+1) _ k hk]
  exact P3 w (Y b o) v k hk
theorem xM (b:Nat):∀(vs:Ob Oe) (o:Nat) (w:Oc),(w.setCells b o vs).os=w.os∧(w.setCells b o vs).tape=w.tape∧(w.setCells b o vs).output=w.output∧(w.setCells b o vs).heap.size=w.heap.size
 |[],_,_=>⟨rfl,rfl,rfl,rfl⟩
 |v :: r,o,w=>by
  obtain⟨h1,h2,h3,h4⟩:=xM b r (o+1) (w.setCell (Y b o) v)
  exact⟨h1,h2,h3,h4.trans (by simp[World.setCell])⟩
theorem uJ {t ty e:Pa}{i:TypeInfo}{z:Oe}{size bytes:Nat}(ht:P.underlying t=some (.slice e))(hi:P.info? e=some i)(hz:i.zero=some z)(hsize:i.size=size)(hby:i.bytes=bytes)(hzs:z.cells.size=size)(hsz:0 < size){v:Oe}{h:OC Nat}{n:Nat}{xs:Ob Oe}(hs:Sl w e size v h n xs)(a:Addr)(m c:Nat)(news:Ob Oe)(hl:news.length=m * size)(hnews:∀j u,news[j]?=some u→w.cell? (a.add j)=some u)(h1:∀u∈news,u.oneCell'=true)(h63:n+m≤maxLen)(hbytes:(n+m) * bytes≤140737488355328) :
  ∃v' h' w',(Builtin.append_ #[t,t] ty #[v,RO (some a) m c]).run P w=.ok v' w'∧Sl w' e size v' h' (n+m) (xs++news)∧NH h.toList w w'∧(h'=h∨∃g,h'=some g∧w.heap.size≤g):=by
 rcases hs.2 with⟨rfl,rfl,rfl⟩|⟨b,off,cap,cur,rfl,rfl,hB,hnc,hcm,hcs,htake⟩
 ·have A:xs=[]:=Oi (by simpa using hs.1)
  subst A
  obtain⟨v',w',o,d,r,_⟩:=run_append_own (P:=P) w w.heap.size t ty e i z size bytes ht hi hz hsize hby hzs hsz (RO none 0 0) 0 [] (World.ownsRow_nil w _ e size) a m c news hl hnews h1 O (by simpa using hbytes) (Oq _)
  refine⟨v',v'.ownBlock,w',o,Sl.rk d,NH.Qn r,?_⟩
  cases p:v'.ownBlock with
  |none=>exact .inl rfl
  |some k=>exact .inr ⟨k,rfl,(d.lt k p).1⟩
 ·by_cases f:n+m≤cap
  ·have y:(n+m) * size≤cap * size:=PG _ f
   have l:(n+m) * size=n * size+m * size:=Nat.add_mul _ _ _
   subst hsize
   have o:=run_append_room_cells (P:=P) w t ty e i ht hi b off n cap a m c news hl hnews h1 f (fun j s=>by
     rw[hB.cell]
     rw[Array.getElem?_eq_getElem (show off+n * i.size+j < cur.size by omega)]
     rfl) (fun j _=>hB.frozen _)
   have q:=xL b e news (off+n * i.size) w cur hB O
   obtain⟨B,D,E,F⟩:=xM b news (off+n * i.size) w
   refine⟨_,some b,_,o,⟨by rw[Oo,hs.1,hl,l],.inr ⟨b,off,cap,_,rfl,rfl,q,f,hcm,?_,?_⟩⟩,⟨B,D,E,by rw[F];exact Oq _,fun k _ hk=>xY b news _ w k yi⟩,.inl rfl⟩
   ·simp only[PC,Oo,OU,O8,PL]
    omega
   ·have x:(cur.toList.take (off+n * i.size)).length=off+n * i.size:=by
     rw[OU,PL]
     omega
    show (List.drop off (cur.toList.take (off+n * i.size)++news++cur.toList.drop (off+n * i.size+news.length))).take ((n+m) * i.size)=xs++news
    rw[O4,List.drop_append_of_le_length O,List.drop_take,Nat.add_sub_cancel_left,htake,←O4]
    rw[List.take_append_of_le_length (by rw[Oo,hs.1,hl];omega)]
    exact Ou (by rw[Oo,hs.1,hl];omega)
  ·obtain⟨v',w',o,d,r⟩:=run_append_arg_grows (P:=P) w t ty e i z size bytes ht hi hz hsize hby hzs hsz (Y b off) n cap xs hs.1 (fun j u hu=>by
     have s:j < n * size:=by have:=(OX.1 hu).1;rw[hs.1] at this;exact this
     rw[Addr.add_lit,hB.cell]
     rw[←htake,List.getElem?_take,OG s,List.getElem?_drop] at hu
     simpa using hu) a m c news hl hnews O h63 hbytes
   refine⟨v',v'.ownBlock,w',o,Sl.rk d,(NH.Qn r).mono zv,?_⟩
   cases p:v'.ownBlock with
   |none=>
    rcases d.2 with⟨_,h0⟩|⟨g,cap',cur',hv',_⟩
    ·omega
    ·rw[hv'] at p
     simp[Value.ownBlock] at p
   |some k=>exact .inr ⟨k,rfl,(d.lt k p).1⟩
theorem yc {W:Oc}{cs:Array Oe}{e':Pa}{ops:Array Oper}{rest:Ob Oper}{o:Oper}{a:Act}{Q:Exit→Act→Oc→Prop}(hgd:o.guard=none)(s x:Operand)(t:Pa)(ho:o.op=.call {callee:=.builtin .append,args:=#[s,x],argTypes:=#[t,t]}){e:Pa}{i:TypeInfo}{z:Oe}{size bytes:Nat}(ht:P.underlying t=some (.slice e))(hi:P.info? e=some i)(hz:i.zero=some z)(hsize:i.size=size)(hby:i.bytes=bytes)(hzs:z.cells.size=size)(hsz:0 < size){v:Oe}{h:OC Nat}{n:Nat}{xs:Ob Oe}(hsl:Sl W e size v h n xs)(hs:a.eval s=v)(m c:Nat)(hx:a.eval x=RO (some (Y W.heap.size 0)) m c)(hl:cs.toList.length=m * size)(h1:∀u∈cs.toList,u.oneCell'=true)(h63:n+m≤maxLen)(hbytes:(n+m) * bytes≤140737488355328)(hk:∀v' h' w',Sl w' e size v' h' (n+m) (xs++cs.toList)→NH h.toList W w'→(h'=h∨∃g,h'=some g∧W.heap.size≤g)→wpList P ops Q rest (a.put o.dst v') w') :
  wpList P ops Q (o :: rest) a (W.alloc (.cells cs e')):=by
 refine wpList_plain hgd fun K hK'=>?_
 obtain⟨v',h',w',b,r1,r2,r3⟩:=uJ (P:=P) (W.alloc (.cells cs e')) (ty:=o.type) ht hi hz hsize hby hzs hsz (hsl.alloc _) (Y W.heap.size 0) m c cs.toList hl (fun j u hj=>by
  rw[Addr.ZI,PZ _ _ _ _ rfl]
  simpa using hj) h1 h63 hbytes
 unfold Oper.wp execOp
 simp only[ho,resolve,invoke,builtin,Sem.run_bind,Sem.run_pure,Result.andThen_ok,List.map_toArray,OY,List.map_nil,hs,hx,b]
 exact MQ
theorem fJ {o:Oper}{a:Act}{K:Act→Oc→Prop}{Q:Exit→Act→Oc→Prop}(s x:Operand)(t:Pa)(ho:o.op=.call {callee:=.builtin .append,args:=#[s,x],argTypes:=#[t,t]}){e:Pa}{i:TypeInfo}{z:Oe}{size bytes:Nat}(ht:P.underlying t=some (.slice e))(hi:P.info? e=some i)(hz:i.zero=some z)(hsize:i.size=size)(hby:i.bytes=bytes)(hzs:z.cells.size=size)(hsz:0 < size){v:Oe}{h:OC Nat}{n:Nat}{xs:Ob Oe}(hsl:Sl w e size v h n xs)(hs:a.eval s=v)(gB:Nat)(cs:Array Oe){e':Pa}{fr:Nat×Nat}(hB:w.heap[gB]?=some (.cells cs e' fr))(m c:Nat)(hx:a.eval x=RO (some (Y gB 0)) m c)(hl:cs.toList.length=m * size)(h1:∀u∈cs.toList,u.oneCell'=true)(h63:n+m≤maxLen)(hbytes:(n+m) * bytes≤140737488355328)(hk:∀v' h' w',Sl w' e size v' h' (n+m) (xs++cs.toList)→NH h.toList w w'→(h'=h∨∃g,h'=some g∧w.heap.size≤g)→K (a.put o.dst v') w') :
  o.wp P a w K Q:=by
 obtain⟨v',h',w',hr,r1,r2,r3⟩:=uJ (P:=P) w (ty:=o.type) ht hi hz hsize hby hzs hsz hsl (Y gB 0) m c cs.toList hl (fun j u hj=>by
  rw[Addr.ZI,cell_of_row w gB j cs e' fr hB]
  simpa using hj) h1 h63 hbytes
 exact Ns
theorem ye {ops:Array Oper}{o:Oper}{a:Act}{K:Act→Oc→Prop}{Q:Exit→Act→Oc→Prop}{E:Prop}(hgd:o.guard=none)(s x:Operand)(t:Pa)(ho:o.op=.call {callee:=.builtin .append,args:=#[s,x],argTypes:=#[t,t]}){e:Pa}{i:TypeInfo}{z:Oe}{size bytes:Nat}(ht:P.underlying t=some (.slice e))(hi:P.info? e=some i)(hz:i.zero=some z)(hsize:i.size=size)(hby:i.bytes=bytes)(hzs:z.cells.size=size)(hsz:0 < size){v:Oe}{h:OC Nat}{n:Nat}{xs:Ob Oe}(hsl:Sl w e size v h n xs)(hs:a.eval s=v)(gB:Nat)(cs:Array Oe){e':Pa}{fr:Nat×Nat}(hB:w.heap[gB]?=some (.cells cs e' fr))(m c:Nat)(hx:a.eval x=RO (some (Y gB 0)) m c)(hl:cs.toList.length=m * size)(h1:∀u∈cs.toList,u.oneCell'=true)(h63:n+m≤maxLen)(hbytes:(n+m) * bytes≤140737488355328)(hk:∀v' h' w',Sl w' e size v' h' (n+m) (xs++cs.toList)→NH h.toList w w'→(h'=h∨∃g,h'=some g∧w.heap.size≤g)→K (a.put o.dst v') w') :
  if P9 o (yielded ops a.tmps)=true then Oper.wp P o a w K Q else E:=by
 have b:P9 o (yielded ops a.tmps)=true:=by simp[P9,hgd]
 rw[OG b]
 exact fJ w s x t ho ht hi hz hsize hby hzs hsz hsl hs gB cs hB m c hx hl h1 h63 hbytes hk
theorem xH {ops:Array Oper}{rest:Ob Oper}{o:Oper}{a:Act}{Q:Exit→Act→Oc→Prop}(hgd:o.guard=none)(s x:Operand)(t:Pa)(ho:o.op=.call {callee:=.builtin .append,args:=#[s,x],argTypes:=#[t,t]}){e:Pa}{i:TypeInfo}{z:Oe}{size bytes:Nat}(ht:P.underlying t=some (.slice e))(hi:P.info? e=some i)(hz:i.zero=some z)(hsize:i.size=size)(hby:i.bytes=bytes)(hzs:z.cells.size=size)(hsz:0 < size){v:Oe}{h:OC Nat}{n:Nat}{xs:Ob Oe}(hsl:Sl w e size v h n xs)(hs:a.eval s=v)(ad:Addr)(m c:Nat)(news:Ob Oe)(hx:a.eval x=RO (some ad) m c)(hl:news.length=m * size)(hnews:∀j u,news[j]?=some u→w.cell? (ad.add j)=some u)(h1:∀u∈news,u.oneCell'=true)(h63:n+m≤maxLen)(hbytes:(n+m) * bytes≤140737488355328)(hk:∀v' h' w',Sl w' e size v' h' (n+m) (xs++news)→NH h.toList w w'→(h'=h∨∃g,h'=some g∧w.heap.size≤g)→wpList P ops Q rest (a.put o.dst v') w') :
  wpList P ops Q (o :: rest) a w:=by
 refine wpList_plain hgd fun K hK=>?_
 obtain⟨v',h',w',b,d,f,k⟩:=uJ (P:=P) w (ty:=o.type) ht hi hz hsize hby hzs hsz hsl ad m c news hl hnews h1 h63 hbytes
 unfold Oper.wp execOp
 simp only[ho,resolve,invoke,builtin,Sem.run_bind,Sem.run_pure,Result.andThen_ok,List.map_toArray,OY,List.map_nil,hs,hx,b]
 exact hK _ _ (hk v' h' w' d f k)
theorem xI {W:Oc}{cs:Array Oe}{e':Pa}{ops:Array Oper}{rest:Ob Oper}{o:Oper}{a:Act}{Q:Exit→Act→Oc→Prop}(hgd:o.guard=none)(s x:Operand)(t:Pa)(ho:o.op=.call {callee:=.builtin .append,args:=#[s,x],argTypes:=#[t,t]}){e:Pa}{i:TypeInfo}{z:Oe}{size bytes:Nat}(ht:P.underlying t=some (.slice e))(hi:P.info? e=some i)(hz:i.zero=some z)(hsize:i.size=size)(hby:i.bytes=bytes)(hzs:z.cells.size=size)(hsz:0 < size){v:Oe}{h:OC Nat}{n:Nat}{xs:Ob Oe}(hsl:Sl W e size v h n xs)(hs:a.eval s=v)(X:Nat)(hX:W.heap.size=X)(m c:Nat)(hx:a.eval x=RO (some (Y X 0)) m c)(hl:cs.toList.length=m * size)(h1:∀u∈cs.toList,u.oneCell'=true)(h63:n+m≤maxLen)(hbytes:(n+m) * bytes≤140737488355328)(hk:∀v' h' w',Sl w' e size v' h' (n+m) (xs++cs.toList)→NH h.toList W w'→(h'=h∨∃g,h'=some g∧W.heap.size≤g)→wpList P ops Q rest (a.put o.dst v') w') :
  wpList P ops Q (o :: rest) a (W.alloc (.cells cs e')):=by
 subst hX
 exact yc hgd s x t ho ht hi hz hsize hby hzs hsz hsl hs m c hx hl h1 h63 hbytes hk
end
structure E4 where
 m:Int
 k:Int
 i:Int
 h:Int
 deriving DecidableEq,Inhabited
def lU (e:E4):Ob Oe:=[I e.m,I e.k,I e.i,I e.h]
def yR (l:Ob E4):Ob Oe:=l.flatMap lU
theorem YS (e:E4)(l:Ob E4):yR (e :: l)=lU e++yR l:=by simp[yR]
theorem vB (a b:Ob E4):yR (a++b)=yR a++yR b:=by simp[yR]
theorem ZK:∀l:Ob E4,(yR l).length=l.length * 4
 |[]=>rfl
 |e :: l=>by rw[YS,Oo,ZK l,OT];simp[lU];omega
theorem XP:∀(l:Ob E4) (k j:Nat) (hk:k < l.length),j < 4→(yR l)[k * 4+j]?=(lU l[k])[j]?
 |e :: l,0,j,_,hj=>by
  rw[YS,Nat.zero_mul,Nat.zero_add,List.getElem?_append_left (by simp[lU];omega)]
  rfl
 |e :: l,k+1,j,hk,hj=>by
  rw[YS,List.getElem?_append_right (by simp[lU];omega)]
  have:(k+1) * 4+j - (lU e).length=k * 4+j:=by simp[lU];omega
  rw[this,XP l k j yi hj]
  rfl
theorem Qk (l:Ob E4)(k:Nat)(hk:k < l.length) :
  (yR l)[k * 4]?=some (I l[k].m)∧(yR l)[k * 4+1]?=some (I l[k].k)∧(yR l)[k * 4+2]?=some (I l[k].i)∧(yR l)[k * 4+3]?=some (I l[k].h):=
 ⟨XP l k 0 hk O,XP l k 1 hk O,XP l k 2 hk O,XP l k 3 hk O⟩
theorem sJ (l:Ob E4)(k:Nat):(yR l).drop (k * 4)=yR (l.drop k):=by
 induction k generalizing l with
 |zero=>simp
 |succ k ih=>
  cases l with
  |nil=>simp[yR]
  |cons e l=>
   rw[YS,List.drop_succ_cons,←ih l,show (k+1) * 4=(lU e).length+k * 4 from by simp[lU];omega,List.drop_append,Nat.add_sub_cancel_left,List.drop_of_length_le (Nat.le_add_right _ _),PE]
theorem KH (e:E4):∀u∈lU e,u.oneCell'=true:=by
 intro u a
 simp only[lU,OB,List.not_mem_nil,or_false] at a
 rcases a with rfl|rfl|rfl|rfl <;> rfl
def vD:Ob E4→Ob E4→Ob E4
 |es,[]=>es
 |es,x :: r=>if ∃y∈es.getLast?,x.m < y.m then es else vD (es++[x]) r
structure Vq where
 most:Int
 es:Ob E4
 floor:Int
def Vq.add (x:Vq)(e:Ob E4):Vq:=
 if ((vD x.es e).length:Int) - x.most > 0 then
  ⟨x.most,(vD x.es e).drop (((vD x.es e).length:Int) - x.most).toNat,((vD x.es e)[(((vD x.es e).length:Int) - x.most).toNat - 1]?.getD default).m⟩
 else ⟨x.most,vD x.es e,x.floor⟩
theorem Vq.rP (x:Vq)(e:Ob E4)(hm:1≤x.most):((x.add e).es.length:Int)≤x.most∧(x.add e).most=x.most:=by
 unfold Vq.add
 split
 ·refine⟨?_,rfl⟩
  simp only[O8]
  omega
 ·refine⟨?_,rfl⟩
  simp only
  omega
abbrev Seen:=Ob (Int×Int×Int)
def addS:Seen→E4→Seen
 |[],e=>[(e.i,e.h,e.h)]
 |p :: r,e=>if p.1=e.i then (p.1,p.2.1,e.h) :: r else p :: addS r e
structure NC where
 made:Ob Int
 turned:Ob Int
 gone:Ob Int
 deriving DecidableEq
def toldOne (t:NC)(p:Int×Int×Int):NC:=
 if p.2.1=1∧p.2.2=3 then t
 else if p.2.1=1 then {t with made:=t.made++[p.1]}
 else if p.2.2=3 then {t with gone:=t.gone++[p.1]}
 else {t with turned:=t.turned++[p.1]}
def toldS (s:Seen):NC:=s.foldl toldOne ⟨[],[],[]⟩
def told (l:Ob E4):NC:=toldS (l.foldl addS [])
def NC.size (t:NC):Nat:=t.made.length+t.turned.length+t.gone.length
end
section
open Go.RowKit
attribute [local go_sem ↓] Go.wp_at_zero Go.wp_at_succ
theorem Try.infoEntry:(prog.info? 159).map (fun i=>(i.zero,i.size,i.bytes))=some (some (.agg #[I 0,I 0,I 0,I 0]),4,32):=zQ
def Y6 (w:Oc)(g:Nat)(h:OC Nat)(x:Vq):Prop:=
 ∃v,NG w g 217 #[I x.most,v,I x.floor]∧Sl w 159 4 v h x.es.length (yR x.es)
theorem Y6.N4 {w w':Oc}{g:Nat}{h:OC Nat}{x:Vq}{S:Ob Nat}(hl:Y6 w g h x)(hc:NH S w w')(hg:g∉S)(hh:∀b,h=some b→b∉S):Y6 w' g h x:=by
 obtain⟨v,a,c⟩:=hl
 exact⟨v,a.N4 hc hg,c.N4 hc hh⟩
theorem Y6.heap {w w':Oc}{g:Nat}{h:OC Nat}{x:Vq}(hl:Y6 w g h x)(he:w'.heap=w.heap):Y6 w' g h x:=by
 obtain⟨v,a,b⟩:=hl
 exact⟨v,a.heap he,b.heap he⟩
theorem Y6.moved {w w':Oc}{g:Nat}{h:OC Nat}{x:Vq}(hl:Y6 w g h x){o:Obj}{n:Nat}(he:w'=(w.alloc o).drewN n):Y6 w' g h x:=by
 subst he
 obtain⟨v,a,b⟩:=hl
 exact⟨v,(a.alloc o).heap rfl,(b.alloc o).heap rfl⟩
def RdE (w:Oc)(A:OC Addr)(S:Ob Nat)(e:Ob E4):Prop:=
 e≠[]→∃b off,A=some ⟨b,off,none⟩∧b < w.heap.size∧b∉S∧∀j,j < e.length * 4→w.cell? (Y b (off+j))=(yR e)[j]?
theorem new_ok (n:Int)(w:Oc)(hn:¬n < 1) :
  C 80 #[I n] w fun e w'=>e=RR (.tuple #[Y w.heap.size 0,I 0])∧Y6 w' w.heap.size none ⟨n,[],0⟩∧Od w w w'∧w.heap.size < w'.heap.size:=by
 go_enter func80,ntmps80
 go_wp2
 go_ret2
 exact⟨rfl,⟨_,NG.new _ _ _,(Sl.nil _ _ _)⟩,(Ok _ _).alloc (Oq _) _,zv⟩
structure pY (w:Oc)(g:Nat)(h:OC Nat)(x:Vq)(e:Ob E4)(k:Nat)(es:Ob E4)(h':OC Nat)(wr:Oc):Prop where
 loop:vD x.es e=vD es (e.drop k)
 len:es.length≤x.es.length+k
 log:Y6 wr g h' ⟨x.most,es,x.floor⟩
 N4:NH (g :: h.toList) w wr
 own:h'=h∨∃k,h'=some k∧w.heap.size≤k
theorem Kq {w wr W1 w2:Oc}{g:Nat}{h h' h2:OC Nat}{x:Vq}{e es:Ob E4}{k:Nat}{y:E4}{A' A2:OC Addr}{n m cap' cap2:Nat}{o:Obj}(hu:pY w g h x e k es h' wr)(hk:k < e.length)(hy:e[k]=y)(hno:¬∃z∈es.getLast?,y.m < z.m)(q2:NG W1 g 217 #[I x.most,RO A' n cap',I x.floor])(q1:Sl W1 159 4 (RO A' n cap') h' n (yR es))(q4:NH (g :: h.toList) w W1)(hs2:Sl w2 159 4 (RO A2 m cap2) h2 (n+1) (yR es++(#[I y.m,I y.k,I y.i,I y.h]:Array Oe).toList))(hc2:NH h'.toList (W1.alloc o).drew w2)(ho2:h2=h'∨∃g,h2=some g∧(W1.alloc o).drew.heap.size≤g) :
  pY w g h x e (k+1) (es++[y]) h2 (w2.setCell (Y g 1) (RO A2 m cap2)):=by
 have r:(W1.alloc o).drew.heap.size=W1.heap.size+1:=zv
 have j:g∉h'.toList:=fun d=>by
  simp at d
  exact q1.vu q2 zD g d rfl
 have t:w.heap.size≤W1.heap.size:=q4.size
 have a:NG w2 g 217 #[I x.most,RO A' n cap',I x.floor]:=((q2.alloc o).heap rfl:NG (W1.alloc o).drew g _ _).N4 hc2 j
 have f:yR es++(#[I y.m,I y.k,I y.i,I y.h]:Array Oe).toList=yR (es++[y]):=by rw[vB];rfl
 rw[f] at hs2
 have Eu:h2≠some g:=by
  intro p
  exact hs2.vu a zD g p rfl
 have l:∀b,h2=some b→b≠g:=fun b hb hg=>Eu (by rw[hb,hg])
 have q:n=es.length:=by have:=q1.1;rw[ZK] at this;omega
 have d:m=n+1:=by
  obtain⟨u,v,s,_⟩:=hs2.form
  injection s
 subst d
 subst q
 have c:NH (g :: h.toList) w w2:=by
  exact Nj
 refine⟨?_,?_,⟨_,a.set 1 _,?_⟩,c.set (.inl zv) _,?_⟩
 ·rw[hu.loop,O7 hk,hy,vD,Om hno]
 ·exact IB
 ·exact FE
 ·exact ID
theorem Kr {W1:Oc}{g:Nat}{h':OC Nat}{x:Vq}{e es:Ob E4}{b off n N cap':Nat}(q2:NG W1 g 217 #[I x.most,RO (some (Y b off)) N cap',I x.floor])(q1:Sl W1 159 4 (RO (some (Y b off)) N cap') h' N (yR es))(hN:es.length=N)(hn:n+1 < N)(hadd:x.add e=⟨x.most,es.drop (n+1),(es[n]' O).m⟩) :
  Y6 ((W1.setCell (Y g 2) (I (es[n]' O).m)).setCell (Y g 1) (.slice (some (Y b (off+(n+1) * 4))) (N - (n+1)) (cap' - (n+1)))) g h' (x.add e):=by
 have a:h'≠some g:=fun hh=>q1.vu q2 zD g hh rfl
 rw[hadd]
 refine⟨.slice (some (Y b (off+(n+1) * 4))) (N - (n+1)) (cap' - (n+1)),?_,?_⟩
 ·exact(q2.set 2 _).set 1 _
 ·have c:=((q1.cut (n+1) hn).far (p:=⟨g,2,none⟩) a (I (es[n]' O).m)).far (p:=⟨g,1,none⟩) a (.slice (some (Y b (off+(n+1) * 4))) (N - (n+1)) (cap' - (n+1)))
  rw[sJ] at c
  have d:(es.drop (n+1)).length=N - (n+1):=by simp[hN]
  rw[d]
  exact c
theorem add_any (w:Oc)(g:Nat)(h:OC Nat)(x:Vq)(A:OC Addr)(cap:Nat)(e:Ob E4)(hl:Y6 w g h x)(hm1:1≤x.most)(hm2:x.most≤1099511627776)(hn1:x.es.length≤1099511627776)(hn2:e.length≤1099511627776)(hr:RdE w A (g :: h.toList) e) :
  C 77 #[Y g 0,RO A e.length cap] w fun e' w'=>e'=RR (.tuple #[])∧
   ∃h',Y6 w' g h' (x.add e)∧NH (g :: h.toList) w w'∧(h'=h∨∃k,h'=some k∧w.heap.size≤k):=by
 obtain⟨i0,hi,a7,a8,a9⟩:=info_parts Try.infoEntry
 have B:pY w g h x e 0 x.es h w:=⟨rfl,O,hl,NH.refl _ _,.inl rfl⟩
 have HS:=V B
 clear B hl
 have HR:=V hr
 clear hr
 obtain⟨L,hL⟩:∃L,e.length=L:=⟨_,rfl⟩
 rw[hL]
 rw[hL] at hn2
 have HL:=V hL
 clear hL
 go_enter func77,ntmps77
 go_upto_block 0 with(fail)
 go_cut [] (fun wx=>∃(es:Ob E4) (h':OC Nat),Z (vD x.es e=es)∧Y6 wx g h' ⟨x.most,es,x.floor⟩∧NH (g :: h.toList) w wx∧(h'=h∨∃k,h'=some k∧w.heap.size≤k)∧es.length≤2199023255552)
 case first=>
  go_wp2_with fail
  go_loopw [12] (fun i wr=>∃(k:Nat) (es:Ob E4) (h':OC Nat),k≤L∧i=I k∧Z (pY w g h x e k es h' wr)) (fun i _=>L - (intOf i).toNat)
  case atStart=>exact⟨0,_,_,OE _,rfl,HS⟩
  case round=>
   obtain⟨k,es,h',hk,rfl,HU⟩:=hrel
   by_cases ap:k < L
   ·have hke:k < e.length:=by rw[HL.o];exact ap
    obtain⟨b,d,rfl,S,ae,D⟩:=HR.o (by rintro rfl;simp at hke)
    have F:∀j,j < e.length * 4→wr.cell? (Y b (d+j))=(yR e)[j]?:=fun j hj=>(HU.o.N4.cell (p:=⟨b,d+j,none⟩) S ae).trans (D j hj)
    obtain⟨f0,f1,f2,f3⟩:=Qk e k hke
    have d0:wr.cell? (Y b (d+k * 4))=some (I e[k].m):=(F (k * 4) O).trans f0
    have d1:wr.cell? (Y b (d+k * 4+1))=some (I e[k].k):=(F (k * 4+1) O).trans f1
    have d2:wr.cell? (Y b (d+k * 4+2))=some (I e[k].i):=(F (k * 4+2) O).trans f2
    have d3:wr.cell? (Y b (d+k * 4+3))=some (I e[k].h):=(F (k * 4+3) O).trans f3
    clear F D f0 f1 f2 f3
    obtain⟨v,hB,U⟩:=HU.o.log
    obtain⟨Q,a,rfl,G,ag⟩:=U.form
    have c1:wr.cell? (Y g 1)=some (RO Q es.length a):=hB.cell 1
    have a':g < wr.heap.size:=hB.lt
    have au:b < wr.heap.size:=OJ S HU.o.N4.size
    generalize he:e[k]=y at d0 d1 d2 d3
    have HE:=V he
    clear he
    have HB:=V hB
    have r:=V U
    have T:es.length≤2199023255552:=fR
    clear hB U
    by_cases hz:es.length=0
    ·have al:es=[]:=Oi hz
     subst al
     simp only[List.length_nil] at c1 G T
     have ko:¬∃z∈([]:Ob E4).getLast?,y.m < z.m:=zv
     clear hz
     go_wp2_with fail
     go_quiet (fail)
     go_wp2_with fail
     have q1:Sl ((wr.alloc (.cells #[I y.m,I y.k,I y.i,I y.h] 159)).drewN nq) 159 4 (RO Q 0 a) h' 0 (yR []):=(r.o.alloc _).heap rfl
     have q2:NG ((wr.alloc (.cells #[I y.m,I y.k,I y.i,I y.h] 159)).drewN nq) g 217 #[I x.most,RO Q 0 a,I x.floor]:=(HB.o.alloc _).heap rfl
     have s:NG ((wr.alloc (.cells #[I y.m,I y.k,I y.i,I y.h] 159)).drewN nq) wr.heap.size 159 #[I y.m,I y.k,I y.i,I y.h]:=(NG.new wr _ _).heap rfl
     have q4:NH (g :: h.toList) w ((wr.alloc (.cells #[I y.m,I y.k,I y.i,I y.h] 159)).drewN nq):=(HU.o.N4.alloc _).drewN _
     have q5:∀b,h'=some b→b≠wr.heap.size:=fun b hb=>by have:=r.o.lt b hb;omega
     generalize (wr.alloc (.cells #[I y.m,I y.k,I y.i,I y.h] 159)).drewN nq=W1 at q1 q2 s q4 ⊢
     have hX:wr.heap.size < W1.heap.size:=s.lt
     generalize wr.heap.size=X at s q5 hX ⊢
     have e1:W1.cell? (Y g 1)=some (RO Q 0 a):=q2.cell 1
     have e2:W1.frozen? (Y g 1)=false:=q2.frozen 1
     have e3:W1.cell? (Y X 0)=some (I y.m):=s.cell 0
     have e4:W1.cell? (Y X 1)=some (I y.k):=s.cell 1
     have e5:W1.cell? (Y X 2)=some (I y.i):=s.cell 2
     have e6:W1.cell? (Y X 3)=some (I y.h):=s.cell 3
     have q:g < W1.heap.size:=q2.lt
     have E:g∉h'.toList:=fun hm=>by
      simp at hm
      exact q1.vu q2 zD g hm rfl
     go_region_law (refine ye _ zF (.tmp 41) (.tmp 43) _ zF underlying156 hi a7 a8 a9 rfl O ((q1.alloc _).heap zF) uE W1.heap.size #[I y.m,I y.k,I y.i,I y.h] (e':=159) (fr:=(0,0)) (heap_alloc_new W1 _) 1 1 uE zF xt yV O ?_;intro v2 h2 w2 hs2 hc2 ho2;obtain⟨A2,a4,rfl,_,_⟩:=hs2.form;have am:w2.frozen? (Y g 1)=false:=(hc2.frozen (p:=⟨g,1,none⟩) zT E).trans ((Pn _ _ _ q).trans e2);have an:w2.cell? (Y g 1)=some (RO Q 0 a):=(hc2.cell (p:=⟨g,1,none⟩) zT E).trans ((Pw _ _ _ q).trans e1))
     all_goals
      exact ML
    ·obtain⟨vo,z,rfl⟩:∃vo z,es=vo++[z]:=⟨es.dropLast,es.getLast (by rintro rfl;simp at hz),(List.dropLast_concat_getLast _).symm⟩
     have hN:(vo++[z]).length=vo.length+1:=zv
     rw[hN] at c1 G T HB r
     obtain⟨ab,f,a3,b0,W,_,_,av,aj⟩:=r.o.at_ O
     injection W with hva1 hva2 hva3
     subst hva1
     subst hva3
     have a0:wr.cell? (Y ab (f+vo.length * 4))=some (I z.m):=by
      exact FU
     clear aj
     have Ev:(vo++[z]).getLast?=some z:=zv
     generalize a5:vo.length=N at c1 G T HB r a0
     have ad:=V a5
     clear a5 hN hz
     have w1:Ov.wrap ((N:Int)+1 - 1)=(N:Int):=IP
     by_cases Ew:y.m < z.m
     ·have c:vD x.es e=vo++[z]:=by
       exact G2
      have HF:=V c
      clear c
      go_wp2_with fail
      go_quiet (fail)
      go_wp2_with fail
      go_meet
      exact⟨_,h',HF,HU.o.log.moved rfl,((HU.o.N4.alloc _).drewN _),HU.o.own,by simp[ad.o];omega⟩
     ·have ko:¬∃u∈(vo++[z]).getLast?,y.m < u.m:=by
       rw[Ev]
       simpa using Ew
      go_wp2_with fail
      go_quiet (fail)
      go_wp2_with fail
      have q1:Sl ((wr.alloc (.cells #[I y.m,I y.k,I y.i,I y.h] 159)).drewN nq) 159 4 (RO (some (Y ab f)) (N+1) a) h' (N+1) (yR (vo++[z])):=(r.o.alloc _).heap rfl
      have q2:NG ((wr.alloc (.cells #[I y.m,I y.k,I y.i,I y.h] 159)).drewN nq) g 217 #[I x.most,RO (some (Y ab f)) (N+1) a,I x.floor]:=(HB.o.alloc _).heap rfl
      have s:NG ((wr.alloc (.cells #[I y.m,I y.k,I y.i,I y.h] 159)).drewN nq) wr.heap.size 159 #[I y.m,I y.k,I y.i,I y.h]:=(NG.new wr _ _).heap rfl
      have q4:NH (g :: h.toList) w ((wr.alloc (.cells #[I y.m,I y.k,I y.i,I y.h] 159)).drewN nq):=(HU.o.N4.alloc _).drewN _
      have q5:∀b,h'=some b→b≠wr.heap.size:=fun b hb=>by have:=r.o.lt b hb;omega
      generalize (wr.alloc (.cells #[I y.m,I y.k,I y.i,I y.h] 159)).drewN nq=W1 at q1 q2 s q4 ⊢
      have hX:wr.heap.size < W1.heap.size:=s.lt
      generalize wr.heap.size=X at s q5 hX ⊢
      have e1:W1.cell? (Y g 1)=some (RO (some (Y ab f)) (N+1) a):=q2.cell 1
      have e2:W1.frozen? (Y g 1)=false:=q2.frozen 1
      have e3:W1.cell? (Y X 0)=some (I y.m):=s.cell 0
      have e4:W1.cell? (Y X 1)=some (I y.k):=s.cell 1
      have e5:W1.cell? (Y X 2)=some (I y.i):=s.cell 2
      have e6:W1.cell? (Y X 3)=some (I y.h):=s.cell 3
      have q:g < W1.heap.size:=q2.lt
      have E:g∉h'.toList:=fun hm=>by
       simp at hm
       exact q1.vu q2 zD g hm rfl
      go_region_law (refine ye _ zF (.tmp 41) (.tmp 43) _ zF underlying156 hi a7 a8 a9 rfl O ((q1.alloc _).heap zF) uE W1.heap.size #[I y.m,I y.k,I y.i,I y.h] (e':=159) (fr:=(0,0)) (heap_alloc_new W1 _) 1 1 uE zF xt yV O ?_;intro v2 h2 w2 hs2 hc2 ho2;obtain⟨A2,a4,rfl,_,_⟩:=hs2.form;have am:w2.frozen? (Y g 1)=false:=(hc2.frozen (p:=⟨g,1,none⟩) zT E).trans ((Pn _ _ _ q).trans e2);have an:w2.cell? (Y g 1)=some (RO (some (Y ab f)) (N+1) a):=(hc2.cell (p:=⟨g,1,none⟩) zT E).trans ((Pw _ _ _ q).trans e1))
      all_goals
       exact ML
   ·have ao:k=L:=O
    subst ao
    have c:vD x.es e=es:=by
     rw[HU.o.loop,List.drop_of_length_le (by rw[HL.o];exact Oq _)]
     rfl
    have HF:=V c
    clear c
    go_wp2_with fail
    go_meet
    exact⟨_,h',HF,HU.o.log,HU.o.N4,HU.o.own,fR⟩
 case rest=>
  obtain⟨es,h',HF,a6,H,P,az⟩:=hcut
  obtain⟨v,ac,aa⟩:=a6
  have q2:NG wc g 217 #[I x.most,v,I x.floor]:=ac
  have q1:Sl wc 159 4 v h' es.length (yR es):=aa
  clear aa ac
  obtain⟨Q,a,rfl,G,ag⟩:=q1.form
  obtain⟨M,hM⟩:∃M:Nat,x.most=(M:Int):=⟨x.most.toNat,O⟩
  have c0:wc.cell? (Y g 0)=some (I (M:Int)):=by rw[←hM];exact q2.cell 0
  have c1:wc.cell? (Y g 1)=some (RO Q es.length a):=q2.cell 1
  have c2:wc.cell? (Y g 2)=some (I x.floor):=q2.cell 2
  have f1:wc.frozen? (Y g 1)=false:=q2.frozen 1
  have f2:wc.frozen? (Y g 2)=false:=q2.frozen 2
  have a2:=V q2
  have R:=V q1
  have HC:=V H
  have HO:=V P
  clear q2 q1 H P HR HS
  by_cases aq:M < es.length
  ·obtain⟨n,hn⟩:∃n,es.length=M+(n+1):=⟨es.length - M - 1,O⟩
   have ar:Ov.wrap ((es.length:Int) - (M:Int))=(n:Int)+1:=by
    rw[show (es.length:Int) - (M:Int)=(n:Int)+1 from by omega]
    exact Og _ O
   obtain⟨b,d,a3,hh,W,_,_,S,aj⟩:=R.o.at_ O
   injection W with hva1 _ hva3
   subst hva1
   subst hva3
   have K:n < es.length:=O
   have a0:wc.cell? (Y b (d+n * 4))=some (I es[n].m):=by
    have h1:=(aj (n * 4) O).1
    rw[h1]
    exact(Qk es n K).1
   clear aj
   have l:x.add e=⟨x.most,es.drop (n+1),es[n].m⟩:=by
    unfold Vq.add
    rw[HF.o,hM,OG O,show ((es.length:Int) - (M:Int)).toNat=n+1 from by omega]
    simp[Ot K]
   have aw:¬a=n+1:=O
   have J:=Kr (e:=e) (x:=x) a2.o R.o rfl (show n+1 < es.length by omega) l
   have t:=V J
   have b1:n+1≤es.length:=O
   have HN:=V hn
   have a1:Z (NH (g :: h.toList) w ((wc.setCell (Y g 2) (I es[n].m)).setCell (Y g 1) (.slice (some (Y b (d+(n+1) * 4))) (es.length - (n+1)) (a - (n+1))))):=
    (HC.o.set (p:=⟨g,2,none⟩) (.inl zv) _).set (p:=⟨g,1,none⟩) (.inl zv) _
   have b3:1≤(M:Int):=O
   generalize es[n].m=zm at a0 t a1
   clear J l hm1 hm2 hn hM
   go_wp2_with fail
   go_quiet (fail)
   go_wp2
   go_end0
   exact⟨rfl,h',t.o.heap rfl,a1.o.heap rfl rfl rfl rfl,HO.o⟩
  ·have ar:Ov.wrap ((es.length:Int) - (M:Int))=(es.length:Int) - (M:Int):=Og _ O
   have l:x.add e=⟨x.most,es,x.floor⟩:=by
    unfold Vq.add
    rw[HF.o,hM,Om O]
   have t:Z (Y6 wc g h' (x.add e)):=by
    rw[l]
    exact⟨_,a2.o,R.o⟩
   have b2:(es.length:Int) - (M:Int)≤0:=O
   clear l hM
   go_wp2_with fail
   go_quiet (fail)
   go_wp2
   go_end0
   exact⟨rfl,h',t.o.heap rfl,HC.o.heap rfl rfl rfl rfl,HO.o⟩
end
section
open Go.RowKit
theorem Yu {w:Oc}{size n:Nat}{xs:Ob Oe}(a:Addr)(hlen:xs.length=n * size)(h:0 < n→a.spot=none∧a.block < w.heap.size∧a.block∉([]:Ob Nat)∧∀j,j < n * size→w.cell? (Y a.block (a.off+j))=xs[j]?) :
  ∀j u,xs[j]?=some u→w.cell? (a.add j)=some u:=by
 intro j u c
 have f:j < n * size:=by
  have:=(OX.1 c).1
  omega
 have g:0 < n:=by
  rcases Nat.eq_zero_or_pos n with h0|h0
  ·subst h0
   omega
  ·exact h0
 obtain⟨d,_,_,e⟩:=h g
 obtain⟨b,off,i⟩:=a
 simp only at d e
 subst d
 rw[Addr.add_lit,e j f,c]
theorem ZB (w:Oc)(e:Pa)(size:Nat):Sl (w.alloc (.cells #[] e)) e size (RO (some (Y w.heap.size 0)) 0 0) (some w.heap.size) 0 []:=
 ⟨zv,.inr ⟨w.heap.size,0,0,#[],rfl,rfl,NG.new _ _ _,Oq _,OE _,zv,zv⟩⟩
theorem BB (l:Ob E4):∀u∈yR l,u.oneCell'=true:=by
 intro u b
 obtain⟨e,_,a⟩:=List.mem_flatMap.1 b
 exact KH e u a
section
variable {α:Type} {k:Nat} {enc:α→Ob Oe}
def zU (enc:α→Ob Oe)(l:Ob α):Ob Oe:=l.flatMap enc
theorem Zl (x:α)(l:Ob α):zU enc (x :: l)=enc x++zU enc l:=X7
theorem ZL (a b:Ob α):zU enc (a++b)=zU enc a++zU enc b:=X7
theorem uI (a:Ob α)(x:α):zU enc (a++[x])=zU enc a++enc x:=X7
theorem xW (he:∀x,(enc x).length=k):∀l:Ob α,(zU enc l).length=l.length * k
 |[]=>X7
 |x :: l=>by
  rw[Zl,Oo,xW he l,OT,he,Nat.add_mul,Nat.one_mul,Nat.add_comm]
theorem yv (he:∀x,(enc x).length=k):∀(l:Ob α) (i j:Nat) (hi:i < l.length),j < k→(zU enc l)[i * k+j]?=(enc l[i])[j]?
 |x :: l,0,j,_,hj=>by
  rw[Zl,Nat.zero_mul,Nat.zero_add,List.getElem?_append_left (by rw[he];exact hj)]
  rfl
 |x :: l,i+1,j,hi,hj=>by
  rw[Zl,List.getElem?_append_right fS]
  have:(i+1) * k+j - (enc x).length=i * k+j:=fS
  rw[this,yv he l i j vq hj]
  rfl
theorem XQ (h1:∀x,∀u∈enc x,u.oneCell'=true)(l:Ob α):∀u∈zU enc l,u.oneCell'=true:=by
 intro u a
 obtain⟨x,_,b⟩:=List.mem_flatMap.1 a
 exact h1 x u b
theorem ub (he:∀x,(enc x).length=k):∀(l:Ob α) (i j:Nat) (hi:i < l.length),j < k→∀(u:Oe) (y:α),enc y=(enc l[i]).set j u→(zU enc l).set (i * k+j) u=zU enc (l.set i y)
 |x :: l,0,j,_,hj,u,y,hy=>by
  rw[Zl,Nat.zero_mul,Nat.zero_add,List.set_append_left _ _ (by rw[he];exact hj),List.set_cons_zero,Zl,hy]
  rfl
 |x :: l,i+1,j,hi,hj,u,y,hy=>by
  rw[Zl,List.set_append_right _ _ fS,List.set_cons_succ,Zl]
  have:(i+1) * k+j - (enc x).length=i * k+j:=fS
  rw[this,ub he l i j vq hj u y hy]
end
end
section
open Go Go.RowKit
def gY {α:Type}(F:Fence)(n:Nat)(P:Pv)(g:Nat)(lb:Array Oe)(encs:α→Array Oe)(Kp:Oc→Oc→Prop)(B:Nat)(S Sp:Ob α→Prop)(N:Nat)(w:Oc):Prop:=
 ∀(l:Nat) (J Jx:Ob α→Oc→Prop) (W:Oc),Od w w W→(∀pre A A',J pre A→NH [B] A A'→J pre A')→(∀pre A A',Jx pre A→NH [B] A A'→Jx pre A')→
  (∀pre x W1,J pre W1→pre.length < N→YieldAt F (n - 1) P l (encs x) W1 fun e W'=>
   (e=RR (.bool true)∧J (pre++[x]) W'∧Kp W1 W')∨(e=RR (.bool false)∧Jx (pre++[x]) W'))→
  J [] W→
  CallsIn F n P g (#[.func (.yield l) #[] #[]]++lb) W fun e W'=>(∃v,e=RR v)∧((∃xs,S xs∧J xs W')∨(∃pre,Sp pre∧Jx pre W'))
variable {F:Fence} {n:Nat} {P:Pv}
theorem VY {α:Type}{g:Operand}{ps:Array Tmp}{assign body:Code}{Q:Exit→Act→Oc→Prop}{a:Act}{w:Oc}(hro:F.round=none)(h1:1≤n){gf:Nat}{lb:Array Oe}(hg:a.eval g=.func (.func gf) #[] lb)(hFg:F.fn gf)(eg:∀args w,(callFunc gf args).run P w=.ok (.enter gf args) w){encs:α→Array Oe}{Kp:Oc→Oc→Prop}{B:Nat}{S Sp:Ob α→Prop}{N:Nat}(hseq:gY F (n - 1) P gf lb encs Kp B S Sp N w)(hB:B < w.heap.size)(hKt:∀{A B CC:Oc},Kp A B→Kp B CC→Kp A CC)(hKb:∀(W:Oc) (l:Nat) (o o':Obj),w.heap.size≤l→W.heap[l]?=some o→o.isCells=false→o.isWalk=false→Kp W (W.putObj l o'))(hps:∀x,(encs x).size=ps.size)(II:Ob α→Oc→Prop)(Ix:Code→Ob α→Oc→Prop)(hI:OwnFrom w.heap.size II)(hIx:∀c,OwnFrom w.heap.size (Ix c))(hIB:∀pre A A',II pre A→NH [B] A A'→II pre A')(hIxB:∀c pre A A',Ix c pre A→NH [B] A A'→Ix c pre A')(h0:II [] w)(a₁:α→Act)(hassign:∀(l:Nat) (x:α) (W:Oc) (K:Act→Oc→Prop),K (a₁ x) W→
   assign.wpIn (F.inRound l) (n - 1 - 1) P (Exit.then K (fun _ _ _=>False)) {tmps:=(ps.zip (encs x)).foldl (fun t (p,v)=>t.setIfInBounds p v) a.tmps,defers:=[]} W)(hbody:∀(l:Nat) (pre:Ob α) (x:α) (W:Oc),II pre W→pre.length < N→body.wpIn (F.inRound l) (n - 1 - 1) P (ownPostK Kp II Ix (pre++[x]) W) (a₁ x) W)(hdone:∀(D:Nat) (xs:Ob α) (W:Oc),w.heap.size≤D→S xs→II xs W→W.heap[D]?=some (.deferred (some []))→Q .normal {a with defers:={target:=.collected D,args:=#[]} :: a.defers} W)(hstop:∀(D:Nat) (c:Code) (pre:Ob α) (W:Oc),w.heap.size≤D→Sp pre→Ix c pre W→W.heap[D]?=some (.deferred (some []))→c.wpIn F n P Q {a with defers:={target:=.collected D,args:=#[]} :: a.defers} W) :
  (Code.rangeFunc g ps assign body).wpIn F n P Q a w:=by
 refine wpIn_rangeFunc ?_
 intro fn U
 rw[hro]
 obtain⟨b,Ey⟩:∃b:LoopState→OC Code→Loop,b=fun st pe=>{state:=st,pending:=pe,fn,tmps:=a.tmps,params:=ps,assign,body,defers:=w.heap.size}:=⟨_,rfl⟩
 obtain⟨q,m⟩:∃q,(w.alloc (.deferred (some []))).alloc (.loop (b .ready none))=q:=⟨_,rfl⟩
 have M:q.heap[w.heap.size+1]?=some (.loop (b .ready none)):=by
  rw[←m];have:=World.alloc_heap_new (w.alloc (.deferred (some []))) (.loop (b .ready none));rwa [O3] at this
 have L:q.heap[w.heap.size]?=some (.deferred (some [])):=by
  rw[←m];exact(Below.heap_alloc _ _ _ zv).trans (World.alloc_heap_new w _)
 have J:II [] q:=by rw[←m];exact hI.alloc _ (hI.alloc _ h0)
 have T:Od w w q:=by
  rw[←m];exact((Ok _ w).alloc (Oq _) _).alloc zv _
 refine⟨w.heap.size+1,[{target:=.collected w.heap.size,args:=#[]}],q,{target:=.fn (.func gf) lb,args:=#[.func (.yield (w.heap.size+1)) #[] #[]]},q,gf,
  #[.func (.yield (w.heap.size+1)) #[] #[]]++lb,q,?_,?_,?_,?_,fun _=>h1,?_⟩
 ·rw[←m,Ey];exact run_enterLoop_outer _ _ _ _ _
 ·simp only[resolve,hg]
  simp[go_sem]
 ·intro f' y;simp[Target.leads] at y;subst y;exact hFg
 ·simp[invoke,go_sem,eg]
 ·refine(hseq (w.heap.size+1)
   (fun pre W=>II pre W∧W.heap[w.heap.size+1]?=some (.loop (b .ready none))∧W.heap[w.heap.size]?=some (.deferred (some [])))
   (fun pre W=>∃c,Ix c pre W∧W.heap[w.heap.size+1]?=some (.loop (b .done (some c)))∧W.heap[w.heap.size]?=some (.deferred (some [])))
   q T
   (fun pre A A' hs hc=>⟨hIB pre A A' hs.1 hc,(hc.block _ (Pp.1 hs.2.1).1 zT).trans hs.2.1,(hc.block _ (Pp.1 hs.2.2).1 zT).trans hs.2.2⟩)
   (fun pre A A' hs hc=>by
    obtain⟨c,h1,h2,h3⟩:=hs
    exact⟨c,hIxB c pre A A' h1 hc,(hc.block _ (Pp.1 h2).1 zT).trans h2,(hc.block _ (Pp.1 h3).1 zT).trans h3⟩)
   ?_ ⟨J,M,L⟩).mono ?_
  ·rintro pre x W ⟨z,hl,E⟩ H
   have a1:w.heap.size+1 < W.heap.size:=(Pp.1 hl).1
   have hy:=run_yield (P:=P) (args:=encs x) hl (by rw[Ey];exact hps x)
   rw[Ey] at hy
   refine⟨fn,_,assign,body,hy,roundIn_of_wpIn U (hassign _ x W _ ⟨_,run_beginRound hl (by rw[Ey]),?_⟩)⟩
   have a0:(W.putObj (w.heap.size+1) (.loop {b .ready none with state:=.busy})).heap[w.heap.size+1]?=some (.loop {b .ready none with state:=.busy}):=World.putObj_heap_same a1
   have X:(W.putObj (w.heap.size+1) (.loop {b .ready none with state:=.busy})).heap[w.heap.size]?=some (.deferred (some [])):=(PI O).trans E
   have a2:Kp W (W.putObj (w.heap.size+1) (.loop {b .ready none with state:=.busy})):=hKb _ _ _ _ O hl rfl rfl
   refine wpIn_mono (hbody _ pre x _ (hI.putObj _ z O hl rfl) H) ?_
   have r:∀(jump:OC Code) (k:Oc),KeepsOthers (W.putObj (w.heap.size+1) (.loop {b .ready none with state:=.busy})) k→
     (Instr.endRound (w.heap.size+1) jump).run P k=.ok (.bool jump.isNone) (k.putObj (w.heap.size+1) (.loop (b (if jump.isNone then .ready else .done) jump)))∧
     k.heap[w.heap.size+1]?=some (.loop {b .ready none with state:=.busy})∧
     (k.putObj (w.heap.size+1) (.loop (b (if jump.isNone then .ready else .done) jump))).heap[w.heap.size+1]?=some (.loop (b (if jump.isNone then .ready else .done) jump))∧
     (k.putObj (w.heap.size+1) (.loop (b (if jump.isNone then .ready else .done) jump))).heap[w.heap.size]?=some (.deferred (some [])):=fun jump k f=>by
    have d:=f.same _ _ a0 rfl
    have:=run_endRound (P:=P) jump d
    rw[Ey] at this ⊢
    exact⟨this,by rw[Ey] at d;exact d,World.putObj_heap_same (Pp.1 d).1,(PI O).trans (f.same _ _ X rfl)⟩
   rintro e a3 k u
   cases e with
   |normal=>
    obtain⟨f,G,h⟩:=u
    obtain⟨s,d,j,i⟩:=r none k f
    exact⟨_,_,s,.inl ⟨rfl,⟨hI.putObj _ h O d rfl,j,i⟩,hKt (hKt a2 G) (hKb _ _ _ _ O d rfl rfl)⟩⟩
   |ret=>
    obtain⟨f,h⟩:=u
    obtain⟨s,d,j,i⟩:=r (some .ret) k f
    exact⟨_,_,s,.inr ⟨rfl,.ret,(hIx _).putObj _ h O d rfl,j,i⟩⟩
   |exit id=>
    obtain⟨f,h⟩:=u
    obtain⟨s,d,j,i⟩:=r (some (.exit id)) k f
    exact⟨_,_,s,.inr ⟨rfl,.exit id,(hIx _).putObj _ h O d rfl,j,i⟩⟩
   |goto t=>
    obtain⟨f,h⟩:=u
    obtain⟨s,d,j,i⟩:=r (some (.goto t)) k f
    exact⟨_,_,s,.inr ⟨rfl,.goto t,(hIx _).putObj _ h O d rfl,j,i⟩⟩
   |panic ch=>exact u.elim
   |outgrown=>exact u.elim
  ·rintro e W2 ⟨⟨v,rfl⟩,(⟨xs,hS,z,hl,E⟩|⟨pre,R,c,z,hl,E⟩)⟩
   ·exact⟨none,_,IQ,hdone _ xs _ (Oq _) hS (hI.putObj _ z O hl rfl) ((PI O).trans E)⟩
   ·exact⟨some c,_,IQ,hstop _ c pre _ (Oq _) R ((hIx c).putObj _ z O hl rfl) ((PI O).trans E)⟩
end
end Go.Proofs.YtnofkliaofgiaaaGreatDoor
