/-
  The last drawn region of the store's Place: what left and what is fresh is joined, turned, and told to the log. Printed by gen_ptell.py. The store's Place where it places. Printed by gen_placeok.py.
-/
import Derived.Test.YtnofkliaofgiaaaGreatDoorGF
import Derived.Test.YtnofkliaofgiaaaGreatDoorGR
import Derived.Test.YtnofkliaofgiaaaGreatDoorGS
import Derived.Test.YtnofkliaofgiaaaGreatDoorGX
import Derived.Test.YtnofkliaofgiaaaGreatDoorGD
import Derived.Deep.QuietTactic
import Derived.Deep.RegionLaw
import Derived.Deep.DrawnRows
import Derived.Deep.DeepCutAuto
import Derived.Deep.CutBlock
set_option maxRecDepth 100000
set_option maxHeartbeats 8000000
open Go.Proofs.Tryz
open Exists renaming intro→OA
open Go renaming Value→Oe,World→Oc
open Go.Ending renaming returned→RR
open Go.IntKind renaming i64→Ov
open Go.IntWalk renaming i64_in→Og
open Go.Proofs renaming enters_of→O9
open Go.RowKit renaming Below→Od
open Go.RowKit.Below renaming refl→Ok,size→Rg
open Go.Value renaming pointer→RQ,slice→RO,string→RP
open Go.World renaming block_lt_of_cell?→OH,cell?_alloc_lt→Ox,cell?_alloc_past→Pw,frozen?_alloc_past→Pn,size_alloc→O3
open List renaming filter_sublist→PA,getElem_mem→Oj,getElem_set_self→Ph,length_append→Oo,length_map→Ow,length_set→Pd,mem_append→OO,mem_filter→OZ,mem_map_of_mem→OV,take_of_length_le→Ou,take_succ_eq_append_getElem→Oh
open Nat renaming le_refl→Oq,le_trans→Ol,lt_of_lt_of_le→OJ,zero_le→OE
open _root_ renaming List→Ob,Option→OC
namespace Go.Proofs.YtnofkliaofgiaaaGreatDoor
open Go.Shelf Go.RowKit
attribute [local go_sem ↓] Go.wp_at_zero Go.wp_at_succ
theorem tQ (wg:Oc)(g D:Nat)(q:zW)(x5 x6:Acc)(mod id:Int)(ne n3 nl nf cl cf:Nat)(Al Af:Addr)(xs:Ob Oe)(es:Ob E4)(u2 u3 u4 u5 u6 u7 u8 u9 u10 u14 u15 u16 u17 u18 u19 u20 u21 u22 u23 u24 u25 u26 u27 u28 u29 u30 u31 u32 u33 u34 u35 u36 u37 u38 u39 u40 u41 u42 u43 u44 u45 u46 u47 u48 u49 u50 u51 u52 u53 u54 u55 u56 u57 u58 u59 u60 u61 u62 u63 u64 u65 u66 u67 u68 u69 u70 u71 u72 u73 u74 u75 u76 u77 u78 u79 u80 u81 u82 u83 u84 u85 u86 u87 u88 u89 u90 u91 u92 u93 u94 u95 u96 u97 u98 u99 u100 u101 u102 u103 u104 u105 u106 u107 u108 u109 u110 u111 u112 u113 u114 u115 u116 u117 u118 u119 u120 u121 u122 u123 u124 u125 u126 u127 u128 u129:Oe)(K:Act→Oc→Prop)(R:Ending→Oc→Prop)(fn:Func)(hst:zH wg g q x5)(hes:es.length=ne)(hne:ne≤4294967296)(hlog:1≤x6.log.most∧x6.log.most≤1099511627776∧x6.log.es.length≤1099511627776)(hD:wg.cell? (Y D 0)=some (RO (some Al) nl cl))(hcc:∀W B,Od wg wg W→NG W B 35 #[RO (some Al) nl cl,RO (some Af) nf cf]→C 101 #[RO (some (Y B 0)) 2 2] W fun e w'=>∃v h,e=RR v∧Sl w' 3 1 v h n3 xs∧(∀b,h=some b→W.heap.size≤b)∧Od W W w')(htu:∀W v h,Od wg wg W→Sl W 3 1 v h n3 xs→C 78 #[Y g 0,I mod,v] W fun e w'=>∃v' hh,e=RR v'∧Sl w' 159 4 v' hh ne (yR es)∧(∀b,hh=some b→W.heap.size≤b)∧zL W w' g q x6 q)(hQ:∀(v113 v114 v115 v116 v117 v118 v119 v120 v121 v122 v123 v124 v125 v126 v127 v128 v129:Oe) (wx:Oc) (q2:zW),zL wg wx g q {x6 with log:=x6.log.add (es++[⟨mod,2,id,2⟩])} q2→K ⟨#[.pointer (some (Y g 0)),I id,u2,u3,u4,u5,u6,u7,u8,u9,u10,RO (some Af) nf cf,.pointer (some (Y D 0)),I mod,u14,u15,u16,u17,u18,u19,u20,u21,u22,u23,u24,u25,u26,u27,u28,u29,u30,u31,u32,u33,u34,u35,u36,u37,u38,u39,u40,u41,u42,u43,u44,u45,u46,u47,u48,u49,u50,u51,u52,u53,u54,u55,u56,u57,u58,u59,u60,u61,u62,u63,u64,u65,u66,u67,u68,u69,u70,u71,u72,u73,u74,u75,u76,u77,u78,u79,u80,u81,u82,u83,u84,u85,u86,u87,u88,u89,u90,u91,u92,u93,u94,u95,u96,u97,u98,u99,u100,u101,u102,u103,u104,u105,u106,u107,u108,u109,u110,u111,u112,v113,v114,v115,v116,v117,v118,v119,v120,v121,v122,v123,v124,v125,v126,v127,v128,v129],[]⟩ wx) :
  Code.wp prog (bQ 29 (f36.body.getD .skip)) (Exit.then K (bodyPost prog fn R)) ⟨#[.pointer (some (Y g 0)),I id,u2,u3,u4,u5,u6,u7,u8,u9,u10,RO (some Af) nf cf,.pointer (some (Y D 0)),I mod,u14,u15,u16,u17,u18,u19,u20,u21,u22,u23,u24,u25,u26,u27,u28,u29,u30,u31,u32,u33,u34,u35,u36,u37,u38,u39,u40,u41,u42,u43,u44,u45,u46,u47,u48,u49,u50,u51,u52,u53,u54,u55,u56,u57,u58,u59,u60,u61,u62,u63,u64,u65,u66,u67,u68,u69,u70,u71,u72,u73,u74,u75,u76,u77,u78,u79,u80,u81,u82,u83,u84,u85,u86,u87,u88,u89,u90,u91,u92,u93,u94,u95,u96,u97,u98,u99,u100,u101,u102,u103,u104,u105,u106,u107,u108,u109,u110,u111,u112,u113,u114,u115,u116,u117,u118,u119,u120,u121,u122,u123,u124,u125,u126,u127,u128,u129],[]⟩ wg:=by
 obtain⟨e0,he,a8,a9,aa⟩:=info_parts Try.infoEntry
 have d:=hst.blk.lt
 have ag:=OH _ _ hD
 have y:wg.cell? (Y g 12)=some (RQ (some (Y q.gl 0))):=hst.xp
 have a7:=(Ox wg (.cells #[I mod,I 2,I id,I 2] 159) (Y g 12) d).trans y
 have a6:=(Ox wg (.cells #[RO (some Al) nl cl,RO (some Af) nf cf] 35) (Y g 12) d).trans y
 have ae:=(Ox (wg.alloc (.cells #[I mod,I 2,I id,I 2] 159)) (.cells #[RO (some Al) nl cl,RO (some Af) nf cf] 35) (Y g 12) (by rw[O3];exact Nat.lt_succ_of_lt d)).trans a7
 have ad:=(Ox (wg.alloc (.cells #[RO (some Al) nl cl,RO (some Af) nf cf] 35)) (.cells #[I mod,I 2,I id,I 2] 159) (Y g 12) (by rw[O3];exact Nat.lt_succ_of_lt d)).trans a6
 have am:=(Ox wg (.cells #[I mod,I 2,I id,I 2] 159) (Y D 0) ag).trans hD
 have X:=V hcc
 have a0:=V htu
 have j:=V hst
 have Q:=V hlog
 have C8:=V hes
 have HQ:=V hQ
 clear htu hst hlog hes hQ hcc
 unfold f36
 simp only[Option.getD_some,bQ,Nat.reduceEqDiff,if_true,if_false,reduceCtorEq]
 go_region_law (first
  |(refine yK zF zF (O9 func101 zQ rfl) uE (X.o _ _ (zj (zt wg (.cells #[RO (some Al) nl cl,RO (some Af) nf cf] 35)) (zG _)) ((NG.new wg 35 #[RO (some Al) nl cl,RO (some Af) nf cf]).heap zF)) ?_;rintro e t ⟨v7,h7,rfl,l,H,n⟩;obtain⟨A7,c7,rfl,_,_⟩:=l.form;refine⟨_,rfl,?_⟩;have c:=zj (zj (zt wg (.cells #[RO (some Al) nl cl,RO (some Af) nf cf] 35)) (zG _)) n;have A:t.cell? (Y g 12)=some (RQ (some (Y q.gl 0))):=(c.cell (p:=⟨g,12,none⟩) d).trans y;have F:g < t.heap.size:=OJ d c.size;have T:=(Ox t (.cells #[I mod,I 2,I id,I 2] 159) (Y g 12) F).trans A;have x:=V l;have i:=V c;clear l H n c)
  |(refine yK zF zF (O9 func101 zQ rfl) uE (X.o _ _ (zj (zj (zt wg (.cells #[I mod,I 2,I id,I 2] 159)) (zt _ (.cells #[RO (some Al) nl cl,RO (some Af) nf cf] 35))) (zG _)) ((NG.new (wg.alloc (.cells #[I mod,I 2,I id,I 2] 159)) 35 #[RO (some Al) nl cl,RO (some Af) nf cf]).heap zF)) ?_;rintro e t ⟨v7,h7,rfl,l,H,n⟩;obtain⟨A7,c7,rfl,_,_⟩:=l.form;refine⟨_,rfl,?_⟩;have c:=zj (zj (zj (zt wg (.cells #[I mod,I 2,I id,I 2] 159)) (zt _ (.cells #[RO (some Al) nl cl,RO (some Af) nf cf] 35))) (zG _)) n;have A:t.cell? (Y g 12)=some (RQ (some (Y q.gl 0))):=(c.cell (p:=⟨g,12,none⟩) d).trans y;have F:g < t.heap.size:=OJ d c.size;have T:=(Ox t (.cells #[I mod,I 2,I id,I 2] 159) (Y g 12) F).trans A;have k:=((NG.new wg 159 #[I mod,I 2,I id,I 2]).alloc (.cells #[RO (some Al) nl cl,RO (some Af) nf cf] 35)).heap (w':=((wg.alloc (.cells #[I mod,I 2,I id,I 2] 159)).alloc (.cells #[RO (some Al) nl cl,RO (some Af) nf cf] 35)).drew) zF;have a1:Z (NG t (wg.heap.size) 159 #[I mod,I 2,I id,I 2]):=V (k.below n k.lt);clear k;have a3:Z (wg.heap.size≤wg.heap.size):=V (by first|exact Oq _|simp);have x:=V l;have i:=V c;clear l H n c)
  |(refine yK zF zF (O9 func101 zQ rfl) uE (X.o _ _ (zj (zj (zt wg (.cells #[RO (some Al) nl cl,RO (some Af) nf cf] 35)) (zt _ (.cells #[I mod,I 2,I id,I 2] 159))) (zG _)) (((NG.new wg 35 #[RO (some Al) nl cl,RO (some Af) nf cf]).alloc (.cells #[I mod,I 2,I id,I 2] 159)).heap zF)) ?_;rintro e t ⟨v7,h7,rfl,l,H,n⟩;obtain⟨A7,c7,rfl,_,_⟩:=l.form;refine⟨_,rfl,?_⟩;have c:=zj (zj (zj (zt wg (.cells #[RO (some Al) nl cl,RO (some Af) nf cf] 35)) (zt _ (.cells #[I mod,I 2,I id,I 2] 159))) (zG _)) n;have A:t.cell? (Y g 12)=some (RQ (some (Y q.gl 0))):=(c.cell (p:=⟨g,12,none⟩) d).trans y;have F:g < t.heap.size:=OJ d c.size;have T:=(Ox t (.cells #[I mod,I 2,I id,I 2] 159) (Y g 12) F).trans A;have k:=(NG.new (wg.alloc (.cells #[RO (some Al) nl cl,RO (some Af) nf cf] 35)) 159 #[I mod,I 2,I id,I 2]).heap (w':=((wg.alloc (.cells #[RO (some Al) nl cl,RO (some Af) nf cf] 35)).alloc (.cells #[I mod,I 2,I id,I 2] 159)).drew) zF;have a1:Z (NG t ((wg.alloc (.cells #[RO (some Al) nl cl,RO (some Af) nf cf] 35)).heap.size) 159 #[I mod,I 2,I id,I 2]):=V (k.below n k.lt);clear k;have a3:Z (wg.heap.size≤(wg.alloc (.cells #[RO (some Al) nl cl,RO (some Af) nf cf] 35)).heap.size):=V (by first|exact Oq _|simp);have x:=V l;have i:=V c;clear l H n c)
  |(refine yK zF zF (O9 func78 zQ rfl) yl (a0.o _ _ _ i.o x.o) ?_;rintro e w ⟨v8,h8,rfl,m,s,f⟩;obtain⟨A8,c8,rfl,_,_⟩:=m.form;refine⟨_,rfl,?_⟩;have z:w.cell? (Y g 12)=some (RQ (some (Y q.gl 0))):=f.at_.xp;have a:=(zL.of_below j.o i.o).trans f;have G:g < w.heap.size:=OJ d a.N4.size;have S:=(Ox w (.cells #[I mod,I 2,I id,I 2] 159) (Y g 12) G).trans z;have a2:=V (a1.o.N4 f.N4 (fun hm=>by have h1:=j.o.lt _ hm;have h2:=a3.o;omega));have M:=V m;have L:Z (∀b,h8=some b→wg.heap.size≤b):=V (fun b hb=>Ol (Rg i.o) (s b hb));have N:=V a;clear m s f a)
  |(refine yK zF zF (O9 func78 zQ rfl) yl (a0.o _ _ _ i.o x.o) ?_;rintro e w ⟨v8,h8,rfl,m,s,f⟩;obtain⟨A8,c8,rfl,_,_⟩:=m.form;refine⟨_,rfl,?_⟩;have z:w.cell? (Y g 12)=some (RQ (some (Y q.gl 0))):=f.at_.xp;have a:=(zL.of_below j.o i.o).trans f;have G:g < w.heap.size:=OJ d a.N4.size;have S:=(Ox w (.cells #[I mod,I 2,I id,I 2] 159) (Y g 12) G).trans z;have M:=V m;have L:Z (∀b,h8=some b→wg.heap.size≤b):=V (fun b hb=>Ol (Rg i.o) (s b hb));have N:=V a;clear m s f a)
  |(refine yK zF zF (O9 func78 zQ rfl) yl (a0.o _ _ _ (zj i.o (zt t (.cells #[I mod,I 2,I id,I 2] 159))) (x.o.alloc _)) ?_;rintro e w ⟨v8,h8,rfl,m,s,f⟩;obtain⟨A8,c8,rfl,_,_⟩:=m.form;refine⟨_,rfl,?_⟩;have z:w.cell? (Y g 12)=some (RQ (some (Y q.gl 0))):=f.at_.xp;have a:=(zL.of_below j.o (zj i.o (zt t (.cells #[I mod,I 2,I id,I 2] 159)))).trans f;have G:g < w.heap.size:=OJ d a.N4.size;have S:=(Ox w (.cells #[I mod,I 2,I id,I 2] 159) (Y g 12) G).trans z;have a2:=V ((NG.new t 159 #[I mod,I 2,I id,I 2]).N4 f.N4 (fun hm=>by have h1:=j.o.lt _ hm;have h2:=i.o.size;omega));have M:=V m;have L:Z (∀b,h8=some b→wg.heap.size≤b):=V (fun b hb=>Ol (Rg (zj i.o (zt t (.cells #[I mod,I 2,I id,I 2] 159)))) (s b hb));have N:=V a;clear m s f a)
  |(refine ye _ zF (.tmp 123) (.tmp 127) _ zF underlying156 he a8 a9 aa rfl O (M.o.alloc _) yl w.heap.size #[I mod,I 2,I id,I 2] (e':=159) (fr:=(0,0)) (heap_alloc_new w _) 1 1 yl zF xt yV O ?_;intro v2 h2 w9 oh E J;obtain⟨ab,ac,rfl,_,_⟩:=oh.form;obtain⟨u,r⟩:=fF (e:=(es++[⟨mod,2,id,2⟩])) j.o N.o L.o (zt w _) Xr E J Xs O Q.o;have al:w9.cell? (Y g 12)=some (RQ (some (Y q.gl 0))):=u.at_.xp;have a5:=V u;have P:=V r;clear oh E J u r)
  |(refine ye _ zF (.tmp 123) (.tmp 127) _ zF underlying156 he a8 a9 aa rfl O M.o yl _ #[I mod,I 2,I id,I 2] (e':=159) (fr:=(0,0)) a2.o 1 1 yl zF xt yV O ?_;intro v2 h2 w9 oh E J;obtain⟨ab,ac,rfl,_,_⟩:=oh.form;obtain⟨u,r⟩:=fF (e:=(es++[⟨mod,2,id,2⟩])) j.o N.o L.o (Ok _ w) Xr E J Xs O Q.o;have al:w9.cell? (Y g 12)=some (RQ (some (Y q.gl 0))):=u.at_.xp;have a5:=V u;have P:=V r;clear oh E J u r)
  |(refine yK zF zF (O9 func77 zQ rfl) yl P.o ?_;rintro e ao ⟨rfl,an,U⟩;refine⟨_,rfl,?_⟩;have a4:=V U;clear U)
  |fail)
 all_goals exact HQ.o _ _ _ _ _ _ _ _ _ _ _ _ _ _ _ _ _ _ _ (a5.o.trans a4.o)
theorem eW {bs:Ob Int}(h:bs≠[]):rise bs≠[]:=by
 obtain⟨i,b⟩:∃i,i∈bs:=by
  cases bs with
  |nil=>exact absurd rfl h
  |cons i r=>exact⟨i,zv⟩
 intro e
 have a:=(uU bs i).2 b
 rw[e] at a
 cases a
def nH (x:Acc)(id:Int)(i:Nat)(p:zR)(fr lf:Ob Int):Acc:=
 {x with zA:=x.zA+1,zg:=zI (x.zA+1) (rise (lf++fr)) (zM fr x.zg).1,zC:=x.zC.set i {p with zr:=Z9 ((p.zr.filter fun p=>!decide (p.1∈lf))++(zM fr x.zg).2),mod:=x.zA+1},log:=x.log.add (zX (x.zA+1) (rise (lf++fr))++[⟨x.zA+1,2,id,2⟩])}
theorem Lh (w:Oc)(g:Nat)(q:zW)(x:Acc)(id:Int)(bs:Ob Int)(vb:Oe)(Sb:Ob Nat)(h:zH w g q x)(hf:Fit x)(hr:NN w Sb 1 vb bs.length (bs.map yJ))(hbl:bs.length≤1099511627776)(hne:bs≠[])(i:Nat)(hi:i < q.ms.length)(hpl:yU (fun m:xd=>decide (m.p.id=id)) q.ms=(i:Int))(hw:((rise bs).any fun id=>!zZ x.zg id)=false)(m0:xd)(hm0:q.ms[i]=m0)(fr lf:Ob Int)(hfr:((rise bs).filter fun b=>!decide (b∈x9 m0.p.zr))=fr)(hlf:((x9 m0.p.zr).filter fun b=>!decide (b∈rise bs))=lf)(hsome:0 < fr.length+lf.length)(hen:¬x.N3.ym≤x.zA)(hsp:fr.any x.spent=false) :
  C 36 #[Y g 0,I id,vb] w fun e w'=>e=RR (I 0)∧∃q',zL w w' g q (nH x id i m0.p fr lf) q':=by
 have H:=V h
 have HF:=V hf
 have aq:=V hfr
 have ar:=V hlf
 have i9:=V hne
 have df:rise bs≠[]:=eW hne
 have fc:=V df
 have il:=V hsp
 clear df
 have ga:∀j∈fr,j∈ids x.zg:=fun j hj=>by
  exact oT
 have zq:=V ga
 have d3:fr.length≤(rise bs).length:=pM
 have d6:lf.length≤m0.p.zr.length:=pN
 obtain⟨Ab,cb,j6,_,_⟩:=hr.form
 subst j6
 obtain⟨nb,ci⟩:∃nb,bs.length=nb:=⟨_,rfl⟩
 have jz:0 < nb:=by
  rw[←ci]
  exact List.length_pos_iff.2 hne
 have j0:i < x.zC.length:=aZ
 obtain⟨b,a,fp,hv,iz,l2,kt,g3,s⟩:=h.ud i j0 hi
 rw[hm0] at s
 have ad:=h.parts _ (Oj hi)
 rw[hm0] at ad
 obtain⟨el,fs,gb,_,_⟩:=ad.keys.form
 obtain⟨ag,ba,gh,_,_⟩:=ad.mem.form
 have ch:m0.p∈x.zC:=bA
 have f2:=V ch
 have au:=V hm0
 have ih:=V ad
 have du:=V ((hf.mail m0.p ch).mem.some_)
 have ew:=V hf.zA
 have ev:=V hf.N3.mod
 have gr:=hf.lW ch
 have e5:=h.mc hf id
 rw[hpl] at e5
 have ky:¬(i:Int) < 0:=O
 have kx:(0:Int)≤(i:Int):=O
 obtain⟨n,gs⟩:∃n,x.zC.length=n:=⟨_,rfl⟩
 rw[gs] at hv
 have HV:=V hv
 have kw:(i:Int) < (n:Int):=O
 have oo:x.zg.length≤1099511627776:=vr
 have zf:(rise bs).length≤1099511627776:=Ol (xG _) hbl
 have hwa:=fun W (hb:Od w w W)=>Ye W g q x (h.later hb) oo bs _ Sb (hr.below hb) hbl
 rw[hw] at hwa
 have l4:((nb:Int)==0)=false:=zT
 have g6:∀W,Od w w W→W.cell? (Y g 11)=some (RO (some (Y b a)) n fp)∧∀j,j < 8→W.cell? (Y b (a+i * 8+j))=(xV m0)[j]?:=fun W hb=>⟨gF,fun j hj=>(hb.cell g3).trans (s j hj).1⟩
 have gf:∀W,Od w w W→NN W [] 2 m0.mv m0.p.zr.length (zU yC m0.p.zr):=fun W hb=>(ad.mem.below hb).sub (fun _ _ _ hm=>by cases hm)
 rw[ci] at hwa
 rw[ci]
 obtain⟨ns,e7⟩:∃ns,(rise bs).length=ns:=⟨_,rfl⟩
 rw[e7] at hwa zf
 have fl:=V hwa
 have ex:=V g6
 have f1:=V gf
 have Bf:=V gb
 have y8:=V gh
 have i3:=V hfr
 have i4:=V hlf
 have jo:=V e7
 have Eh:=V d3
 have Ef:=V d6
 have Ei:=V hsome
 clear ga hwa g6 gf gb gh hfr hlf e7 hpl hw hr hv s ad hm0 ch h hf hne ci gs iz d3 d6 hsome
 go_enter func36,ntmps36
 go_upto_region 11 with(first
  |(go_at_call 87;refine e5.mono ?_;rintro e w1 ⟨rfl,d'⟩;have hx:=fl.o w1 d';have en:=V d';clear e5 d')
  |(go_at_call 70;refine hx.mono ?_;rintro e w2 ⟨v2,h2,rfl,e9,gv,hb2⟩;obtain⟨A2,c2,rfl,_,_⟩:=e9.form;have jq:=V e9;have ib:=V gv;have ay:=V (zj en.o hb2);clear hx e9 gv hb2)
  |fail)
 obtain⟨P,hwa⟩:∃P:Oc,P=w2.alloc (.cells #[RO A2 ns c2] 35):=⟨_,rfl⟩
 rw[←hwa]
 obtain⟨CC,hC⟩:∃CC,CC=w2.heap.size:=⟨_,rfl⟩
 rw[←hC]
 have dC:P.cell? (Y CC 0)=some (RO A2 ns c2):=gG
 have cc:Od w w P:=gH
 have hq:Sl P 3 1 (RO A2 ns c2) h2 ns ((rise bs).map yJ):=gI
 obtain⟨jj,s⟩:=ex.o P cc
 have b0:P.cell? (Y b (a+i * 8))=some (I m0.p.id):=s 0 O
 have b1:P.cell? (Y b (a+i * 8+1))=some (I m0.p.thread):=s 1 O
 have b2:P.cell? (Y b (a+i * 8+2))=some (RP ⟨m0.p.text.toArray⟩):=s 2 O
 have b3:P.cell? (Y b (a+i * 8+3))=some (I m0.p.at_):=s 3 O
 have b4:P.cell? (Y b (a+i * 8+4))=some (RO el m0.p.keys.length fs):=(s 4 O).trans aY
 have b5:P.cell? (Y b (a+i * 8+5))=some (RO ag m0.p.zr.length ba):=(s 5 O).trans V4
 have b6:P.cell? (Y b (a+i * 8+6))=some (I m0.p.mod):=s 6 O
 have b7:P.cell? (Y b (a+i * 8+7))=some (I m0.p.born):=s 7 O
 have hy:=Yf P m0.p.id m0.p.thread m0.p.at_ m0.p.mod m0.p.born ⟨m0.p.text.toArray⟩ (RO el m0.p.keys.length fs) (RO ag m0.p.zr.length ba) m0.p.zr (by
  have h1:=f1.o P cc
  rw[y8.o] at h1
  exact h1) O
 have i2:=V cc
 have rq:=V hq
 have ds:=V dC
 clear s hwa hC cc hq dC
 go_upto_region 12 with(first
  |(go_at_call 90;refine hy.mono ?_;rintro e w3 ⟨v3,h3,rfl,ea,gw,e0⟩;obtain⟨A3,c3,rfl,_,_⟩:=ea.form;have fg:=V ea;have ie:=V gw;have bn:=V e0;clear hy ea gw e0)
  |fail)
 clear b0 b1 b2 b3 b4 b5 b6 b7 jj
 obtain⟨nw,qz⟩:∃nw,m0.p.zr.length=nw:=⟨_,rfl⟩
 have og:Z ((x9 m0.p.zr).length=nw):=V gA
 obtain⟨wb,r9⟩:∃wb:Oc,wb=w3.alloc (.cells #[RO A3 m0.p.zr.length c3] 35):=⟨_,rfl⟩
 rw[←r9]
 obtain⟨D,hD⟩:∃D,D=w3.heap.size:=⟨_,rfl⟩
 rw[←hD]
 have ak:Od P P wb:=gJ
 have dD:wb.cell? (Y D 0)=some (RO A3 nw c3):=gK
 have dC:wb.cell? (Y CC 0)=some (RO A2 ns c2):=(ak.cell (p:=⟨CC,0,none⟩) (OH _ _ ds.o)).trans ds.o
 have bv:Sl wb 3 1 (RO A2 ns c2) h2 (rise bs).length ((rise bs).map yJ):=gL
 have dp:Sl wb 3 1 (RO A3 nw c3) h3 (x9 m0.p.zr).length ((x9 m0.p.zr).map yJ):=by
  rw[og.o,r9,←qz]
  exact fg.o.alloc _
 have ce:=ut wb (RO A2 ns c2) (rise bs) [] (bv.reads [] zv) Z0
 rw[jo.o] at ce
 have Cr:nw≤1099511627776:=O
 have Eg:=V (zj i2.o ak)
 have b8:=V bv
 have a8:=V dp
 have ca:=V dD
 have ap:=V dC
 clear r9 hD ak bv dp dD qz
 go_upto_region 13 with(first
  |(go_at_call 92;refine ce.mono ?_;rintro e w4 ⟨v4,h4,rfl,Ct,fz,gx⟩;have e2:=LN (w0:=wb) (w4:=w4) (v4:=v4) (h4:=h4) (l:=rise bs) (k:=x9 m0.p.zr) 93 fc.o (O9 func93 zQ rfl) (fun y W hB hr hn=>Xg y D _ _ W hB hr hn) ca.o a8.o Z1 gC Z0 fz gx;rw[i3.o] at e2;clear ce Ct gx fz)
  |(go_at_call 91;refine e2.mono ?_;rintro e w5 ⟨A5,J,c5,h5,rfl,gi,he,gz,f'⟩;have f7:=V gz;have su:=V gi;have zo:=V he;have je:=V f';clear e2 he gz f' gi)
  |fail)
 have kp:w5.cell? (Y D 0)=some (RO A3 nw c3):=(je.o.cell (p:=⟨D,0,none⟩) (OH _ _ ca.o)).trans ca.o
 have ft:w5.cell? (Y CC 0)=some (RO A2 ns c2):=(je.o.cell (p:=⟨CC,0,none⟩) (OH _ _ ap.o)).trans ap.o
 have fx:Sl w5 3 1 (RO A2 ns c2) h2 (rise bs).length ((rise bs).map yJ):=b8.o.keep (fun b2 hb2=>je.o.block b2 (b8.o.lt b2 hb2))
 have fy:Sl w5 3 1 (RO A3 nw c3) h3 (x9 m0.p.zr).length ((x9 m0.p.zr).map yJ):=a8.o.keep (fun b2 hb2=>je.o.block b2 (a8.o.lt b2 hb2))
 have bh:=ut w5 (RO A3 nw c3) (x9 m0.p.zr) [] (fy.reads [] zv) Z1
 rw[og.o] at bh
 have cr:=V ft
 have em:=V fx
 clear ft fx fy
 go_upto_region 14 with(first
  |(go_at_call 92;refine bh.mono ?_;rintro e w6 ⟨v6,h6,rfl,Cs,g0,g'⟩;have bi:=LN (w0:=w5) (w4:=w6) (v4:=v6) (h4:=h6) (l:=x9 m0.p.zr) (k:=rise bs) 95 (by simpa[x9] using du.o) (O9 func95 zQ rfl) (fun y W hB hr hn=>Xh y CC _ _ W hB hr hn) cr.o em.o Z0 gD Z1 g0 g';rw[i4.o] at bi;clear bh Cs g' g0)
  |(go_at_call 91;refine bi.mono ?_;rintro e w7 ⟨A7,z,c7,h7,rfl,gk,hg,h0,g1⟩;have f8:=V h0;have ij:=V hg;have zh:=V gk;have zn:=V g1;clear bi hg h0 g1 gk)
  |fail)
 obtain⟨w8,rz⟩:∃w8:Oc,w8=w7.alloc (.cells #[RO (some A7) z c7] 35):=⟨_,rfl⟩
 rw[←rz]
 obtain⟨D7,bb⟩:∃D7,D7=w7.heap.size:=⟨_,rfl⟩
 rw[←bb]
 have d7:w8.cell? (Y D7 0)=some (RO (some A7) z c7):=by rw[rz,bb];exact(NG.new w7 35 #[RO (some A7) z c7]).cell 0
 have a2:Od w w w8:=pO
 have hl:Sl w8 3 1 (RO (some A5) J c5) h5 J (fr.map yJ):=by
  exact o5
 have dl:Sl w8 3 1 (RO (some A7) z c7) h7 z (lf.map yJ):=by
  rw[rz]
  exact ij.o.alloc _
 have cy:NG w8 D7 35 #[RO (some A7) z c7]:=by rw[rz,bb];exact NG.new w7 35 #[RO (some A7) z c7]
 have d2:w.heap.size≤D7:=by rw[bb];exact(zj (zj Eg.o je.o) zn.o).size
 have a':=V dl
 have am:=V cy
 have cq:=V d2
 have Gh:=V a2
 have az:=V hl
 obtain⟨nt,l3,k0⟩:∃nt:Nat,(J:Int)+(z:Int)=(nt:Int)∧0 < nt:=⟨J+z,O,pL⟩
 have Gg:J≤1099511627776:=pP
 have gl:z≤1099511627776:=pQ
 have j':nt≤2199023255552:=O
 have j4:((nt:Int)==0)=false:=zT
 have M:=(H.o.later a2).vF
 have c6:w8.cell? (Y g 6)=some (I x.N3.ym):=(H.o.later a2).cells 6
 clear rz bb a2 hl dl cy d2
 have eb:∀W,Od w8 w8 W→C 72 #[RO (some A5) J c5,.func (.func 73) #[Y g 0] #[]] W fun e w'=>e=RR (.bool (fr.any x.spent))∧Od W W w':=fun W hb=>by
  have oh:Sl W 3 1 (RO (some A5) J c5) h5 fr.length (fr.map yJ):=by
   rw[←su.o]
   exact az.o.keep (fun b2 hb2=>hb.block b2 (az.o.lt b2 hb2))
  exact MF
 rw[hsp] at eb
 have fh:=V eb
 clear eb hsp
 have ce:=ew.o
 have l1:=ev.o
 go_upto_region 20 with(first
  |(go_at_call 71;refine(vQ g x.zA x.N3.ym _ ((yD (w:=w8) zF _).trans M) ((yD (w:=w8) zF _).trans c6)).mono ?_;rintro e w9 ⟨rfl,ne,rfl⟩)
  |(go_at_call 72;refine(fh.o _ (zO (Ok _ _) _)).mono ?_;rintro e ei ⟨rfl,cx⟩;have e1:=(zj (zO (Ok w8.heap.size w8) _) cx);have an:=V e1;have c8:=V (H.o.later (zj Gh.o e1));have bw:=YA g x.zA ei c8.o.vF (c8.o.frozen 9) O;clear cx e1)
  |(go_at_call 74;refine bw.mono ?_;rintro e f ⟨rfl,b'⟩;have a7:=c8.o.vn 9 (I (x.zA+1)) {x with zA:=x.zA+1} rfl rfl rfl rfl;rw[←b'] at a7;have fm:=V ((zL.of_below H.o (zj Gh.o an.o)).trans a7);have a9:=V b';clear bw b' a7)
  |fail)
 clear d7 M c6 j4
 obtain⟨t,cm⟩:∃t:Acc,t={x with zA:=x.zA+1}:=⟨_,rfl⟩
 have a7:zL w f g q t q:=by rw[cm];exact fm.o
 have K:Z (t.zg=x.zg):=V (by rw[cm])
 have bj:fr.Nodup:=by
  rw[←aq.o]
  exact(PA (l:=rise bs)).nodup (xZ bs)
 have de:∀k (hk:k < fr.length),0≤yb (zM (fr.take k) t.zg).1 fr[k]∧yb (zM (fr.take k) t.zg).1 fr[k]≤4294967296:=fun k hk=>by
  rw[K.o]
  exact Yx HF.o.N3 HF.o.idsB HF.o.box (fr.take k) (bj.sublist (List.take_sublist _ _)) (fun i hi=>by
   have h1:=(List.any_eq_false.1 il.o) i (List.mem_of_mem_take hi)
   have h2:¬x.N3.vC < yb x.zg i:=Jt
   omega) _ (zq.o _ (Oj hk))
 have ia:=V de
 have cu:Z (∀b,h5=some b→w.heap.size≤b):=V (fun b hb=>Ol Eg.o.size (f7.o b hb))
 have f9:Z (∀b,h7=some b→w.heap.size≤b):=V (fun b hb=>Ol (zj Eg.o je.o).size (f8.o b hb))
 have gn:z≤4294967296:=by have:=zh.o;have:=Ef.o;omega
 have gj:J≤4294967296:=by
  have h1:=ui fr (ids x.zg) bj (fun j hj=>zq.o j hj)
  have h2:=HF.o.nb
  have h3:=su.o
  have h4:(ids x.zg).length=x.zg.length:=by simp[ids]
  omega
 clear de bj
 have ku:g < w.heap.size:=H.o.blk.lt
 have dg:Sl f 3 1 (RO (some A5) J c5) h5 J (fr.map yJ):=by
  rw[a9.o]
  refine(az.o.keep (w':=ei) (fun b2 hb2=>an.o.block b2 (az.o.lt b2 hb2))).far (p:=⟨g,9,none⟩) (fun e=>?_) _
  have h1:=f7.o g e
  have h2:=Eg.o.size
  omega
 have bu:Sl f 3 1 (RO (some A7) z c7) h7 z (lf.map yJ):=by
  rw[a9.o]
  refine(a'.o.keep (w':=ei) (fun b2 hb2=>an.o.block b2 (a'.o.lt b2 hb2))).far (p:=⟨g,9,none⟩) (fun e=>?_) _
  have h1:=f8.o g e
  have h2:=(zj Eg.o je.o).size
  omega
 have d1:NG f D7 35 #[RO (some A7) z c7]:=by
  rw[a9.o]
  refine(am.o.below an.o am.o.lt).far (p:=⟨g,9,none⟩) (fun e=>?_) _
  have h1:=cq.o
  have h2:D7=g:=e
  omega
 have U:=a7.at_
 have gd:f.cell? (Y g 11)=some (RO (some (Y b a)) n fp):=by rw[U.xj,HV.o]
 have N:q.ms=q.ms.set i m0:=by rw[←au.o,List.set_getElem_self]
 obtain⟨g4,a3⟩:=YW (q:=q) (m1:=m0) (by
  have h1:=U
  rw[←N]
  exact h1) HV.o hi
 have a5:f.cell? (Y b (a+i * 8+5))=some (RO ag m0.p.zr.length ba):=((a3 5 O).1).trans V4
 have a6:xB f (q.own g) m0:=by
  have h1:=U.parts q.ms[i] (Oj hi)
  rw[au.o] at h1
  exact h1
 have da:NN f [] 2 (RO ag m0.p.zr.length ba) m0.p.zr.length (zU yC m0.p.zr):=by
  rw[←y8.o]
  exact a6.mem.sub (fun _ _ _ hm=>by cases hm)
 have d0:=JT f _ _ _ da (XQ U0 _) O
 have cj:{q with ms:=q.ms.set i m0}=q:=by rw[←N]
 have ik:=V N
 have T9:=V a7
 have io:=V cm
 have cv:=V dg
 have a1:=V bu
 have ao:=V d1
 have Q:=V U
 have ii:=V a6
 have dt:=V a3
 clear cm a7 dg bu d1 U a6 da N cj a3 fm a9 an c8 Gh az a' am fh ih fl ex f1 Eh Ef b8 a8 ca ap cr em rq ds bn ie fg jq ib ay en
 go_upto_region 21 with(fail)
 obtain⟨d,bd⟩:∃d,(m0.p.zr.filter fun p=>!decide (p.1∈lf))=d:=⟨_,rfl⟩
 have E:=V bd
 clear gd bd
 have e4:z≤1099511627776:=gl
 have ha:∀(ae:Oc) (R:OC Nat),Od f f ae→(∀b,R=some b→f.heap.size≤b)→∀W,NH R.toList ae W→∀y∈m0.p.zr,C 98 (#[.agg (yC y).toArray]++#[RQ (some (Y D7 0))]) W fun e w'=>e=RR (.bool ((fun p:Int×Int=>decide (p.1∈lf)) y))∧Od W W w':=by
  intro ae R hb ho W hc y _
  have g2:Od f f W:=hb.trans (hc.below hb.size (fun k hk=>ho k yi))
  exact mU y D7 (RO (some A7) z c7) lf W ((ao.o.below g2 ao.o.lt).cell 0) (by
   have h1:=(a1.o.keep (fun b2 hb2=>g2.block b2 (a1.o.lt b2 hb2))).reads [] zv
   rw[←zh.o]
   exact h1) (by rw[←zh.o];exact e4)
 have fa:=V ha
 clear ha
 go_upto_region 22 with(first
  |(go_at_call 97;refine d0.mono ?_;rintro e ae ⟨jp,R,rfl,dj,bc,br⟩;have e3:=KB jp R m0.p.zr (fun p=>decide (p.1∈lf)) 98 #[Y D7 0] (O9 func98 zQ rfl) ae dj O (fa.o ae R bc br);rw[E.o] at e3;have ct:=V br;have al:=V bc;clear d0 dj bc br)
  |(go_at_call 96;refine e3.mono ?_;rintro e co ⟨l5,rfl,bt,be⟩;obtain⟨dr,dx,rfl,_,_⟩:=bt.form;have aa:Od f f co:=al.o.trans (be.below al.o.size (fun k hk=>ct.o k yi));have f5:co.frozen? (Y b (a+i * 8+5))=false:=(Zk aa (p:=⟨b,a+i * 8+5,none⟩) g4).trans (dt.o 5 O).2;have ip:co.cell? (Y b (a+i * 8+5))=some (RO ag m0.p.zr.length ba):=(aa.cell (p:=⟨b,a+i * 8+5,none⟩) g4).trans a5;have fd:=V bt;have ep:=V be;have eo:=V aa;clear e3 bt be aa)
  |fail)
 obtain⟨ej,c0⟩:∃ej:Oc,ej=co.setCell (Y b (a+i * 8+5)) (RO dr d.length dx):=⟨_,rfl⟩
 rw[←c0]
 have fb:Z (Qs f ej g q t i m0 d [] (RO dr d.length dx) R):=V (by
  rw[c0]
  exact Qs.start Q.o hi au.o HV.o ((NH.of_below al.o _).trans ep.o (fun k hk=>.inl hk)) ct.o fd.o eo.o)
 obtain⟨c1,ab⟩:∃c1,d.length=c1:=⟨_,rfl⟩
 rw[ab] at fb
 try rw[ab]
 have av:=V ab
 clear c0 f5 ip a5 ab fa
 have j3:c1≤4294967296:=by
  rw[←av.o,←E.o]
  exact Ol (List.length_filter_le _ _) gr
 obtain⟨i0,i',j7,j8,j9⟩:=info_parts Try.infoMember2
 go_upto_block 2 with(fail)
 go_cut [] (fun wx=>∃A9 G M h9,Z (G=(d++(zM fr t.zg).2).length)∧Z (Qs f wx g q t i m0 d fr (RO A9 G M) h9))
 case first=>
  go_wp2_with fail
  go_loopw [87] (fun iv wr=>∃(k:Nat) (A9:OC Addr) (G M:Nat) (h9:OC Nat),k≤J∧iv=I k∧Z (G=c1+k)∧Z (Qs f wr g q t i m0 d (fr.take k) (RO A9 G M) h9)) (fun iv _=>J - (intOf iv).toNat)
  case atStart=>exact⟨0,dr,c1,dx,R,OE _,rfl,V rfl,fb⟩
  case round=>
   obtain⟨k,A9,G,M,h9,hk,rfl,ac,HU⟩:=hrel
   by_cases j2:k < J
   ·have cf:k < fr.length:=by rw[←su.o];exact j2
    have ju:(k:Int) < (J:Int):=O
    have k':(0:Int)≤(k:Int):=O
    have l0:Ov.wrap ((k:Int)+1)=(k:Int)+1:=Og _ O
    have hS:=cv.o.fresh cu.o H.o HU.o.st.N4
    obtain⟨b3,hz,it,_,bz,_,_,e0,cw⟩:=hS.at_ O
    injection bz with hv1 hv2 bz
    injection hv1 with hv1
    subst hv1 bz
    clear hv2
    obtain⟨u,T⟩:∃u,fr[k]=u:=⟨_,rfl⟩
    have cs:wr.cell? (Y b3 (hz+k))=some (I u):=(cw k O).1.trans (by simp[cf,yJ,T])
    have d4:u∈ids (zM (fr.take k) t.zg).1:=by
     rw[vX,K.o,←T]
     exact zq.o _ (Oj cf)
    have e8:=ia.o k cf
    rw[T] at e8
    obtain⟨cn,bp⟩:∃cn,yb (zM (fr.take k) t.zg).1 u=cn:=⟨_,rfl⟩
    have dd:∀W,Od wr wr W→C 76 #[Y g 0,I u] W fun e w'=>e=RR (.agg #[I u,I cn])∧zL W w' g {q with ms:=q.ms.set i ⟨YX m0.p d (fr.take k) t.zg,m0.kv,RO A9 G M⟩} {U' t i m0.p d (fr.take k) with zg:=JR u (zM (fr.take k) t.zg).1} {q with ms:=q.ms.set i ⟨YX m0.p d (fr.take k) t.zg,m0.kv,RO A9 G M⟩}:=fun W hb=>by
     have h1:=cZ W g _ _ (HU.o.st.at_.later hb) (by
      show (zM (fr.take k) t.zg).1.length≤_
      rw[vh,K.o]
      exact oo) u d4 e8
     rw[←bp]
     exact h1
    have bl:(d++(zM (fr.take k) t.zg).2).length=G:=by
     obtain⟨A,c,hv,_⟩:=HU.o.mem.form
     injection hv with _ e _
     exact e.symm
    have gg:Sl wr 153 2 (RO A9 G M) h9 G (zU yC (d++(zM (fr.take k) t.zg).2)):=by
     have h1:=HU.o.mem
     rw[bl] at h1
     exact h1
    obtain⟨ks,d9⟩:=YW HU.o.st.at_ HV.o hi
    have cB:wr.cell? (Y b (a+i * 8+5))=some (RO A9 G M):=(d9 5 O).1
    have gp:G≤8589934592:=by have:=ac.o;omega
    have f4:=V dd
    have i7:=V gg
    have ez:=V bl
    have f6:=V bp
    have ey:=V T
    clear hS cw T d4 e8 bp dd bl gg d9
    go_wp2_with fail
    go_region_law (first
     |(refine yK zF zF (O9 func76 zQ rfl) X9 (f4.o _ (zG _)) ?_;rintro e cp ⟨rfl,ht⟩;refine⟨_,rfl,?_⟩;have dv:=V ((zL.of_below HU.o.st.at_ (zG _)).trans ht);have i5:=V (i7.o.N4 dv.o.N4 (fun b2 hb2 hm=>by have h1:=Q.o.lt b2 hm;have h2:=HU.o.new b2 hb2;omega));obtain⟨a2,bo⟩:=YW dv.o.at_ HV.o hi;have ir:cp.cell? (Y b (a+i * 8+5))=some (RO A9 G M):=(bo 5 O).1;have iu:cp.frozen? (Y b (a+i * 8+5))=false:=(bo 5 O).2;have g9:b∉h9.toList:=(fun hm=>by have h2:=HU.o.new b yT;omega);clear ht bo)
     |(refine ye _ zF (.tmp 95) (.tmp 99) _ zF underlying81 i' j7 j8 j9 rfl O (i5.o.alloc _) uE cp.heap.size #[I u,I cn] (e':=153) (fr:=(0,0)) (heap_alloc_new cp _) 1 1 uE zF xt yV O ?_;intro v2 h2 i1 oh cd h8;obtain⟨kj,kl,rfl,_,_⟩:=oh.form;have kq:i1.frozen? (Y b (a+i * 8+5))=false:=(cd.frozen (p:=⟨b,a+i * 8+5,none⟩) zT g9).trans ((Pn _ _ _ a2).trans iu);have kn:i1.cell? (Y b (a+i * 8+5))=some (RO A9 G M):=(cd.cell (p:=⟨b,a+i * 8+5,none⟩) zT g9).trans ((Pw _ _ _ a2).trans ir))
     |fail)
    all_goals
     have aw:=V (HU.o.next (id:=u) Q.o hi au.o HV.o (dv.o.yO (zt _ _)) (by rw[ez.o,f6.o];exact oh) cd h8)
     have bx:fr.take k++[u]=fr.take (k+1):=by rw[Oh cf,ey.o]
     rw[bx] at aw
     clear oh cd h8 bx
     go_wp2_with fail
     refine⟨?_,zV⟩
     first|exact⟨k+1,_,_,_,_,O,zE,V (by have:=ac.o;omega),aw⟩|((repeat apply OA);exact⟨⟨k+1,_,_,_,_,O,zE,V (by have:=ac.o;omega),aw⟩,rfl⟩)
   ·have j1:k=J:=O
    subst j1
    have bx:fr.take k=fr:=Ou (by rw[←su.o];exact Oq _)
    rw[bx] at HU
    clear bx
    go_wp2_with fail
    go_meet
    exact⟨A9,G,M,h9,V (by rw[Oo,ZN,av.o,ac.o,su.o]),HU⟩
 case rest=>
  obtain⟨A9,G,M,h9,ac,HU⟩:=hcut
  obtain⟨we,rfl⟩:∃we:Oc,we=wc:=⟨_,rfl⟩
  obtain⟨mems,r⟩:∃mems,d++(zM fr t.zg).2=mems:=⟨_,rfl⟩
  have e6:(mems.map (·.1)).Nodup:=by
   rw[←r,←E.o,K.o]
   exact nJ HF.o f2.o aq.o ar.o
  have cl:0 < mems.length:=by
   rw[←r,←E.o,K.o]
   exact nK i9.o aq.o ar.o
  have L:G=mems.length:=by rw[←r];exact ac.o
  have ck:=HU.o.mem
  rw[r,←L] at ck
  obtain⟨b9,o9,km,g8,j5,_,_,_,_⟩:=ck.at_ O
  injection j5 with hv1 _ bz
  subst hv1 bz
  have gp:G≤1099511627776:=by
   rw[L,←r,Oo,ZN,av.o,←su.o]
   omega
  have ee:=oD we (Y b9 o9) M h9 mems (by rw[←L];exact ck) e6 O
  rw[←L] at ee
  obtain⟨ix,d8⟩:=YW HU.o.st.at_ HV.o hi
  have cE:we.cell? (Y b (a+i * 8+5))=some (RO (some (Y b9 o9)) G M):=(d8 5 O).1
  have a0:=V r
  have i8:=V e6
  have f3:=V L
  have js:=V g8
  clear r e6 cl L ck d8 g8
  go_upto_region 28 with(first
   |(go_at_call 99;refine ee.mono ?_;rintro e ek ⟨rfl,dk,c'⟩;have ff:=V dk;have er:=V c';clear ee dk c')
   |fail)
  have eh:=HU.o.sorted (mems:=Z9 mems) Q.o hi au.o er.o (by rw[Qa i8.o,a0.o]) (by rw[a0.o,←f3.o];exact ff.o)
  obtain⟨jt,a4⟩:=YW eh.at_ HV.o hi
  have fo:ek.cell? (Y b (a+i * 8+6))=some (I m0.p.mod):=(a4 6 O).1
  have fv:=(a4 6 O).2
  have fn:=V eh
  clear eh a4 cE ix
  go_upto_region 29 with(fail)
  obtain⟨wg,ef⟩:∃wg:Oc,wg=ek.setCell (Y b (a+i * 8+6)) (I (x.zA+1)):=⟨_,rfl⟩
  rw[←ef]
  obtain⟨m2,cg⟩:∃m2:xd,m2=⟨{m0.p with zr:=Z9 mems,mod:=x.zA+1},m0.kv,RO (some (Y b9 o9)) G M⟩:=⟨_,rfl⟩
  have h':zL f wg g q {{U' t i m0.p d fr with zC:=t.zC.set i {m0.p with zr:=Z9 mems}} with zC:=(t.zC.set i {m0.p with zr:=Z9 mems}).set i m2.p} {q with ms:=q.ms.set i m2}:=by
   rw[ef]
   refine fn.o.fG (S:=[]) (m2:=m2) rfl Q.o (NH.refl [] ek) zv HV.o hi O (by rw[cg];rfl) ?_
   have hp:=fn.o.at_.parts ⟨{m0.p with zr:=Z9 mems},m0.kv,RO (some (Y b9 o9)) G M⟩ (List.mem_iff_getElem.2 ⟨i,by show i < (q.ms.set i _).length;rw[Pd];exact hi,Ph _⟩)
   rw[cg]
   exact⟨hp.keys,hp.mem,hp.tk,hp.tm⟩
  obtain⟨q3,hd⟩:∃q3:zW,q3={q with ms:=q.ms.set i m2}:=⟨_,rfl⟩
  obtain⟨F,X⟩:∃F:Acc,F={x with zA:=x.zA+1,zg:=(zM fr x.zg).1,zC:=x.zC.set i {m0.p with zr:=Z9 mems,mod:=x.zA+1}}:=⟨_,rfl⟩
  have c4:zL f wg g q F q3:=by
   rw[hd]
   have h1:F={{U' t i m0.p d fr with zC:=t.zC.set i {m0.p with zr:=Z9 mems}} with zC:=(t.zC.set i {m0.p with zr:=Z9 mems}).set i m2.p}:=by
    rw[X,List.set_set,cg]
    unfold U'
    rw[io.o]
   rw[h1]
   exact h'
  have dy:=T9.o.trans c4
  have ec:Sl wg 3 1 (RO (some A5) J c5) h5 J (fr.map yJ):=cv.o.fresh cu.o H.o c4.N4
  have ed:Sl wg 3 1 (RO (some A7) z c7) h7 z (lf.map yJ):=a1.o.fresh f9.o H.o c4.N4
  have g7:NG wg D7 35 #[RO (some A7) z c7]:=ao.o.fresh cq.o H.o c4.N4
  have hD:wg.cell? (Y D7 0)=some (RO (some A7) z c7):=g7.cell 0
  have dc:z=lf.length:=zh.o
  have db:J=fr.length:=su.o
  have jx:z≤4294967296:=gn
  have jv:J≤4294967296:=gj
  have g5:∀W B,Od wg wg W→NG W B 35 #[RO (some A7) z c7,RO (some A5) J c5]→C 101 #[RO (some (Y B 0)) 2 2] W fun e w'=>∃v h,e=RR v∧Sl w' 3 1 v h (lf++fr).length ((lf++fr).map yJ)∧(∀b,h=some b→W.heap.size≤b)∧Od W W w':=fun W B hb hB=>by
   have h1:=(ed.keep (w':=W) (fun b2 hb2=>hb.block b2 (ed.lt b2 hb2))).reads [] zv
   have h2:=(ec.keep (w':=W) (fun b2 hb2=>hb.block b2 (ec.lt b2 hb2))).reads [] zv
   rw[dc] at h1 hB
   rw[db] at h2 hB
   exact Kw A7 A5 c7 c5 lf fr W W B (Ok _ _) hB h1 h2 O O
  have bk:∀j∈lf++fr,j∈ids F.zg:=fun j hj=>by
   have h1:ids F.zg=ids x.zg:=by rw[X];exact vX _ _
   rw[h1]
   rcases OO.1 hj with h2|h2
   ·rw[←ar.o] at h2
    exact HF.o.Nz f2.o j (OZ.1 h2).1
   ·exact zq.o j h2
  have cz:F.zg.length≤1099511627776:=by
   have h1:F.zg.length=x.zg.length:=by rw[X];exact vh _ _
   rw[h1]
   exact oo
  have d5:(lf++fr).length≤1099511627776:=by rw[Oo];omega
  have hu:∀W v h,Od wg wg W→Sl W 3 1 v h (lf++fr).length ((lf++fr).map yJ)→C 78 #[Y g 0,I (x.zA+1),v] W fun e w'=>∃v' hh,e=RR v'∧Sl w' 159 4 v' hh (rise (lf++fr)).length (yR (zX (x.zA+1) (rise (lf++fr))))∧(∀b,hh=some b→W.heap.size≤b)∧zL W w' g q3 {F with zg:=zI (x.zA+1) (rise (lf++fr)) F.zg} q3:=fun W v h hb hs=>
   Y2 W g q3 F (dy.at_.later hb) cz (x.zA+1) (lf++fr) v [] (hs.reads [] zv) d5 bk
  have gc:F.log=x.log:=by rw[X]
  have bm:1≤F.log.most∧F.log.most≤1099511627776∧F.log.es.length≤1099511627776:=by
   rw[gc]
   have h1:=HF.o.log
   have h2:=HF.o.N3.log
   rw[h1.1]
   omega
  have go:(rise (lf++fr)).length≤4294967296:=by
   have h1:=ui (rise (lf++fr)) (ids F.zg) (xZ _) (fun j hj=>bk j ((uU _ _).1 hj))
   have h2:(ids F.zg).length=x.zg.length:=by rw[X];simp[ids,←vh fr x.zg]
   have h3:=HF.o.nb
   omega
  have fk:=V dy
  have im:=V hu
  have et:=V g5
  have f0:=V bm
  have kk:=V X
  have i6:=V (show nH x id i m0.p fr lf={F with zg:=zI (x.zA+1) (rise (lf++fr)) F.zg,log:=F.log.add (zX (x.zA+1) (rise (lf++fr))++[⟨x.zA+1,2,id,2⟩])} by
   rw[X,←a0.o,←E.o,K.o]
   rfl)
  clear h' c4 dy ec ed g7 g5 bk cz d5 hu gc bm X hd cg ef fo fv dc db
  go_cut [] (fun wx=>∃eg,Z (zL w wx g q (nH x id i m0.p fr lf) eg))
  case first=>
   refine tQ wg g D7 q3 F {F with zg:=zI (x.zA+1) (rise (lf++fr)) F.zg} (x.zA+1) id (rise (lf++fr)).length (lf++fr).length z J c7 c5 A7 A5 ((lf++fr).map yJ) (zX (x.zA+1) (rise (lf++fr))) _ _ _ _ _ _ _ _ _ _ _ _ _ _ _ _ _ _ _ _ _ _ _ _ _ _ _ _ _ _ _ _ _ _ _ _ _ _ _ _ _ _ _ _ _ _ _ _ _ _ _ _ _ _ _ _ _ _ _ _ _ _ _ _ _ _ _ _ _ _ _ _ _ _ _ _ _ _ _ _ _ _ _ _ _ _ _ _ _ _ _ _ _ _ _ _ _ _ _ _ _ _ _ _ _ _ _ _ _ _ _ _ _ _ _ _ _ _ _ _ _ _ _ _ _ _ _ _ fk.o.at_ (xP _ _) go f0.o hD et.o im.o ?_
   intro k1 k2 k3 k4 k5 k6 k7 k8 k9 ka kb kc kd ke kf kh ki wx jn dq
   have fi:=V (fk.o.trans dq)
   clear dq
   go_wp2_with fail
   go_meet
   exact⟨jn,V (by rw[i6.o];exact fi.o)⟩
  case rest=>
   obtain⟨eg,fj⟩:=hcut
   obtain⟨wz,rfl⟩:∃wz:Oc,wz=wc:=⟨_,rfl⟩
   go_wp2_with fail
   go_ret
   exact⟨rfl,eg,fj.o⟩
end Go.Proofs.YtnofkliaofgiaaaGreatDoor
