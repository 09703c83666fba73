/-
  The last drawn region of the store's Append: what was turned, and the email, are told to the log.
-/
import Derived.Test.YtnofkliaofgiaaaGreatDoorGF
set_option maxRecDepth 100000
set_option maxHeartbeats 8000000
open Go.Proofs.Tryz
open Go renaming Value→Oe,World→Oc
open Go.Ending renaming returned→RR
open Go.Proofs renaming enters_of→O9
open Go.RowKit renaming Below→Od
open Go.RowKit.Below renaming refl→Ok,size→Rg
open Go.Value renaming pointer→RQ,slice→RO
open Go.World renaming cell?_alloc_lt→Ox
open List renaming length_append→Oo
open Nat renaming le_trans→Ol,lt_of_lt_of_le→OJ
open _root_ renaming List→Ob,Option→OC
namespace Go.Proofs.YtnofkliaofgiaaaGreatDoor
open Go.Shelf Go.RowKit
attribute [local go_sem ↓] Go.wp_at_zero Go.wp_at_succ
theorem Ks (wg:Oc)(g B:Nat)(q:zW)(x5 x6:Acc)(mod id th how:Int)(nl:Nat)(A3:OC Addr)(p3:Nat)(es:Ob E4)(cs:Array Oe)(u1 u2 u3 u4 u5 u6 u7 u8 u9 u10 u11 u12 u13 u15 u19 u20 u21 u22 u23 u24 u25 u26 u27 u28 u29 u30 u31 u32 u33 u34 u35 u36 u37 u38 u39 u40 u41 u42 u43 u44 u45 u46 u47 u48 u49 u50 u51 u52 u53 u54 u55 u56 u57 u58 u59 u60 u61 u62 u63 u64 u65 u66 u67 u68 u69 u70 u71 u72 u73 u74 u75 u76 u77 u78 u79 u80 u81 u82 u83 u84 u85 u86 u87 u88 u89 u90 u91 u92 u93 u94 u95 u96 u97 u98 u99 u100 u101 u102 u103 u104 u105 u106 u107 u108 u109 u110 u111 u112 u113 u114 u115 u116 u117 u118 u119 u120 u121 u122 u123 u124 u125 u126 u127 u128 u129 u130 u131 u132 u133 u134 u135 u136 u137 u138 u139 u140 u141 u142 u143 u144 u145 u146 u147 u148 u149 u150 u151 u152 u153 u154 u155 u156 u157 u158 u159 u160 u161 u162 u163 u164 u165 u166:Oe)(K:Act→Oc→Prop)(R:Ending→Oc→Prop)(fn:Func)(hst:zH wg g q x5)(hB:NG wg B 83 cs)(b0:wg.cell? (Y B 0)=some (I id))(b1:wg.cell? (Y B 1)=some (I th))(hBq:B∉q.own g)(hes:es.length=nl)(hnl:nl≤4294967296)(hlog:1≤x6.log.most∧x6.log.most≤1099511627776∧x6.log.es.length≤1099511627776)(htu:∀W,Od wg wg W→C 78 #[Y g 0,I mod,RO A3 nl p3] W fun e w'=>∃v' hh,e=RR v'∧Sl w' 159 4 v' hh nl (yR es)∧(∀b,hh=some b→W.heap.size≤b)∧zL W w' g q x6 q)(hQ:∀(v145 v146 v147 v148 v149 v150 v151 v152 v153 v154 v155 v156 v157 v158 v159 v160 v161 v162 v163 v164:Oe) (wx:Oc) (q2:zW),zL wg wx g q {x6 with log:=x6.log.add (es++[⟨mod,2,id,1⟩,⟨mod,3,th,how⟩])} q2→NG wx B 83 cs→K ⟨#[Y g 0,u1,u2,u3,u4,u5,u6,u7,u8,u9,u10,u11,u12,u13,RO A3 nl p3,u15,I mod,Y B 0,I how,u19,u20,u21,u22,u23,u24,u25,u26,u27,u28,u29,u30,u31,u32,u33,u34,u35,u36,u37,u38,u39,u40,u41,u42,u43,u44,u45,u46,u47,u48,u49,u50,u51,u52,u53,u54,u55,u56,u57,u58,u59,u60,u61,u62,u63,u64,u65,u66,u67,u68,u69,u70,u71,u72,u73,u74,u75,u76,u77,u78,u79,u80,u81,u82,u83,u84,u85,u86,u87,u88,u89,u90,u91,u92,u93,u94,u95,u96,u97,u98,u99,u100,u101,u102,u103,u104,u105,u106,u107,u108,u109,u110,u111,u112,u113,u114,u115,u116,u117,u118,u119,u120,u121,u122,u123,u124,u125,u126,u127,u128,u129,u130,u131,u132,u133,u134,u135,u136,u137,u138,u139,u140,u141,u142,u143,u144,v145,v146,v147,v148,v149,v150,v151,v152,v153,v154,v155,v156,v157,v158,v159,v160,v161,v162,v163,v164,u165,u166],[]⟩ wx) :
  Code.wp prog (bQ 30 (f26.body.getD .skip)) (Exit.then K (bodyPost prog fn R)) ⟨#[Y g 0,u1,u2,u3,u4,u5,u6,u7,u8,u9,u10,u11,u12,u13,RO A3 nl p3,u15,I mod,Y B 0,I how,u19,u20,u21,u22,u23,u24,u25,u26,u27,u28,u29,u30,u31,u32,u33,u34,u35,u36,u37,u38,u39,u40,u41,u42,u43,u44,u45,u46,u47,u48,u49,u50,u51,u52,u53,u54,u55,u56,u57,u58,u59,u60,u61,u62,u63,u64,u65,u66,u67,u68,u69,u70,u71,u72,u73,u74,u75,u76,u77,u78,u79,u80,u81,u82,u83,u84,u85,u86,u87,u88,u89,u90,u91,u92,u93,u94,u95,u96,u97,u98,u99,u100,u101,u102,u103,u104,u105,u106,u107,u108,u109,u110,u111,u112,u113,u114,u115,u116,u117,u118,u119,u120,u121,u122,u123,u124,u125,u126,u127,u128,u129,u130,u131,u132,u133,u134,u135,u136,u137,u138,u139,u140,u141,u142,u143,u144,u145,u146,u147,u148,u149,u150,u151,u152,u153,u154,u155,u156,u157,u158,u159,u160,u161,u162,u163,u164,u165,u166],[]⟩ wg:=by
 obtain⟨e0,he,H,J,L⟩:=info_parts Try.infoEntry
 have a0:=hB.lt
 have E:=hst.blk.lt
 have Q:wg.cell? (Y g 12)=some (RQ (some (Y q.gl 0))):=hst.xp
 have X:=(Ox wg (.cells #[I mod,I 2,I id,I 1,I mod,I 3,I th,I how] 159) (Y g 12) E).trans Q
 have F:=V htu
 have f:=V hst
 have c:=V hB
 have r:=V hBq
 have t:=V hlog
 have C8:=V hes
 have HQ:=V hQ
 clear htu hst hB hBq hlog hes hQ
 unfold f26
 simp only[Option.getD_some,bQ,Nat.reduceEqDiff,if_true,if_false,reduceCtorEq]
 go_region_law (first
  |(refine yK zF zF (O9 func78 zQ rfl) yl (F.o _ (zG wg)) ?_;rintro e j ⟨v8,S,rfl,k,n,i⟩;obtain⟨A8,c8,rfl,_,_⟩:=k.form;refine⟨_,rfl,?_⟩;have A:j.cell? (Y g 12)=some (RQ (some (Y q.gl 0))):=i.at_.xp;have a:=(zL.of_below f.o (zG wg)).trans i;have D:g < j.heap.size:=OJ E a.N4.size;have G:=(Ox j (.cells #[I mod,I 2,I id,I 1,I mod,I 3,I th,I how] 159) (Y g 12) D).trans A;have d:=c.o.N4 a.N4 r.o;have d0:j.cell? (Y B 0)=some (I id):=(d.cell 0).trans ((c.o.cell 0).symm.trans b0);have d1:j.cell? (Y B 1)=some (I th):=(d.cell 1).trans ((c.o.cell 1).symm.trans b1);  have x:=V k;have w:Z (∀b,S=some b→wg.heap.size≤b):=V (fun b hb=>Ol (Rg (zG wg)) (n b hb));have y:=V a;clear k n i a d)
  |(refine yK zF zF (O9 func78 zQ rfl) yl (F.o _ (zj (zt wg (.cells #[I mod,I 2,I id,I 1,I mod,I 3,I th,I how] 159)) (zG _))) ?_;rintro e j ⟨v8,S,rfl,k,n,i⟩;obtain⟨A8,c8,rfl,_,_⟩:=k.form;refine⟨_,rfl,?_⟩;have A:j.cell? (Y g 12)=some (RQ (some (Y q.gl 0))):=i.at_.xp;have a:=(zL.of_below f.o (zj (zt wg (.cells #[I mod,I 2,I id,I 1,I mod,I 3,I th,I how] 159)) (zG _))).trans i;have D:g < j.heap.size:=OJ E a.N4.size;have G:=(Ox j (.cells #[I mod,I 2,I id,I 1,I mod,I 3,I th,I how] 159) (Y g 12) D).trans A;have d:=c.o.N4 a.N4 r.o;have d0:j.cell? (Y B 0)=some (I id):=(d.cell 0).trans ((c.o.cell 0).symm.trans b0);have d1:j.cell? (Y B 1)=some (I th):=(d.cell 1).trans ((c.o.cell 1).symm.trans b1);have N:Z (NG j wg.heap.size 159 #[I mod,I 2,I id,I 1,I mod,I 3,I th,I how]):=V (((NG.new wg 159 #[I mod,I 2,I id,I 1,I mod,I 3,I th,I how]).heap (w':=(wg.alloc (.cells #[I mod,I 2,I id,I 1,I mod,I 3,I th,I how] 159)).drew) rfl).N4 i.N4 (fun hm=>Nat.lt_irrefl _ (f.o.lt _ hm)));have x:=V k;have w:Z (∀b,S=some b→wg.heap.size≤b):=V (fun b hb=>Ol (Rg (zj (zt wg (.cells #[I mod,I 2,I id,I 1,I mod,I 3,I th,I how] 159)) (zG _))) (n b hb));have y:=V a;clear k n i a d)
  |(refine ye _ zF (.tmp 152) (.tmp 162) _ zF underlying156 he H J L rfl O (x.o.alloc _) yl j.heap.size #[I mod,I 2,I id,I 1,I mod,I 3,I th,I how] (e':=159) (fr:=(0,0)) (heap_alloc_new j _) 2 2 yl zF xt yV O ?_;intro v2 h2 U oh m p;obtain⟨M,P,rfl,_,_⟩:=oh.form;obtain⟨l,h⟩:=fF (e:=(es++[⟨mod,2,id,1⟩,⟨mod,3,th,how⟩])) f.o y.o w.o (zt j _) Xr m p Xs O t.o;have T:U.cell? (Y g 12)=some (RQ (some (Y q.gl 0))):=l.at_.xp;have z:=V l;have s:=V h;clear oh m p l h)
  |(refine ye _ zF (.tmp 152) (.tmp 162) _ zF underlying156 he H J L rfl O x.o yl wg.heap.size #[I mod,I 2,I id,I 1,I mod,I 3,I th,I how] (e':=159) (fr:=(0,0)) N.o 2 2 yl zF xt yV O ?_;intro v2 h2 U oh m p;obtain⟨M,P,rfl,_,_⟩:=oh.form;obtain⟨l,h⟩:=fF (e:=(es++[⟨mod,2,id,1⟩,⟨mod,3,th,how⟩])) f.o y.o w.o (Ok _ j) Xr m p Xs O t.o;have T:U.cell? (Y g 12)=some (RQ (some (Y q.gl 0))):=l.at_.xp;have z:=V l;have s:=V h;clear oh m p l h)
  |(refine yK zF zF (O9 func77 zQ rfl) yl s.o ?_;rintro e a2 ⟨rfl,a1,v⟩;refine⟨_,rfl,?_⟩;have u:=V v;clear v)
  |fail)
 all_goals exact HQ.o _ _ _ _ _ _ _ _ _ _ _ _ _ _ _ _ _ _ _ _ _ _ (z.o.trans u.o) ((c.o.N4 z.o.N4 r.o).N4 u.o.N4 r.o)
end Go.Proofs.YtnofkliaofgiaaaGreatDoor
