/-
  The last drawn region of the store's Destroy: what was turned, and the email and its thread, are told to the log. The walk of the store's Destroy: what it hands back, and the account behind it, are destroyP's.
-/
import Derived.Test.YtnofkliaofgiaaaGreatDoorGF
import Derived.Test.YtnofkliaofgiaaaGreatDoorGM
import Derived.Test.YtnofkliaofgiaaaGreatDoorGK
set_option maxRecDepth 100000
set_option maxHeartbeats 8000000
open Go.Proofs.Tryz
open Go renaming Value→Oe,World→Oc
open Go.Ending renaming returned→RR
open Go.IntKind renaming i64→Ov
open Go.IntWalk renaming i64_in→Og
open Go.Proofs renaming enters_of→O9
open Go.RowKit renaming Below→Od
open Go.RowKit.Below renaming refl→Ok,size→Rg
open Go.Value renaming pointer→RQ,slice→RO,string→RP
open Go.World renaming block_lt_of_cell?→OH,cell?_alloc_lt→Ox,frozen?_alloc_past→Pn,size_alloc→O3
open List renaming append_assoc→O4,getElem_mem→Oj,length_append→Oo,length_eraseIdx_of_lt→Pq,mem_cons→OB,mem_cons_of_mem→OP,mem_map_of_mem→OV,nil_append→PE
open Nat renaming le_trans→Ol,lt_of_lt_of_le→OJ
open Option renaming mem_toList→Pe
open _root_ renaming ByteArray→Oy,List→Ob,Option→OC,decide_eq_false→OD,if_neg→Om,if_pos→OG
namespace Go.Proofs.YtnofkliaofgiaaaGreatDoor
open Go.Shelf Go.RowKit
attribute [local go_sem ↓] Go.wp_at_zero Go.wp_at_succ
theorem AK (wg:Oc)(g B:Nat)(q:zW)(x5 x6:Acc)(mod id th how a0 a3 a6 a7:Int)(s2:Oy)(vk vm:Oe)(ne:Nat)(es:Ob E4)(is:Ob Int)(u2 u3 u4 u5 u9 u10 u11 u12 u13 u14 u15 u16 u17 u18 u19 u20 u21 u22 u23 u24 u25 u26 u27 u28 u29 u30 u31 u32 u33 u34 u35 u36 u37 u38 u39 u40 u41 u42 u43 u44 u45 u46 u47 u48 u49 u50 u51 u52 u53 u54 u55 u56 u57 u58 u59 u60 u61 u62 u63 u64 u65 u66 u67 u68 u69 u70 u71 u72 u73 u74 u75:Oe)(K:Act→Oc→Prop)(R:Ending→Oc→Prop)(fn:Func)(hst:zH wg g q x5)(hB:NG wg B 83 #[I a0,I th,.string s2,I a3,vk,vm,I a6,I a7])(hBq:B∉q.own g)(hes:es.length=ne)(hne:ne≤4294967296)(hlog:1≤x6.log.most∧x6.log.most≤1099511627776∧x6.log.es.length≤1099511627776)(hwi:∀W,Od wg wg W→C 90 #[.agg #[I a0,I th,.string s2,I a3,vk,vm,I a6,I a7]] W fun e w'=>∃A3 n3 p3 h3,e=RR (RO A3 n3 p3)∧Sl w' 3 1 (RO A3 n3 p3) h3 n3 (is.map yJ)∧n3=is.length∧Od W W w')(htu:∀W A3 n3 p3 h3,Od wg wg W→Sl W 3 1 (RO A3 n3 p3) h3 n3 (is.map yJ)→n3=is.length→C 78 #[Y g 0,I mod,RO A3 n3 p3] W fun e w'=>∃v' hh,e=RR v'∧Sl w' 159 4 v' hh ne (yR es)∧(∀b,hh=some b→W.heap.size≤b)∧zL W w' g q x6 q)(hQ:∀(v56 v57 v58 v59 v60 v61 v62 v63 v64 v65 v66 v67 v68 v69 v70 v71 v72 v73 v74 v75:Oe) (wx:Oc) (q2:zW),zL wg wx g q {x6 with log:=x6.log.add (es++[⟨mod,2,id,3⟩,⟨mod,3,th,how⟩])} q2→K ⟨#[Y g 0,I id,u2,u3,u4,u5,I mod,Y B 0,I how,u9,u10,u11,u12,u13,u14,u15,u16,u17,u18,u19,u20,u21,u22,u23,u24,u25,u26,u27,u28,u29,u30,u31,u32,u33,u34,u35,u36,u37,u38,u39,u40,u41,u42,u43,u44,u45,u46,u47,u48,u49,u50,u51,u52,u53,u54,u55,v56,v57,v58,v59,v60,v61,v62,v63,v64,v65,v66,v67,v68,v69,v70,v71,v72,v73,v74,v75],[]⟩ wx) :
  Code.wp prog (bQ 15 (f37.body.getD .skip)) (Exit.then K (bodyPost prog fn R)) ⟨#[Y g 0,I id,u2,u3,u4,u5,I mod,Y B 0,I how,u9,u10,u11,u12,u13,u14,u15,u16,u17,u18,u19,u20,u21,u22,u23,u24,u25,u26,u27,u28,u29,u30,u31,u32,u33,u34,u35,u36,u37,u38,u39,u40,u41,u42,u43,u44,u45,u46,u47,u48,u49,u50,u51,u52,u53,u54,u55,u56,u57,u58,u59,u60,u61,u62,u63,u64,u65,u66,u67,u68,u69,u70,u71,u72,u73,u74,u75],[]⟩ wg:=by
 obtain⟨e0,he,X,a1,a2⟩:=info_parts Try.infoEntry
 have r:=hst.blk.lt
 have l:=hB.lt
 have U:wg.cell? (Y g 12)=some (RQ (some (Y q.gl 0))):=hst.xp
 have ag:=(Ox wg (.cells #[I mod,I 2,I id,I 3,I mod,I 3,I th,I how] 159) (Y g 12) r).trans U
 have b0:wg.cell? (Y B 0)=some (I a0):=hB.cell 0
 have al:=(Ox wg (.cells #[I mod,I 2,I id,I 3,I mod,I 3,I th,I how] 159) (Y B 0) l).trans b0
 have b1:wg.cell? (Y B 1)=some (I th):=hB.cell 1
 have am:=(Ox wg (.cells #[I mod,I 2,I id,I 3,I mod,I 3,I th,I how] 159) (Y B 1) l).trans b1
 have b2:wg.cell? (Y B 2)=some (.string s2):=hB.cell 2
 have an:=(Ox wg (.cells #[I mod,I 2,I id,I 3,I mod,I 3,I th,I how] 159) (Y B 2) l).trans b2
 have b3:wg.cell? (Y B 3)=some (I a3):=hB.cell 3
 have ao:=(Ox wg (.cells #[I mod,I 2,I id,I 3,I mod,I 3,I th,I how] 159) (Y B 3) l).trans b3
 have b4:wg.cell? (Y B 4)=some (vk):=hB.cell 4
 have ap:=(Ox wg (.cells #[I mod,I 2,I id,I 3,I mod,I 3,I th,I how] 159) (Y B 4) l).trans b4
 have b5:wg.cell? (Y B 5)=some (vm):=hB.cell 5
 have aq:=(Ox wg (.cells #[I mod,I 2,I id,I 3,I mod,I 3,I th,I how] 159) (Y B 5) l).trans b5
 have b6:wg.cell? (Y B 6)=some (I a6):=hB.cell 6
 have ar:=(Ox wg (.cells #[I mod,I 2,I id,I 3,I mod,I 3,I th,I how] 159) (Y B 6) l).trans b6
 have b7:wg.cell? (Y B 7)=some (I a7):=hB.cell 7
 have au:=(Ox wg (.cells #[I mod,I 2,I id,I 3,I mod,I 3,I th,I how] 159) (Y B 7) l).trans b7
 have T:=V htu
 have aa:=V hwi
 have d:=V hst
 have N:=V hB
 have P:=V hBq
 have x:=V hlog
 have C8:=V hes
 have HQ:=V hQ
 clear htu hwi hst hB hBq hlog hes hQ
 unfold f37
 simp only[Option.getD_some,bQ,Nat.reduceEqDiff,if_true,if_false,reduceCtorEq]
 go_region_law (first
  |(refine yK zF zF (O9 func90 zQ rfl) yl (aa.o _ (zG wg)) ?_;rintro e u ⟨A3,n3,p3,h3,rfl,G,F,v⟩;refine⟨_,rfl,?_⟩;have k:=zj (zG wg) v;have a4:g < u.heap.size:=OJ r k.size;have a5:=(k.cell (p:=⟨g,12,none⟩) r).trans U;have ad:=(Ox u (.cells #[I mod,I 2,I id,I 3,I mod,I 3,I th,I how] 159) (Y g 12) a4).trans a5;have m1:u.cell? (Y B 1)=some (I th):=(k.cell (p:=⟨B,1,none⟩) l).trans b1;  have h:=V k;have J:=V G;have H:=V F;clear v k G F)
  |(refine yK zF zF (O9 func90 zQ rfl) yl (aa.o _ (zj (zt wg (.cells #[I mod,I 2,I id,I 3,I mod,I 3,I th,I how] 159)) (zG _))) ?_;rintro e u ⟨A3,n3,p3,h3,rfl,G,F,v⟩;refine⟨_,rfl,?_⟩;have k:=zj (zj (zt wg (.cells #[I mod,I 2,I id,I 3,I mod,I 3,I th,I how] 159)) (zG _)) v;have a4:g < u.heap.size:=OJ r k.size;have a5:=(k.cell (p:=⟨g,12,none⟩) r).trans U;have ad:=(Ox u (.cells #[I mod,I 2,I id,I 3,I mod,I 3,I th,I how] 159) (Y g 12) a4).trans a5;have m1:u.cell? (Y B 1)=some (I th):=(k.cell (p:=⟨B,1,none⟩) l).trans b1;have ae:Z (NG u wg.heap.size 159 #[I mod,I 2,I id,I 3,I mod,I 3,I th,I how]):=V (((NG.new wg 159 #[I mod,I 2,I id,I 3,I mod,I 3,I th,I how]).heap (w':=(wg.alloc (.cells #[I mod,I 2,I id,I 3,I mod,I 3,I th,I how] 159)).drew) rfl).below v (by show wg.heap.size < (wg.alloc _).heap.size;rw[O3];omega));have h:=V k;have J:=V G;have H:=V F;clear v k G F)
  |(refine yK zF zF (O9 func78 zQ rfl) yl (T.o u _ _ _ _ h.o J.o H.o) ?_;rintro e m ⟨v8,h8,rfl,i,s,c⟩;obtain⟨A8,c8,rfl,_,_⟩:=i.form;refine⟨_,rfl,?_⟩;have D:m.cell? (Y g 12)=some (RQ (some (Y q.gl 0))):=c.at_.xp;have a:=(zL.of_below d.o h.o).trans c;have E:g < m.heap.size:=OJ r a.N4.size;have L:=(Ox m (.cells #[I mod,I 2,I id,I 3,I mod,I 3,I th,I how] 159) (Y g 12) E).trans D;have d1:m.cell? (Y B 1)=some (I th):=(N.o.N4 a.N4 P.o).cell 1;have Q:Z (NG m wg.heap.size 159 #[I mod,I 2,I id,I 3,I mod,I 3,I th,I how]):=V (ae.o.N4 c.N4 (fun hm=>Nat.lt_irrefl _ (d.o.lt _ hm)));have z:=V i;have y:Z (∀b,h8=some b→wg.heap.size≤b):=V (fun b hb=>Ol (Rg h.o) (s b hb));have A:=V a;clear i s c a)
  |(refine yK zF zF (O9 func78 zQ rfl) yl (T.o u _ _ _ _ h.o J.o H.o) ?_;rintro e m ⟨v8,h8,rfl,i,s,c⟩;obtain⟨A8,c8,rfl,_,_⟩:=i.form;refine⟨_,rfl,?_⟩;have D:m.cell? (Y g 12)=some (RQ (some (Y q.gl 0))):=c.at_.xp;have a:=(zL.of_below d.o h.o).trans c;have E:g < m.heap.size:=OJ r a.N4.size;have L:=(Ox m (.cells #[I mod,I 2,I id,I 3,I mod,I 3,I th,I how] 159) (Y g 12) E).trans D;have d1:m.cell? (Y B 1)=some (I th):=(N.o.N4 a.N4 P.o).cell 1;  have z:=V i;have y:Z (∀b,h8=some b→wg.heap.size≤b):=V (fun b hb=>Ol (Rg h.o) (s b hb));have A:=V a;clear i s c a)
  |(refine yK zF zF (O9 func78 zQ rfl) yl (T.o (u.alloc (.cells #[I mod,I 2,I id,I 3,I mod,I 3,I th,I how] 159)) _ _ _ _ (zj h.o (zt u _)) (J.o.alloc _) H.o) ?_;rintro e m ⟨v8,h8,rfl,i,s,c⟩;obtain⟨A8,c8,rfl,_,_⟩:=i.form;refine⟨_,rfl,?_⟩;have D:m.cell? (Y g 12)=some (RQ (some (Y q.gl 0))):=c.at_.xp;have a:=(zL.of_below d.o (zj h.o (zt u _))).trans c;have E:g < m.heap.size:=OJ r a.N4.size;have L:=(Ox m (.cells #[I mod,I 2,I id,I 3,I mod,I 3,I th,I how] 159) (Y g 12) E).trans D;have d1:m.cell? (Y B 1)=some (I th):=(N.o.N4 a.N4 P.o).cell 1;have Q:Z (NG m u.heap.size 159 #[I mod,I 2,I id,I 3,I mod,I 3,I th,I how]):=V ((NG.new u 159 #[I mod,I 2,I id,I 3,I mod,I 3,I th,I how]).N4 c.N4 (fun hm=>by have h1:=d.o.lt _ hm;have h2:=h.o.size;omega));have z:=V i;have y:Z (∀b,h8=some b→wg.heap.size≤b):=V (fun b hb=>Ol (Rg (zj h.o (zt u _))) (s b hb));have A:=V a;clear i s c a)
  |(refine ye _ zF (.tmp 64) (.tmp 73) _ zF underlying156 he X a1 a2 rfl O (z.o.alloc _) yl m.heap.size #[I mod,I 2,I id,I 3,I mod,I 3,I th,I how] (e':=159) (fr:=(0,0)) (heap_alloc_new m _) 2 2 yl zF xt yV O ?_;intro v2 h2 w9 oh n t;obtain⟨a8,ab,rfl,_,_⟩:=oh.form;obtain⟨j,f⟩:=fF (e:=(es++[⟨mod,2,id,3⟩,⟨mod,3,th,how⟩])) d.o A.o y.o (zt m _) Xr n t Xs O x.o;have ac:w9.cell? (Y g 12)=some (RQ (some (Y q.gl 0))):=j.at_.xp;have S:=V j;have w:=V f;clear oh n t j f)
  |(refine ye _ zF (.tmp 64) (.tmp 73) _ zF underlying156 he X a1 a2 rfl O z.o yl wg.heap.size #[I mod,I 2,I id,I 3,I mod,I 3,I th,I how] (e':=159) (fr:=(0,0)) Q.o 2 2 yl zF xt yV O ?_;intro v2 h2 w9 oh n t;obtain⟨a8,ab,rfl,_,_⟩:=oh.form;obtain⟨j,f⟩:=fF (e:=(es++[⟨mod,2,id,3⟩,⟨mod,3,th,how⟩])) d.o A.o y.o (Ok _ m) Xr n t Xs O x.o;have ac:w9.cell? (Y g 12)=some (RQ (some (Y q.gl 0))):=j.at_.xp;have S:=V j;have w:=V f;clear oh n t j f)
  |(refine ye _ zF (.tmp 64) (.tmp 73) _ zF underlying156 he X a1 a2 rfl O z.o yl u.heap.size #[I mod,I 2,I id,I 3,I mod,I 3,I th,I how] (e':=159) (fr:=(0,0)) Q.o 2 2 yl zF xt yV O ?_;intro v2 h2 w9 oh n t;obtain⟨a8,ab,rfl,_,_⟩:=oh.form;obtain⟨j,f⟩:=fF (e:=(es++[⟨mod,2,id,3⟩,⟨mod,3,th,how⟩])) d.o A.o y.o (Ok _ m) Xr n t Xs O x.o;have ac:w9.cell? (Y g 12)=some (RQ (some (Y q.gl 0))):=j.at_.xp;have S:=V j;have w:=V f;clear oh n t j f)
  |(refine yK zF zF (O9 func77 zQ rfl) yl w.o ?_;rintro e aw ⟨rfl,av,M⟩;refine⟨_,rfl,?_⟩;have a9:=V M;clear M)
  |fail)
 all_goals exact HQ.o _ _ _ _ _ _ _ _ _ _ _ _ _ _ _ _ _ _ _ _ _ _ (S.o.trans a9.o)
theorem Za {α:Type}{enc:α→Ob Oe}{k:Nat}(he:∀x,(enc x).length=k):∀(l:Ob α) (i:Nat),zU enc (l.eraseIdx i)=(zU enc l).take (i * k)++(zU enc l).drop ((i+1) * k)
 |[],i=>X7
 |a :: r,0=>by
  show zU enc r=((enc a++zU enc r).take (0 * k))++((enc a++zU enc r).drop ((0+1) * k))
  rw[Nat.zero_mul,List.take_zero,PE,Nat.zero_add,Nat.one_mul,←he a,List.drop_left]
 |a :: r,i+1=>by
  show enc a++zU enc (r.eraseIdx i)=((enc a++zU enc r).take ((i+1) * k))++((enc a++zU enc r).drop ((i+1+1) * k))
  have e1:(i+1) * k=k+i * k:=by rw[Nat.add_mul,Nat.one_mul,Nat.add_comm]
  have c:(i+1+1) * k=k+(i+1) * k:=by rw[Nat.add_mul (i+1),Nat.one_mul,Nat.add_comm]
  have d:(enc a++zU enc r).take ((i+1) * k)=enc a++(zU enc r).take (i * k):=by rw[e1,←he a,List.take_length_add_append]
  have e:(enc a++zU enc r).drop ((i+1+1) * k)=(zU enc r).drop ((i+1) * k):=by
   have b:=List.drop_length_add_append (l₁:=enc a) (l₂:=zU enc r) ((i+1) * k)
   rw[he a] at b
   rw[c]
   exact b
  rw[Za he r i,d,e,O4]
theorem Ux {α β:Type}(f:α→β):∀(l:Ob α) (i:Nat),(l.eraseIdx i).map f=(l.map f).eraseIdx i
 |[],_=>rfl
 |_ :: _,0=>rfl
 |a :: r,i+1=>by
  show f a :: (r.eraseIdx i).map f=f a :: (r.map f).eraseIdx i
  rw[Ux f r i]
section
variable {w w':Oc} {g:Nat} {q:zW} {x:Acc}
theorem zH.cutMail (h:zH w g q x){v':Oe}(i:Nat)(hi:i < x.zC.length)(hs:Sl w' 83 8 v' q.hm (x.zC.length - 1) ((zU xV q.ms).take (i * 8)++(zU xV q.ms).drop ((i+1) * 8)))(hc:NH q.hm.toList w w') :
  zL w (w'.setCell (Y g 11) v') g q {x with zC:=x.zC.eraseIdx i} {q with vm:=v',ms:=q.ms.eraseIdx i}:=by
 have ha:=h.apart
 have f:g < w.heap.size:=h.blk.lt
 have c:NH (q.own g) w (w'.setCell (Y g 11) v'):=(hc.mono fun k hk=>.inl (zW.Z5 yi)).set (p:=⟨g,11,none⟩) (.inl zW.ZP) v'
 have b:∀k∈({q with vm:=v',ms:=q.ms.eraseIdx i}:zW).own g,k∈q.own g∨w.heap.size≤k:=fun k hk=>.inl hk
 have hc2:NH (g :: q.hm.toList) w (w'.setCell (Y g 11) v'):=(hc.mono fun k hk=>.inl (OP _ hk)).set (.inl zv) v'
 refine⟨⟨?_,?_,?_,?_,?_,fun a ha2=>(h.parts a (List.mem_of_mem_eraseIdx ha2)).step c b⟩,c,b⟩
 ·have e:=(h.blk.N4 hc (by simpa using ha.hm)).set 11 v'
  exact e
 ·exact M5
 ·exact FI
 ·show (q.ms.eraseIdx i).map (·.p)=x.zC.eraseIdx i
  rw[←h.same,Ux]
 ·have d:=hs.far (p:=⟨g,11,none⟩) ha.hm v'
  show Sl _ _ 8 v' q.hm (x.zC.eraseIdx i).length (zU xV (q.ms.eraseIdx i))
  rw[Pq hi,Za xr]
  exact d
theorem zH.cutBox (h:zH w g q x){v':Oe}(i:Nat)(hi:i < x.zg.length)(hs:Sl w' 73 6 v' q.hb (x.zg.length - 1) ((zU uZ x.zg).take (i * 6)++(zU uZ x.zg).drop ((i+1) * 6)))(hc:NH q.hb.toList w w') :
  zL w (w'.setCell (Y g 10) v') g q {x with zg:=x.zg.eraseIdx i} {q with vb:=v'}:=by
 have ha:=h.apart
 have f:g < w.heap.size:=h.blk.lt
 have c:NH (q.own g) w (w'.setCell (Y g 10) v'):=(hc.mono fun k hk=>.inl (zW.Yo yi)).set (p:=⟨g,10,none⟩) (.inl zW.ZP) v'
 have b:∀k∈({q with vb:=v'}:zW).own g,k∈q.own g∨w.heap.size≤k:=fun k hk=>.inl hk
 have hc2:NH (g :: q.hb.toList) w (w'.setCell (Y g 10) v'):=(hc.mono fun k hk=>.inl (OP _ hk)).set (.inl zv) v'
 refine⟨⟨?_,?_,?_,h.same,?_,fun a ha2=>(h.parts a ha2).step c b⟩,c,b⟩
 ·have e:=(h.blk.N4 hc (by simpa using ha.hb)).set 10 v'
  exact e
 ·exact M4
 ·have d:=hs.far (p:=⟨g,10,none⟩) ha.hb v'
  show Sl _ _ 6 v' q.hb (x.zg.eraseIdx i).length (zU uZ (x.zg.eraseIdx i))
  rw[Pq hi,Za xF]
  exact d
 ·exact Fk
end
theorem BC {w:Oc}{g:Nat}{q:zW}{x:Acc}(h:zH w g q x):∀u∈zU xV q.ms,u.oneCell'=true:=by
 exact My
theorem zL.Zf {w W W2:Oc}{g:Nat}{q q':zW}{x1:Acc}(h:zL w W g q x1 q')(hb:Od W W W2):zL w W2 g q x1 q':=h.trans (zL.of_below h.at_ hb)
theorem iI (th:Int)(B:Nat)(w W:Oc)(x:xd)(hB:w.cell? (Y B 1)=some (I th))(hb:Od w w W) :
  C 104 (#[.agg (xV x).toArray]++#[RQ (some (Y B 0))]) W fun e w'=>e=RR (.bool (decide (x.p.thread=th)))∧Od w w w':=by
 have a:=OH _ _ hB
 have f:=(hb.cell (p:=⟨B,1,none⟩) a).trans hB
 have b:B < W.heap.size:=OJ a hb.size
 obtain⟨⟨i,t,l,k,n,o,h,c⟩,g,j⟩:=x
 show C 104 #[.agg #[I i,I t,RP ⟨l.toArray⟩,I k,g,j,I h,I c],Y B 0] W _
 have m:(W.alloc (.cells #[I i,I t,Oa l,I k,g,j,I h,I c] 83)).cell? (Y B 1)=some (I th):=(Ox W _ _ b).trans f
 have HB:=V hb
 clear hb f hB
 by_cases hi:t=th
 ·subst hi
  simp only[decide_true]
  exact Hs
 ·have e:(t==th)=false:=vq
  have d:decide (t=th)=false:=OD hi
  simp only[d]
  clear d hi
  exact Hs
theorem AJ (w:Oc)(g:Nat)(q:zW)(x:Acc)(id:Int)(h:zH w g q x)(hf:Fit x)(hno:id∉Zb x.zC) :
  C 37 #[Y g 0,I id] w (xJ w g q (yQ x id)):=by
 have a:id∉Zb (q.ms.map (·.p)):=by rw[h.same];exact hno
 obtain⟨j,i⟩:=Uw a
 rw[h.same] at i
 have b:yQ x id=(x,6):=by
  unfold yQ
  rw[i]
 rw[b]
 have d:=h.mc hf id
 rw[j] at d
 have H:=V h
 clear hno a j i b h hf
 go_enter func37,ntmps37
 go_wp2_with (first
  |(go_at_call 87;refine d.mono ?_;rintro e k ⟨rfl,c⟩;have f:=V c;clear c)
  |fail)
 go_ret
 exact⟨rfl,q,zL.of_below H.o f.o⟩
theorem AH (w:Oc)(g:Nat)(q:zW)(x:Acc)(id:Int)(h:zH w g q x)(hf:Fit x)(i:Nat)(hi:i < q.ms.length)(hpl:yU (fun m:xd=>decide (m.p.id=id)) q.ms=(i:Int))(hfi:x.zC.find? (fun m=>decide (m.id=id))=some q.ms[i].p)(hen:x.N3.ym≤x.zA) :
  C 37 #[Y g 0,I id] w (xJ w g q (yQ x id)):=by
 have b:yQ x id=(x,11):=by
  unfold yQ
  rw[hfi]
  simp only
  rw[OG Va]
 rw[b]
 have c:=h.mc hf id
 rw[hpl] at c
 have l:¬(i:Int) < 0:=O
 have H:=V h
 clear b hpl hfi h hf
 go_enter func37,ntmps37
 go_wp2_with (first
  |(go_at_call 87;refine c.mono ?_;rintro e f ⟨rfl,a⟩;have j:f.cell? (Y g 6)=some (I x.N3.ym):=(H.o.later a).cells 6;have k:=(H.o.later a).vF;have d:=V a;clear a c)
  |(go_at_call 71;refine(vQ g x.zA x.N3.ym _ ((yD (w:=f) zF _).trans k) ((yD (w:=f) zF _).trans j)).mono ?_;rintro e r ⟨rfl,n,rfl⟩)
  |fail)
 go_ret
 exact⟨rfl,q,(zL.of_below H.o d.o).yO (zO (Ok _ _) _)⟩
theorem dest_ok (w:Oc)(g:Nat)(q:zW)(x:Acc)(id:Int)(h:zH w g q x)(hf:Fit x)(i:Nat)(hi:i < q.ms.length)(hpl:yU (fun m:xd=>decide (m.p.id=id)) q.ms=(i:Int))(hfi:x.zC.find? (fun m=>decide (m.id=id))=some q.ms[i].p)(hmo:Z4 id x.zC=(i:Int))(hen:¬x.N3.ym≤x.zA) :
  C 37 #[Y g 0,I id] w (xJ w g q (yQ x id)):=by
 have Fb:i < x.zC.length:=aZ
 obtain⟨b,t,bi,hv,d7,cp,d4,cw,bo⟩:=h.ud i Fb hi
 obtain⟨a,hm0⟩:∃a,q.ms[i]=a:=⟨_,rfl⟩
 rw[hm0] at hfi bo
 have M:=h.parts _ (Oj hi)
 rw[hm0] at M
 obtain⟨l,r,bs,_,_⟩:=M.keys.form
 obtain⟨d,f,bw,_,_⟩:=M.mem.form
 obtain⟨rr,aw⟩:∃rr,yQ x id=rr:=⟨_,rfl⟩
 rw[aw]
 have ab:rr=({x with zA:=x.zA+1,zg:=zI (x.zA+1) (rise (x9 a.p.zr)) x.zg,zC:=x.zC.eraseIdx i,zP:=x.zP - a.p.text.length,log:=x.log.add (zX (x.zA+1) (rise (x9 a.p.zr))++[⟨x.zA+1,2,id,3⟩,⟨x.zA+1,3,a.p.thread,if (x.zC.eraseIdx i).any (fun y=>decide (y.thread=a.p.thread)) then 2 else 3⟩])},0):=by
  rw[←aw]
  unfold yQ
  rw[hfi]
  simp only
  rw[Om Jz,hmo]
  rfl
 have a1:a.p∈x.zC:=bA
 have cx:=hf.lW a1
 have au:=h.mc hf id
 rw[hpl] at au
 have d6:=h.blk.lt
 obtain⟨n,av⟩:∃n,x.zC.length=n:=⟨_,rfl⟩
 rw[av] at Fb cp hv
 have d8:(i:Int) < (n:Int):=O
 have d9:(0:Int)≤(i:Int):=O
 have da:¬(i:Int) < 0:=O
 have db:Ov.wrap ((i:Int)+1)=(i:Int)+1:=Og _ (by have:=hf.nm;have:=hf.zA;have:=hf.N3.mod;omega)
 have co:n≤1099511627776:=by have:=hf.nm;have:=hf.zA;have:=hf.N3.mod;omega
 have d3:=hf.zA
 have dc:=hf.N3.mod
 have cs:(a.p.text.length:Int)≤ZR x.zC:=Q7 a1
 have cr:=hf.zP
 have bx:=hf.N3.size
 have cy:Ov.wrap (x.zP - (a.p.text.length:Int))=x.zP - (a.p.text.length:Int):=Og _ O
 have H:=V h
 have R:=V hf
 have am:=V hv
 have bc:=V hm0
 have y8:=V bw
 have Bf:=V bs
 have cf:=V M
 have ai:=V av
 have ce:=V a1
 have be:=V ab
 clear hpl hfi hmo hv bo hm0 M bs bw aw ab a1 av h hf cs cr bx
 go_enter func37,ntmps37
 go_upto_region 9 with(first
  |(go_at_call 87;refine au.mono ?_;rintro e w1 ⟨rfl,U⟩;have c6:w1.cell? (Y g 6)=some (I x.N3.ym):=(H.o.later U).cells 6;have c9:=(H.o.later U).vF;have c5:=V U;clear U au)
  |(go_at_call 71;refine(vQ g x.zA x.N3.ym _ ((yD (w:=w1) zF _).trans c9) ((yD (w:=w1) zF _).trans c6)).mono ?_;rintro e w4 ⟨rfl,ne,rfl⟩;have ao:=(zj c5.o (zO (Ok w1.heap.size w1) ne));have H5:=V (H.o.later ao);have ac:=YA g x.zA _ H5.o.vF (H5.o.frozen 9) O;have c7:=V ao;clear ao)
  |(go_at_call 74;refine ac.mono ?_;rintro e u ⟨rfl,c2⟩;have t6:=H5.o.vn 9 (I (x.zA+1)) {x with zA:=x.zA+1} rfl rfl rfl rfl;rw[←c2] at t6;have a':=t6.at_.xj;rw[am.o] at a';have T6:=V ((zL.of_below H.o c7.o).trans t6);clear ac c2 t6)
  |fail)
 clear c6 c9
 have k:=T6.o.at_
 obtain⟨b',cz,cv,c1,_,_,_,ap,c⟩:=k.ud i aX hi
 rw[am.o] at c1
 injection c1 with hv1 hvn hv3
 clear hvn
 injection hv1 with hv1
 injection hv1 with hv1 hv2
 subst hv1 hv2 hv3
 rw[bc.o] at c
 have b0:u.cell? (Y b (t+i * 8))=some (I a.p.id):=(c 0 O).1
 have b1:u.cell? (Y b (t+i * 8+1))=some (I a.p.thread):=(c 1 O).1
 have b2:u.cell? (Y b (t+i * 8+2))=some (RP ⟨a.p.text.toArray⟩):=(c 2 O).1
 have b3:u.cell? (Y b (t+i * 8+3))=some (I a.p.at_):=(c 3 O).1
 have b4:u.cell? (Y b (t+i * 8+4))=some (RO l a.p.keys.length r):=((c 4 O).1).trans aY
 have b5:u.cell? (Y b (t+i * 8+5))=some (RO d a.p.zr.length f):=((c 5 O).1).trans V4
 have b6:u.cell? (Y b (t+i * 8+6))=some (I a.p.mod):=(c 6 O).1
 have b7:u.cell? (Y b (t+i * 8+7))=some (I a.p.born):=(c 7 O).1
 have bu:Sl u 83 8 (RO (some (Y b t)) n bi) q.hm n (zU xV q.ms):=by
  have s:Sl u 83 8 q.vm q.hm x.zC.length (zU xV q.ms):=k.zC
  rw[am.o,ai.o] at s
  exact s
 have bz:NN u [] 2 (RO d a.p.zr.length f) a.p.zr.length (zU yC a.p.zr):=by
  have s:=k.parts _ (Oj hi)
  rw[bc.o] at s
  rw[←y8.o]
  exact s.mem.sub (fun _ _ _ hm=>by cases hm)
 have a8:=KA (u.alloc (.cells #[I a.p.id,I a.p.thread,Oa a.p.text,I a.p.at_,RO l a.p.keys.length r,RO d a.p.zr.length f,I a.p.mod,I a.p.born] 83)) _ q.hm n _ (bu.alloc _) (BC k) co i Fb
 have K:g < u.heap.size:=k.blk.lt
 have ad:=(Ox u (.cells #[I a.p.id,I a.p.thread,Oa a.p.text,I a.p.at_,RO l a.p.keys.length r,RO d a.p.zr.length f,I a.p.mod,I a.p.born] 83) (Y g 11) K).trans a'
 have d0:=V bz
 have br:g∉q.hm.toList:=fun hm=>k.apart.hm yT
 have D:=V k
 clear c bu bz k
 go_upto_region 11 with(first
  |(go_at_call 102;refine a8.mono ?_;rintro e w8 ⟨v8,rfl,az,a0⟩;have ct:w8.cell? (Y g 11)=some (RO (some (Y b t)) n bi):=(a0.cell (p:=⟨g,11,none⟩) (by rw[O3];simp;omega) br).trans ad;have kf:w8.frozen? (Y g 11)=false:=(a0.frozen (p:=⟨g,11,none⟩) (by rw[O3];simp;omega) br).trans ((Pn _ _ _ K).trans (D.o.frozen 11));obtain⟨A8,c8,rfl,_,_⟩:=az.form;have bh:=V az;have al:=V a0;clear a8 az a0)
  |fail)
 obtain⟨E,a4⟩:∃E:Oc,E=w8.setCell (Y g 11) (RO A8 (n - 1) c8):=⟨_,rfl⟩
 rw[←a4]
 obtain⟨B,G⟩:∃B,B=u.heap.size:=⟨_,rfl⟩
 rw[←G]
 obtain⟨A,a2⟩:∃A:zW,A={q with vm:=RO A8 (n - 1) c8,ms:=q.ms.eraseIdx i}:=⟨_,rfl⟩
 have P:=(D.o.alloc (.cells #[I a.p.id,I a.p.thread,Oa a.p.text,I a.p.at_,RO l a.p.keys.length r,RO d a.p.zr.length f,I a.p.mod,I a.p.born] 83)).cutMail (v':=RO A8 (n - 1) c8) i aX (by
  show Sl w8 _ 8 _ q.hm (x.zC.length - 1) _
  rw[ai.o]
  exact bh.o) al.o
 rw[←a4,←a2] at P
 have bm:zL w E g q {x with zA:=x.zA+1,zC:=x.zC.eraseIdx i} A:=(T6.o.yO (zt u _)).trans P
 have bj:NG E B 83 #[I a.p.id,I a.p.thread,Oa a.p.text,I a.p.at_,RO l a.p.keys.length r,RO d a.p.zr.length f,I a.p.mod,I a.p.born]:=by
  rw[a4,G]
  exact((NG.new u 83 #[I a.p.id,I a.p.thread,Oa a.p.text,I a.p.at_,RO l a.p.keys.length r,RO d a.p.zr.length f,I a.p.mod,I a.p.born]).N4 al.o (fun hm=>Nat.lt_irrefl _ (D.o.lt _ (zW.Z5 yT)))).far (p:=⟨g,11,none⟩) zT _
 have bl:B∉A.own g:=fun hm=>by
  rw[a2] at hm
  have s:=D.o.lt B hm
  omega
 have c3:Od u u u:=Ok _ _
 have S:=V bm
 have ag:=V bj
 have b9:=V bl
 have bd:=V a2
 have c':=V G
 have d1:w.heap.size≤B:=by
  rw[G]
  exact T6.o.N4.size
 clear a4 G a2 P bm bj bl c3 b0 b1 b2 b3 b4 b5 b6 b7 ct kf a' ad K ap bh al
 have ck:E.cell? (Y g 15)=some (I x.zP):=S.o.at_.QA
 have cl:E.frozen? (Y g 15)=false:=S.o.at_.frozen 15
 have d2:E.cell? (Y B 2)=some (RP ⟨a.p.text.toArray⟩):=ag.o.cell 2
 go_cut [] (fun wx=>Z (zL w wx g q {x with zA:=x.zA+1,zC:=x.zC.eraseIdx i,zP:=x.zP - a.p.text.length} A)∧Z (NG wx B 83 #[I a.p.id,I a.p.thread,Oa a.p.text,I a.p.at_,RO l a.p.keys.length r,RO d a.p.zr.length f,I a.p.mod,I a.p.born]))
 case first=>
  have tA:∀W:Oc,W.heap=E.heap→W.os=E.os→W.tape=E.tape→W.output=E.output→zL w (W.setCell (Y g 15) (I (x.zP - a.p.text.length))) g q {x with zA:=x.zA+1,zC:=x.zC.eraseIdx i,zP:=x.zP - a.p.text.length} A∧NG (W.setCell (Y g 15) (I (x.zP - a.p.text.length))) B 83 #[I a.p.id,I a.p.thread,Oa a.p.text,I a.p.at_,RO l a.p.keys.length r,RO d a.p.zr.length f,I a.p.mod,I a.p.born]:=fun W he e1 e2 e3=>by
   have s:zL w W g q {x with zA:=x.zA+1,zC:=x.zC.eraseIdx i} A:=S.o.Zf (W2:=W) ⟨e1,e2,e3,Nat.le_of_eq (by rw[he]),fun _ _=>by rw[he]⟩
   refine⟨s.trans (s.at_.kX _),(ag.o.heap he).far (p:=⟨g,15,none⟩) (fun e=>b9.o (by rw[e];exact zW.ZP)) _⟩
  have TA:=V tA
  clear tA
  go_region_law (first
   |fail)
  all_goals
   go_wp2_with fail
   go_meet
   exact⟨V (TA.o E.drew rfl rfl rfl rfl).1,V (TA.o E.drew rfl rfl rfl rfl).2⟩
 case rest=>
  obtain⟨F,ae⟩:=hcut
  obtain⟨wb,rfl⟩:∃wb:Oc,wb=wc:=⟨_,rfl⟩
  clear ck cl d2 S ag
  have cj:wb.cell? (Y g 11)=some (RO A8 (n - 1) c8):=by
   have s:=F.o.at_.xj
   rw[bd.o] at s
   exact s
  obtain⟨J,aq⟩:∃J,(x.zC.eraseIdx i).any (fun y=>decide (y.thread=a.p.thread))=J:=⟨_,rfl⟩
  have bp:C 103 #[RO A8 (n - 1) c8,.func (.func 104) #[] #[Y B 0]] wb fun e w'=>e=RR (.bool J)∧Od wb wb w':=by
   have hl:=F.o.at_.XC
   have cn:=F.o.at_.same
   have cm:(x.zC.eraseIdx i).length=n - 1:=by
    rw[Pq (by rw[ai.o];exact Fb),ai.o]
   have s:=qM (RO A8 (n - 1) c8) [] A.ms (fun y=>decide (y.p.thread=a.p.thread)) 104 #[Y B 0] (O9 func104 zQ rfl) wb (by
    have h2:=F.o.at_.zC
    rw[show A.vm=RO A8 (n - 1) c8 by rw[bd.o]] at h2
    rw[hl]
    exact h2.reads [] zv) (by rw[hl];show (x.zC.eraseIdx i).length≤_;rw[cm];omega) (fun W hbW y _=>iI _ B wb W y (ae.o.cell 1) hbW)
   have h3:A.ms.any (fun y=>decide (y.p.thread=a.p.thread))=J:=by
    rw[←aq]
    have h4:(x.zC.eraseIdx i).any (fun y=>decide (y.thread=a.p.thread))=(A.ms.map (·.p)).any (fun y=>decide (y.thread=a.p.thread)):=by rw[cn]
    rw[h4,List.any_map]
    rfl
   rw[h3] at s
   exact s
  have cb:=V bp
  have cc:=V aq
  clear bp aq
  go_upto_if 55 with(first
   |(go_at_call 103;refine cb.o.mono ?_;rintro e cu ⟨rfl,a7⟩;have a5:=V a7;clear a7)
   |fail)
  go_cut [8] (fun v wx=>v=I (if J=true then 2 else 3)∧wx=cu)
  case first=>
   cases J
   all_goals
    go_wp2_with fail
    go_meet
    exact⟨rfl,rfl⟩
  case rest=>
   obtain⟨rfl,rfl⟩:=hcut
   obtain⟨Q,rfl⟩:∃Q:Oc,Q=wc:=⟨_,rfl⟩
   obtain⟨a3,ar⟩:∃a3:Int,(if J=true then (2:Int) else 3)=a3:=⟨_,rfl⟩
   rw[ar]
   obtain⟨z,N⟩:∃z:Acc,z={x with zA:=x.zA+1,zC:=x.zC.eraseIdx i,zP:=x.zP - a.p.text.length}:=⟨_,rfl⟩
   have T:zL w Q g q z A:=by
    rw[N]
    exact F.o.Zf a5.o
   have bk:NG Q B 83 #[I a.p.id,I a.p.thread,Oa a.p.text,I a.p.at_,RO l a.p.keys.length r,RO d a.p.zr.length f,I a.p.mod,I a.p.born]:=ae.o.below a5.o ae.o.lt
   have an:z.zg=x.zg:=by rw[N]
   have bt:z.log=x.log:=by rw[N]
   have aa:∀j∈x9 a.p.zr,j∈ids x.zg:=R.o.Nz ce.o
   have X:x.zg.length≤1099511627776:=by
    have:=R.o.nb
    omega
   have a9:(x9 a.p.zr).length=a.p.zr.length:=by simp[x9]
   have bv:NN Q [] 2 (RO d a.p.zr.length f) a.p.zr.length (zU yC a.p.zr):=by
    have s:=cf.o.mem.N4 T.N4
    rw[y8.o] at s
    exact s.sub (fun _ _ _ hm=>by cases hm)
   have c4:∀W:Oc,Od Q Q W→C 90 #[.agg #[I a.p.id,I a.p.thread,Oa a.p.text,I a.p.at_,RO l a.p.keys.length r,RO d a.p.zr.length f,I a.p.mod,I a.p.born]] W fun e w'=>∃A3 n3 p3 h3,e=RR (RO A3 n3 p3)∧Sl w' 3 1 (RO A3 n3 p3) h3 n3 ((x9 a.p.zr).map yJ)∧n3=(x9 a.p.zr).length∧Od W W w':=fun W J=>by
    refine(Yf W a.p.id a.p.thread a.p.at_ a.p.mod a.p.born ⟨a.p.text.toArray⟩ (RO l a.p.keys.length r) (RO d a.p.zr.length f) a.p.zr (bv.below J) O).mono ?_
    rintro e w' ⟨v,hh,rfl,hs,d5,X⟩
    obtain⟨A9,c9,rfl,_,_⟩:=hs.form
    exact⟨A9,_,c9,hh,rfl,hs,a9.symm,X⟩
   have c0:∀(W:Oc) (A3:OC Addr) (n3 p3:Nat) (h3:OC Nat),Od Q Q W→Sl W 3 1 (RO A3 n3 p3) h3 n3 ((x9 a.p.zr).map yJ)→n3=(x9 a.p.zr).length→C 78 #[Y g 0,I (x.zA+1),RO A3 n3 p3] W fun e w'=>∃v' hh,e=RR v'∧Sl w' 159 4 v' hh (rise (x9 a.p.zr)).length (yR (zX (x.zA+1) (rise (x9 a.p.zr))))∧(∀b,hh=some b→W.heap.size≤b)∧zL W w' g A {z with zg:=zI (x.zA+1) (rise (x9 a.p.zr)) z.zg} A:=fun W A3 n3 p3 h3 J hs hn3=>by
    subst hn3
    exact Y2 W g A z (T.at_.later J) (by rw[an];exact X) (x.zA+1) (x9 a.p.zr) _ [] (hs.reads [] zv) O (by rw[an];exact aa)
   have L:1≤z.log.most∧z.log.most≤1099511627776∧z.log.es.length≤1099511627776:=by
    rw[bt]
    have s:=R.o.log
    have h2:=R.o.N3.log
    rw[s.1]
    omega
   have cq:(rise (x9 a.p.zr)).length≤4294967296:=Ol (xG _) O
   have Ff:=V T
   have ca:=V bk
   have cg:=V c0
   have ch:=V c4
   have bb:=V L
   have ci:=V N
   have cd:=V ar
   clear T bk an bt aa X a9 bv c4 c0 L N ar cj
   go_upto_region 15 with(fail)
   go_cut [] (fun wx=>∃b8,Z (zL w wx g q {{z with zg:=zI (x.zA+1) (rise (x9 a.p.zr)) z.zg} with log:=z.log.add (zX (x.zA+1) (rise (x9 a.p.zr))++[⟨x.zA+1,2,id,3⟩,⟨x.zA+1,3,a.p.thread,a3⟩])} b8))
   case first=>
    refine AK Q g B A z {z with zg:=zI (x.zA+1) (rise (x9 a.p.zr)) z.zg} (x.zA+1) id a.p.thread a3 a.p.id a.p.at_ a.p.mod a.p.born ⟨a.p.text.toArray⟩ (RO l a.p.keys.length r) (RO d a.p.zr.length f) (rise (x9 a.p.zr)).length (zX (x.zA+1) (rise (x9 a.p.zr))) (x9 a.p.zr) _ _ _ _ _ _ _ _ _ _ _ _ _ _ _ _ _ _ _ _ _ _ _ _ _ _ _ _ _ _ _ _ _ _ _ _ _ _ _ _ _ _ _ _ _ _ _ _ _ _ _ _ _ _ _ _ _ _ _ _ _ _ _ _ _ _ _ _ _ _ _ _ _ _ Ff.o.at_ ca.o b9.o (xP _ _) cq bb.o ch.o cg.o ?_
    intro dd de df dg dj dk dl dp dq dr ds dt du dv dx dy d' e0 e4 e5 wx Fe ol
    exact Hb
   case rest=>
    obtain⟨b8,a6⟩:=hcut
    obtain⟨wz,rfl⟩:∃wz:Oc,wz=wc:=⟨_,rfl⟩
    have ba:Z (xJ w g q rr (RR (I 0)) wz):=V (by
     rw[be.o,cc.o]
     refine⟨rfl,b8,?_⟩
     have s:=a6.o
     rw[ci.o,←cd.o] at s
     exact s)
    clear a6
    go_wp2_with fail
    go_ret
    exact ba.o
theorem JW (w:Oc)(g:Nat)(q:zW)(x:Acc)(id:Int)(h:zH w g q x)(hf:Fit x) :
  C 37 #[Y g 0,I id] w (xJ w g q (yQ x id)):=by
 by_cases e:id∈Zb x.zC
 case neg=>exact AJ w g q x id h hf e
 have d:id∈Zb (q.ms.map (·.p)):=by rw[h.same];exact e
 obtain⟨i,j,c,b,_,_,a⟩:=YI d
 rw[h.same] at b a
 by_cases f:x.N3.ym≤x.zA
 ·exact AH w g q x id h hf i j c a f
 ·exact dest_ok w g q x id h hf i j c a b f
end Go.Proofs.YtnofkliaofgiaaaGreatDoor
