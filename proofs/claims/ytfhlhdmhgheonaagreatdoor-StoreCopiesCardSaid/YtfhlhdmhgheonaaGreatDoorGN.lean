/-
  The last drawn region of the store's Destroy: what was turned, and the email and its thread, are told to the log. The walk of the store's Destroy: what it hands back, and the account behind it, are destroyP's.
-/
import Derived.Test.YtfhlhdmhgheonaaGreatDoorGF
import Derived.Test.YtfhlhdmhgheonaaGreatDoorGM
import Derived.Test.YtfhlhdmhgheonaaGreatDoorGK
set_option maxRecDepth 100000
set_option maxHeartbeats 8000000
namespace Go.Proofs.YtfhlhdmhgheonaaGreatDoor
open Go.Shelf Go.RowKit
attribute [local go_sem ↓] Go.wp_at_zero Go.wp_at_succ
theorem zdq (wg:World)(g B:Nat)(q:zl)(x5 x6:Acc)(mod id th how a0 a3 a6 a7:Int)(s2:ByteArray)(vk vm:Value)(ne:Nat)(es:List E4)(is:List Int)(u2 u3 u4 u5 u9 u10 u11 u12 u13 u14 u15 u16 u17 u18 u19 u20 u21 u22 u23 u24 u25 u26 u27 u28 u29 u30 u31 u32 u33 u34 u35 u36 u37 u38 u39 u40 u41 u42 u43 u44 u45 u46 u47 u48 u49 u50 u51 u52 u53 u54 u55 u56 u57 u58 u59 u60 u61 u62 u63 u64 u65 u66 u67 u68 u69 u70 u71 u72 u73 u74 u75:Value)(K:Act→World→Prop)(R:Ending→World→Prop)(fn:Func)(hst:zh wg g q x5)(hB:Blk wg B 54 #[.int .i64 a0,.int .i64 th,.string s2,.int .i64 a3,vk,vm,.int .i64 a6,.int .i64 a7])(hBq:B∉q.own g)(hes:es.length=ne)(hne:ne≤4294967296)(hlog:1≤x6.log.most∧x6.log.most≤1099511627776∧x6.log.es.length≤1099511627776)(hwi:∀W,Below wg.heap.size wg W→Calls Tryz.prog 129 #[.agg #[.int .i64 a0,.int .i64 th,.string s2,.int .i64 a3,vk,vm,.int .i64 a6,.int .i64 a7]] W fun e w'=>∃A3 n3 p3 h3,e=.returned (.slice A3 n3 p3)∧Sl w' 3 1 (.slice A3 n3 p3) h3 n3 (is.map encI)∧n3=is.length∧Below W.heap.size W w')(htu:∀W A3 n3 p3 h3,Below wg.heap.size wg W→Sl W 3 1 (.slice A3 n3 p3) h3 n3 (is.map encI)→n3=is.length→Calls Tryz.prog 99 #[.pointer (some ⟨g,0,none⟩),.int .i64 mod,.slice A3 n3 p3] W fun e w'=>∃v' hh,e=.returned v'∧Sl w' 177 4 v' hh ne (zM es)∧(∀b,hh=some b→W.heap.size≤b)∧Turned W w' g q x6 q)(hQ:∀(v56 v57 v58 v59 v60 v61 v62 v63 v64 v65 v66 v67 v68 v69 v70 v71 v72 v73 v74 v75:Value) (wx:World) (q2:zl),Turned wg wx g q {x6 with log:=x6.log.add (es++[⟨mod,2,id,3⟩,⟨mod,3,th,how⟩])} q2→K ⟨#[.pointer (some ⟨g,0,none⟩),.int .i64 id,u2,u3,u4,u5,.int .i64 mod,.pointer (some ⟨B,0,none⟩),.int .i64 how,u9,u10,u11,u12,u13,u14,u15,u16,u17,u18,u19,u20,u21,u22,u23,u24,u25,u26,u27,u28,u29,u30,u31,u32,u33,u34,u35,u36,u37,u38,u39,u40,u41,u42,u43,u44,u45,u46,u47,u48,u49,u50,u51,u52,u53,u54,u55,v56,v57,v58,v59,v60,v61,v62,v63,v64,v65,v66,v67,v68,v69,v70,v71,v72,v73,v74,v75],[]⟩ wx) :
  Code.wp Tryz.prog (VY 15 (Tryz.f55.body.getD .skip)) (Exit.then K (bodyPost Tryz.prog fn R)) ⟨#[.pointer (some ⟨g,0,none⟩),.int .i64 id,u2,u3,u4,u5,.int .i64 mod,.pointer (some ⟨B,0,none⟩),.int .i64 how,u9,u10,u11,u12,u13,u14,u15,u16,u17,u18,u19,u20,u21,u22,u23,u24,u25,u26,u27,u28,u29,u30,u31,u32,u33,u34,u35,u36,u37,u38,u39,u40,u41,u42,u43,u44,u45,u46,u47,u48,u49,u50,u51,u52,u53,u54,u55,u56,u57,u58,u59,u60,u61,u62,u63,u64,u65,u66,u67,u68,u69,u70,u71,u72,u73,u74,u75],[]⟩ wg:=by
 obtain⟨e0,he,V,X,Y⟩:=info_parts Try.infoEntry
 have o:=hst.blk.lt
 have m:=hB.lt
 have L:wg.cell? ⟨g,12,none⟩=some (.pointer (some ⟨q.gl,0,none⟩)):=hst.zV
 have aa:=(World.cell?_alloc_lt wg (.cells #[.int .i64 mod,.int .i64 2,.int .i64 id,.int .i64 3,.int .i64 mod,.int .i64 3,.int .i64 th,.int .i64 how] 177) ⟨g,12,none⟩ o).trans L
 have b0:wg.cell? ⟨B,0,none⟩=some (.int .i64 a0):=hB.cell 0
 have ab:=(World.cell?_alloc_lt wg (.cells #[.int .i64 mod,.int .i64 2,.int .i64 id,.int .i64 3,.int .i64 mod,.int .i64 3,.int .i64 th,.int .i64 how] 177) ⟨B,0,none⟩ m).trans b0
 have b1:wg.cell? ⟨B,1,none⟩=some (.int .i64 th):=hB.cell 1
 have ac:=(World.cell?_alloc_lt wg (.cells #[.int .i64 mod,.int .i64 2,.int .i64 id,.int .i64 3,.int .i64 mod,.int .i64 3,.int .i64 th,.int .i64 how] 177) ⟨B,1,none⟩ m).trans b1
 have b2:wg.cell? ⟨B,2,none⟩=some (.string s2):=hB.cell 2
 have ad:=(World.cell?_alloc_lt wg (.cells #[.int .i64 mod,.int .i64 2,.int .i64 id,.int .i64 3,.int .i64 mod,.int .i64 3,.int .i64 th,.int .i64 how] 177) ⟨B,2,none⟩ m).trans b2
 have b3:wg.cell? ⟨B,3,none⟩=some (.int .i64 a3):=hB.cell 3
 have ae:=(World.cell?_alloc_lt wg (.cells #[.int .i64 mod,.int .i64 2,.int .i64 id,.int .i64 3,.int .i64 mod,.int .i64 3,.int .i64 th,.int .i64 how] 177) ⟨B,3,none⟩ m).trans b3
 have b4:wg.cell? ⟨B,4,none⟩=some (vk):=hB.cell 4
 have af:=(World.cell?_alloc_lt wg (.cells #[.int .i64 mod,.int .i64 2,.int .i64 id,.int .i64 3,.int .i64 mod,.int .i64 3,.int .i64 th,.int .i64 how] 177) ⟨B,4,none⟩ m).trans b4
 have b5:wg.cell? ⟨B,5,none⟩=some (vm):=hB.cell 5
 have ag:=(World.cell?_alloc_lt wg (.cells #[.int .i64 mod,.int .i64 2,.int .i64 id,.int .i64 3,.int .i64 mod,.int .i64 3,.int .i64 th,.int .i64 how] 177) ⟨B,5,none⟩ m).trans b5
 have b6:wg.cell? ⟨B,6,none⟩=some (.int .i64 a6):=hB.cell 6
 have ah:=(World.cell?_alloc_lt wg (.cells #[.int .i64 mod,.int .i64 2,.int .i64 id,.int .i64 3,.int .i64 mod,.int .i64 3,.int .i64 th,.int .i64 how] 177) ⟨B,6,none⟩ m).trans b6
 have b7:wg.cell? ⟨B,7,none⟩=some (.int .i64 a7):=hB.cell 7
 have ai:=(World.cell?_alloc_lt wg (.cells #[.int .i64 mod,.int .i64 2,.int .i64 id,.int .i64 3,.int .i64 mod,.int .i64 3,.int .i64 th,.int .i64 how] 177) ⟨B,7,none⟩ m).trans b7
 have M:=zdG htu
 have Z:=zdG hwi
 have d:=zdG hst
 have N:=zdG hB
 have O:=zdG hBq
 have w:=zdG hlog
 have P:=zdG hes
 have HQ:=zdG hQ
 clear htu hwi hst hB hBq hlog hes hQ
 unfold Tryz.f55
 simp only[Option.getD_some,VY,Nat.reduceEqDiff,if_true,if_false,reduceCtorEq]
 go_region_law (first
  |(refine zF (by rfl) (by rfl) (enters_of Tryz.func129 (by kernel_rfl) rfl) (by first|(simp[Act.eval];done)|simp[Act.eval,Act.put]) (Z.out _ (zb wg)) ?_;rintro e r ⟨A3,n3,p3,h3,rfl,E,F,v⟩;refine⟨_,rfl,?_⟩;have h:=za (zb wg) v;have Q:g < r.heap.size:=Nat.lt_of_lt_of_le o h.size;have S:=(h.cell (p:=⟨g,12,none⟩) o).trans L;have a1:=(World.cell?_alloc_lt r (.cells #[.int .i64 mod,.int .i64 2,.int .i64 id,.int .i64 3,.int .i64 mod,.int .i64 3,.int .i64 th,.int .i64 how] 177) ⟨g,12,none⟩ Q).trans S;have m1:r.cell? ⟨B,1,none⟩=some (.int .i64 th):=(h.cell (p:=⟨B,1,none⟩) m).trans b1;  have i:=zdG h;have G:=zdG E;have H:=zdG F;clear v h E F)
  |(refine zF (by rfl) (by rfl) (enters_of Tryz.func129 (by kernel_rfl) rfl) (by first|(simp[Act.eval];done)|simp[Act.eval,Act.put]) (Z.out _ (za (below_alloc1 wg (.cells #[.int .i64 mod,.int .i64 2,.int .i64 id,.int .i64 3,.int .i64 mod,.int .i64 3,.int .i64 th,.int .i64 how] 177)) (zb _))) ?_;rintro e r ⟨A3,n3,p3,h3,rfl,E,F,v⟩;refine⟨_,rfl,?_⟩;have h:=za (za (below_alloc1 wg (.cells #[.int .i64 mod,.int .i64 2,.int .i64 id,.int .i64 3,.int .i64 mod,.int .i64 3,.int .i64 th,.int .i64 how] 177)) (zb _)) v;have Q:g < r.heap.size:=Nat.lt_of_lt_of_le o h.size;have S:=(h.cell (p:=⟨g,12,none⟩) o).trans L;have a1:=(World.cell?_alloc_lt r (.cells #[.int .i64 mod,.int .i64 2,.int .i64 id,.int .i64 3,.int .i64 mod,.int .i64 3,.int .i64 th,.int .i64 how] 177) ⟨g,12,none⟩ Q).trans S;have m1:r.cell? ⟨B,1,none⟩=some (.int .i64 th):=(h.cell (p:=⟨B,1,none⟩) m).trans b1;have a9:Hid (Blk r wg.heap.size 177 #[.int .i64 mod,.int .i64 2,.int .i64 id,.int .i64 3,.int .i64 mod,.int .i64 3,.int .i64 th,.int .i64 how]):=zdG (((Blk.new wg 177 #[.int .i64 mod,.int .i64 2,.int .i64 id,.int .i64 3,.int .i64 mod,.int .i64 3,.int .i64 th,.int .i64 how]).heap (w':=(wg.alloc (.cells #[.int .i64 mod,.int .i64 2,.int .i64 id,.int .i64 3,.int .i64 mod,.int .i64 3,.int .i64 th,.int .i64 how] 177)).drew) rfl).below v (by show wg.heap.size < (wg.alloc _).heap.size;rw[World.size_alloc];omega));have i:=zdG h;have G:=zdG E;have H:=zdG F;clear v h E F)
  |(refine zF (by rfl) (by rfl) (enters_of Tryz.func99 (by kernel_rfl) rfl) (by first|(simp[Act.eval];done)|simp[Act.eval,Act.put]) (M.out r _ _ _ _ i.out G.out H.out) ?_;rintro e n ⟨v8,h8,rfl,j,s,c⟩;obtain⟨A8,c8,rfl,_,_⟩:=j.form;refine⟨_,rfl,?_⟩;have x:n.cell? ⟨g,12,none⟩=some (.pointer (some ⟨q.gl,0,none⟩)):=c.at_.zV;have a:=(Turned.of_below d.out i.out).trans c;have y:g < n.heap.size:=Nat.lt_of_lt_of_le o a.chg.size;have I:=(World.cell?_alloc_lt n (.cells #[.int .i64 mod,.int .i64 2,.int .i64 id,.int .i64 3,.int .i64 mod,.int .i64 3,.int .i64 th,.int .i64 how] 177) ⟨g,12,none⟩ y).trans x;have d1:n.cell? ⟨B,1,none⟩=some (.int .i64 th):=(N.out.chg a.chg O.out).cell 1;have T:Hid (Blk n wg.heap.size 177 #[.int .i64 mod,.int .i64 2,.int .i64 id,.int .i64 3,.int .i64 mod,.int .i64 3,.int .i64 th,.int .i64 how]):=zdG (a9.out.chg c.chg (fun hm=>Nat.lt_irrefl _ (d.out.lt _ hm)));have z:=zdG j;have A:Hid (∀b,h8=some b→wg.heap.size≤b):=zdG (fun b hb=>Nat.le_trans (Below.size i.out) (s b hb));have C:=zdG a;clear j s c a)
  |(refine zF (by rfl) (by rfl) (enters_of Tryz.func99 (by kernel_rfl) rfl) (by first|(simp[Act.eval];done)|simp[Act.eval,Act.put]) (M.out r _ _ _ _ i.out G.out H.out) ?_;rintro e n ⟨v8,h8,rfl,j,s,c⟩;obtain⟨A8,c8,rfl,_,_⟩:=j.form;refine⟨_,rfl,?_⟩;have x:n.cell? ⟨g,12,none⟩=some (.pointer (some ⟨q.gl,0,none⟩)):=c.at_.zV;have a:=(Turned.of_below d.out i.out).trans c;have y:g < n.heap.size:=Nat.lt_of_lt_of_le o a.chg.size;have I:=(World.cell?_alloc_lt n (.cells #[.int .i64 mod,.int .i64 2,.int .i64 id,.int .i64 3,.int .i64 mod,.int .i64 3,.int .i64 th,.int .i64 how] 177) ⟨g,12,none⟩ y).trans x;have d1:n.cell? ⟨B,1,none⟩=some (.int .i64 th):=(N.out.chg a.chg O.out).cell 1;  have z:=zdG j;have A:Hid (∀b,h8=some b→wg.heap.size≤b):=zdG (fun b hb=>Nat.le_trans (Below.size i.out) (s b hb));have C:=zdG a;clear j s c a)
  |(refine zF (by rfl) (by rfl) (enters_of Tryz.func99 (by kernel_rfl) rfl) (by first|(simp[Act.eval];done)|simp[Act.eval,Act.put]) (M.out (r.alloc (.cells #[.int .i64 mod,.int .i64 2,.int .i64 id,.int .i64 3,.int .i64 mod,.int .i64 3,.int .i64 th,.int .i64 how] 177)) _ _ _ _ (za i.out (below_alloc1 r _)) (G.out.alloc _) H.out) ?_;rintro e n ⟨v8,h8,rfl,j,s,c⟩;obtain⟨A8,c8,rfl,_,_⟩:=j.form;refine⟨_,rfl,?_⟩;have x:n.cell? ⟨g,12,none⟩=some (.pointer (some ⟨q.gl,0,none⟩)):=c.at_.zV;have a:=(Turned.of_below d.out (za i.out (below_alloc1 r _))).trans c;have y:g < n.heap.size:=Nat.lt_of_lt_of_le o a.chg.size;have I:=(World.cell?_alloc_lt n (.cells #[.int .i64 mod,.int .i64 2,.int .i64 id,.int .i64 3,.int .i64 mod,.int .i64 3,.int .i64 th,.int .i64 how] 177) ⟨g,12,none⟩ y).trans x;have d1:n.cell? ⟨B,1,none⟩=some (.int .i64 th):=(N.out.chg a.chg O.out).cell 1;have T:Hid (Blk n r.heap.size 177 #[.int .i64 mod,.int .i64 2,.int .i64 id,.int .i64 3,.int .i64 mod,.int .i64 3,.int .i64 th,.int .i64 how]):=zdG ((Blk.new r 177 #[.int .i64 mod,.int .i64 2,.int .i64 id,.int .i64 3,.int .i64 mod,.int .i64 3,.int .i64 th,.int .i64 how]).chg c.chg (fun hm=>by have h1:=d.out.lt _ hm;have h2:=i.out.size;omega));have z:=zdG j;have A:Hid (∀b,h8=some b→wg.heap.size≤b):=zdG (fun b hb=>Nat.le_trans (Below.size (za i.out (below_alloc1 r _))) (s b hb));have C:=zdG a;clear j s c a)
  |(refine zx _ (by rfl) (.tmp 64) (.tmp 73) _ (by rfl) Tryz.underlying102 he V X Y rfl (by omega) (z.out.alloc _) (by first|(simp[Act.eval];done)|simp[Act.eval,Act.put]) n.heap.size #[.int .i64 mod,.int .i64 2,.int .i64 id,.int .i64 3,.int .i64 mod,.int .i64 3,.int .i64 th,.int .i64 how] (e':=177) (fr:=(0,0)) (heap_alloc_new n _) 2 2 (by first|(simp[Act.eval];done)|simp[Act.eval,Act.put]) (by rfl) (by simp[Value.oneCell']) (by unfold maxLen;omega) (by omega) ?_;intro v2 h2 w9 k t u;obtain⟨a5,a8,rfl,_,_⟩:=k.form;obtain⟨l,f⟩:=UY (e:=(es++[⟨mod,2,id,3⟩,⟨mod,3,th,how⟩])) d.out C.out A.out (below_alloc1 n _) (by rw[zP];exact k) t u (by rw[List.length_append,P.out];rfl) (by omega) w.out;have a2:w9.cell? ⟨g,12,none⟩=some (.pointer (some ⟨q.gl,0,none⟩)):=l.at_.zV;have U:=zdG l;have D:=zdG f;clear k t u l f)
  |(refine zx _ (by rfl) (.tmp 64) (.tmp 73) _ (by rfl) Tryz.underlying102 he V X Y rfl (by omega) z.out (by first|(simp[Act.eval];done)|simp[Act.eval,Act.put]) wg.heap.size #[.int .i64 mod,.int .i64 2,.int .i64 id,.int .i64 3,.int .i64 mod,.int .i64 3,.int .i64 th,.int .i64 how] (e':=177) (fr:=(0,0)) T.out 2 2 (by first|(simp[Act.eval];done)|simp[Act.eval,Act.put]) (by rfl) (by simp[Value.oneCell']) (by unfold maxLen;omega) (by omega) ?_;intro v2 h2 w9 k t u;obtain⟨a5,a8,rfl,_,_⟩:=k.form;obtain⟨l,f⟩:=UY (e:=(es++[⟨mod,2,id,3⟩,⟨mod,3,th,how⟩])) d.out C.out A.out (Below.refl _ n) (by rw[zP];exact k) t u (by rw[List.length_append,P.out];rfl) (by omega) w.out;have a2:w9.cell? ⟨g,12,none⟩=some (.pointer (some ⟨q.gl,0,none⟩)):=l.at_.zV;have U:=zdG l;have D:=zdG f;clear k t u l f)
  |(refine zx _ (by rfl) (.tmp 64) (.tmp 73) _ (by rfl) Tryz.underlying102 he V X Y rfl (by omega) z.out (by first|(simp[Act.eval];done)|simp[Act.eval,Act.put]) r.heap.size #[.int .i64 mod,.int .i64 2,.int .i64 id,.int .i64 3,.int .i64 mod,.int .i64 3,.int .i64 th,.int .i64 how] (e':=177) (fr:=(0,0)) T.out 2 2 (by first|(simp[Act.eval];done)|simp[Act.eval,Act.put]) (by rfl) (by simp[Value.oneCell']) (by unfold maxLen;omega) (by omega) ?_;intro v2 h2 w9 k t u;obtain⟨a5,a8,rfl,_,_⟩:=k.form;obtain⟨l,f⟩:=UY (e:=(es++[⟨mod,2,id,3⟩,⟨mod,3,th,how⟩])) d.out C.out A.out (Below.refl _ n) (by rw[zP];exact k) t u (by rw[List.length_append,P.out];rfl) (by omega) w.out;have a2:w9.cell? ⟨g,12,none⟩=some (.pointer (some ⟨q.gl,0,none⟩)):=l.at_.zV;have U:=zdG l;have D:=zdG f;clear k t u l f)
  |(refine zF (by rfl) (by rfl) (enters_of Tryz.func98 (by kernel_rfl) rfl) (by first|(simp[Act.eval];done)|simp[Act.eval,Act.put]) D.out ?_;rintro e aj ⟨rfl,ak,J⟩;refine⟨_,rfl,?_⟩;have a4:=zdG J;clear J)
  |fail)
 all_goals exact HQ.out _ _ _ _ _ _ _ _ _ _ _ _ _ _ _ _ _ _ _ _ _ _ (U.out.trans a4.out)
theorem uY {α:Type}{enc:α→List Value}{k:Nat}(he:∀x,(enc x).length=k):∀(l:List α) (i:Nat),zk enc (l.eraseIdx i)=(zk enc l).take (i * k)++(zk enc l).drop ((i+1) * k)
 |[],i=>by simp[zk]
 |a :: r,0=>by
  show zk enc r=((enc a++zk enc r).take (0 * k))++((enc a++zk enc r).drop ((0+1) * k))
  rw[Nat.zero_mul,List.take_zero,List.nil_append,Nat.zero_add,Nat.one_mul,←he a,List.drop_left]
 |a :: r,i+1=>by
  show enc a++zk enc (r.eraseIdx i)=((enc a++zk enc r).take ((i+1) * k))++((enc a++zk enc r).drop ((i+1+1) * k))
  have e1:(i+1) * k=k+i * k:=by rw[Nat.add_mul,Nat.one_mul,Nat.add_comm]
  have c:(i+1+1) * k=k+(i+1) * k:=by rw[Nat.add_mul (i+1),Nat.one_mul,Nat.add_comm]
  have d:(enc a++zk enc r).take ((i+1) * k)=enc a++(zk enc r).take (i * k):=by rw[e1,←he a,List.take_length_add_append]
  have e:(enc a++zk enc r).drop ((i+1+1) * k)=(zk enc r).drop ((i+1) * k):=by
   have b:=List.drop_length_add_append (l₁:=enc a) (l₂:=zk enc r) ((i+1) * k)
   rw[he a] at b
   rw[c]
   exact b
  rw[uY he r i,d,e,List.append_assoc]
theorem X5 {α β:Type}(f:α→β):∀(l:List α) (i:Nat),(l.eraseIdx i).map f=(l.map f).eraseIdx i
 |[],_=>rfl
 |_ :: _,0=>rfl
 |a :: r,i+1=>by
  show f a :: (r.eraseIdx i).map f=f a :: (r.map f).eraseIdx i
  rw[X5 f r i]
section
variable {w w':World} {g:Nat} {q:zl} {x:Acc}
theorem zh.cutMail (h:zh w g q x){v':Value}(i:Nat)(hi:i < x.mails.length)(hs:Sl w' 54 8 v' q.hm (x.mails.length - 1) ((zk xP q.ms).take (i * 8)++(zk xP q.ms).drop ((i+1) * 8)))(hc:Chg q.hm.toList w w') :
  Turned w (w'.setCell ⟨g,11,none⟩ v') g q {x with mails:=x.mails.eraseIdx i} {q with vm:=v',ms:=q.ms.eraseIdx i}:=by
 have c:=h.apart
 have l:g < w.heap.size:=h.blk.lt
 have f:Chg (q.own g) w (w'.setCell ⟨g,11,none⟩ v'):=(hc.mono fun k hk=>.inl (zl.vR (by simpa using hk))).set (p:=⟨g,11,none⟩) (.inl zl.ZP) v'
 have d:∀k∈({q with vm:=v',ms:=q.ms.eraseIdx i}:zl).own g,k∈q.own g∨w.heap.size≤k:=fun k hk=>.inl hk
 have j:Chg (g :: q.hm.toList) w (w'.setCell ⟨g,11,none⟩ v'):=(hc.mono fun k hk=>.inl (List.mem_cons_of_mem _ hk)).set (.inl (by simp)) v'
 refine⟨⟨?_,?_,?_,?_,?_,fun a ha2=>(h.parts a (List.mem_of_mem_eraseIdx ha2)).step f d⟩,f,d⟩
 ·have m:=(h.blk.chg hc (by simpa using c.hm)).set 11 v'
  exact m
 ·exact h.log.chg j (by
   simp only[List.mem_cons,Option.mem_toList,not_or]
   exact⟨fun e=>c.gl e.symm,c.lm⟩) (fun b hb=>by
   simp only[List.mem_cons,Option.mem_toList,not_or]
   exact⟨fun e=>c.hl (by rw[hb,e]),c.em b hb⟩)
 ·exact h.boxes.chg j (fun b hb=>by
   simp only[List.mem_cons,Option.mem_toList,not_or]
   exact⟨fun e=>c.hb (by rw[hb,e]),c.bm b hb⟩)
 ·show (q.ms.eraseIdx i).map (·.p)=x.mails.eraseIdx i
  rw[←h.same,X5]
 ·have n:=hs.far (p:=⟨g,11,none⟩) c.hm v'
  show Sl _ _ 8 v' q.hm (x.mails.eraseIdx i).length (zk xP (q.ms.eraseIdx i))
  rw[List.length_eraseIdx_of_lt hi,uY z8]
  exact n
theorem zh.cutBox (h:zh w g q x){v':Value}(i:Nat)(hi:i < x.boxes.length)(hs:Sl w' 89 6 v' q.hb (x.boxes.length - 1) ((zk xQ x.boxes).take (i * 6)++(zk xQ x.boxes).drop ((i+1) * 6)))(hc:Chg q.hb.toList w w') :
  Turned w (w'.setCell ⟨g,10,none⟩ v') g q {x with boxes:=x.boxes.eraseIdx i} {q with vb:=v'}:=by
 have c:=h.apart
 have l:g < w.heap.size:=h.blk.lt
 have f:Chg (q.own g) w (w'.setCell ⟨g,10,none⟩ v'):=(hc.mono fun k hk=>.inl (zl.vW (by simpa using hk))).set (p:=⟨g,10,none⟩) (.inl zl.ZP) v'
 have d:∀k∈({q with vb:=v'}:zl).own g,k∈q.own g∨w.heap.size≤k:=fun k hk=>.inl hk
 have j:Chg (g :: q.hb.toList) w (w'.setCell ⟨g,10,none⟩ v'):=(hc.mono fun k hk=>.inl (List.mem_cons_of_mem _ hk)).set (.inl (by simp)) v'
 refine⟨⟨?_,?_,?_,h.same,?_,fun a ha2=>(h.parts a ha2).step f d⟩,f,d⟩
 ·have m:=(h.blk.chg hc (by simpa using c.hb)).set 10 v'
  exact m
 ·exact h.log.chg j (by
   simp only[List.mem_cons,Option.mem_toList,not_or]
   exact⟨fun e=>c.gl e.symm,c.lb⟩) (fun b hb=>by
   simp only[List.mem_cons,Option.mem_toList,not_or]
   exact⟨fun e=>c.hl (by rw[hb,e]),c.eb b hb⟩)
 ·have n:=hs.far (p:=⟨g,10,none⟩) c.hb v'
  show Sl _ _ 6 v' q.hb (x.boxes.eraseIdx i).length (zk xQ (x.boxes.eraseIdx i))
  rw[List.length_eraseIdx_of_lt hi,uY zT]
  exact n
 ·exact h.mails.chg j (fun b hb=>by
   simp only[List.mem_cons,Option.mem_toList,not_or]
   exact⟨fun e=>c.hm (by rw[hb,e]),fun e=>c.bm b e hb⟩)
end
theorem zcw {w:World}{g:Nat}{q:zl}{x:Acc}(h:zh w g q x):∀u∈zk xP q.ms,u.oneCell'=true:=by
 intro u c
 obtain⟨m,b,a⟩:=List.mem_flatMap.1 c
 obtain⟨f,i,d,_,_⟩:=(h.parts m b).keys.form
 obtain⟨j,k,e,_,_⟩:=(h.parts m b).mem.form
 simp only[xP,List.mem_cons,List.not_mem_nil,or_false] at a
 rcases a with rfl|rfl|rfl|rfl|rfl|rfl|rfl|rfl
 all_goals first|rfl|(rw[d];rfl)|(rw[e];rfl)
theorem Turned.yL {w W W2:World}{g:Nat}{q q':zl}{x1:Acc}(h:Turned w W g q x1 q')(hb:Below W.heap.size W W2):Turned w W2 g q x1 q':=h.trans (Turned.of_below h.at_ hb)
theorem JG (th:Int)(B:Nat)(w W:World)(x:zR)(hB:w.cell? ⟨B,1,none⟩=some (.int .i64 th))(hb:Below w.heap.size w W) :
  Calls Tryz.prog 148 (#[.agg (xP x).toArray]++#[.pointer (some ⟨B,0,none⟩)]) W fun e w'=>e=.returned (.bool (decide (x.p.thread=th)))∧Below w.heap.size w w':=by
 have a:=World.block_lt_of_cell? _ _ hB
 have f:=(hb.cell (p:=⟨B,1,none⟩) a).trans hB
 have b:B < W.heap.size:=Nat.lt_of_lt_of_le a hb.size
 obtain⟨⟨i,t,h,j,q,r,k,l⟩,m,n⟩:=x
 show Calls Tryz.prog 148 #[.agg #[.int .i64 i,.int .i64 t,.string ⟨h.toArray⟩,.int .i64 j,m,n,.int .i64 k,.int .i64 l],.pointer (some ⟨B,0,none⟩)] W _
 have o:(W.alloc (.cells #[.int .i64 i,.int .i64 t,.string ⟨h.toArray⟩,.int .i64 j,m,n,.int .i64 k,.int .i64 l] 54)).cell? ⟨B,1,none⟩=some (.int .i64 th):=(World.cell?_alloc_lt W _ _ b).trans f
 have c:=zdG hb
 clear hb f hB
 by_cases d:t=th
 ·subst d
  simp only[decide_true]
  go_enter Tryz.func148,Tryz.ntmps148
  go_wp2
  go_ret
  exact⟨rfl,c.out.alloc c.out.size _⟩
 ·have e:(t==th)=false:=by simpa using d
  have g:decide (t=th)=false:=decide_eq_false d
  simp only[g]
  clear g d
  go_enter Tryz.func148,Tryz.ntmps148
  go_wp2
  go_ret
  exact⟨rfl,c.out.alloc c.out.size _⟩
theorem zcY (w:World)(g:Nat)(q:zl)(x:Acc)(id:Int)(h:zh w g q x)(hf:Fit x)(hno:id∉vw x.mails) :
  Calls Tryz.prog 55 #[.pointer (some ⟨g,0,none⟩),.int .i64 id] w (yu w g q (yh x id)):=by
 have a:id∉vw (q.ms.map (·.p)):=by rw[h.same];exact hno
 obtain⟨j,i⟩:=Y4 a
 rw[h.same] at i
 have b:yh x id=(x,6):=by
  unfold yh
  rw[i]
 rw[b]
 have c:=h.mc hf id
 rw[j] at c
 have H:=zdG h
 clear hno a j i b h hf
 go_enter Tryz.func55,Tryz.ntmps55
 go_wp2_with (first
  |(go_at_call 126;refine c.mono ?_;rintro e k ⟨rfl,d⟩;have f:=zdG d;clear d)
  |fail)
 go_ret
 exact⟨rfl,q,Turned.of_below H.out f.out⟩
theorem zcV (w:World)(g:Nat)(q:zl)(x:Acc)(id:Int)(h:zh w g q x)(hf:Fit x)(i:Nat)(hi:i < q.ms.length)(hpl:place (fun m:zR=>decide (m.p.id=id)) q.ms=(i:Int))(hfi:x.mails.find? (fun m=>decide (m.id=id))=some q.ms[i].p)(hen:x.cfg.maxMod≤x.clock) :
  Calls Tryz.prog 55 #[.pointer (some ⟨g,0,none⟩),.int .i64 id] w (yu w g q (yh x id)):=by
 have b:yh x id=(x,11):=by
  unfold yh
  rw[hfi]
  simp only
  rw[if_pos (by simp[Acc.ends,hen])]
 rw[b]
 have c:=h.mc hf id
 rw[hpl] at c
 have j:¬(i:Int) < 0:=by omega
 have H:=zdG h
 clear b hpl hfi h hf
 go_enter Tryz.func55,Tryz.ntmps55
 go_wp2_with (first
  |(go_at_call 126;refine c.mono ?_;rintro e f ⟨rfl,a⟩;have k:f.cell? ⟨g,6,none⟩=some (.int .i64 x.cfg.maxMod):=(H.out.later a).cells 6;have l:=(H.out.later a).yo;have d:=zdG a;clear a c)
  |(go_at_call 92;refine(yQ g x.clock x.cfg.maxMod _ ((zB (w:=f) (by rfl) _).trans l) ((zB (w:=f) (by rfl) _).trans k)).mono ?_;rintro e n ⟨rfl,o,rfl⟩)
  |fail)
 go_ret
 exact⟨rfl,q,(Turned.of_below H.out d.out).zL (below_drewN' (Below.refl _ _) _)⟩
theorem dest_ok (w:World)(g:Nat)(q:zl)(x:Acc)(id:Int)(h:zh w g q x)(hf:Fit x)(i:Nat)(hi:i < q.ms.length)(hpl:place (fun m:zR=>decide (m.p.id=id)) q.ms=(i:Int))(hfi:x.mails.find? (fun m=>decide (m.id=id))=some q.ms[i].p)(hmo:Yi id x.mails=(i:Int))(hen:¬x.cfg.maxMod≤x.clock) :
  Calls Tryz.prog 55 #[.pointer (some ⟨g,0,none⟩),.int .i64 id] w (yu w g q (yh x id)):=by
 have C:i < x.mails.length:=by rw[←h.Za];exact hi
 obtain⟨b,s,bn,hv,d0,cj,d1,co,bo⟩:=h.xu i C hi
 obtain⟨a,K⟩:∃a,q.ms[i]=a:=⟨_,rfl⟩
 rw[K] at hfi bo
 have F:=h.parts _ (List.getElem_mem hi)
 rw[K] at F
 obtain⟨l,o,bp,_,_⟩:=F.keys.form
 obtain⟨d,f,bq,_,_⟩:=F.mem.form
 obtain⟨rr,aj⟩:∃rr,yh x id=rr:=⟨_,rfl⟩
 rw[aj]
 have a1:rr=({x with clock:=x.clock+1,boxes:=zf (x.clock+1) (rise (yF a.p.members)) x.boxes,mails:=x.mails.eraseIdx i,octets:=x.octets - a.p.text.length,log:=x.log.add (zn (x.clock+1) (rise (yF a.p.members))++[⟨x.clock+1,2,id,3⟩,⟨x.clock+1,3,a.p.thread,if (x.mails.eraseIdx i).any (fun y=>decide (y.thread=a.p.thread)) then 2 else 3⟩])},0):=by
  rw[←aj]
  unfold yh
  rw[hfi]
  simp only
  rw[if_neg (by simp[Acc.ends];omega),hmo]
  rfl
 have Q:a.p∈x.mails:=by rw[←h.same,←K];exact List.mem_map_of_mem (List.getElem_mem hi)
 have cm:=hf.Jp Q
 have ab:=h.mc hf id
 rw[hpl] at ab
 have cr:=h.blk.lt
 obtain⟨n,ak⟩:∃n,x.mails.length=n:=⟨_,rfl⟩
 rw[ak] at C cj hv
 have cs:(i:Int) < (n:Int):=by omega
 have ct:(0:Int)≤(i:Int):=by omega
 have cu:¬(i:Int) < 0:=by omega
 have cv:IntKind.i64.wrap ((i:Int)+1)=(i:Int)+1:=IntWalk.i64_in _ (by have:=hf.nm;have:=hf.clock;have:=hf.cfg.mod;omega)
 have bt:n≤1099511627776:=by have:=hf.nm;have:=hf.clock;have:=hf.cfg.mod;omega
 have cw:=hf.clock
 have cx:=hf.cfg.mod
 have bu:(a.p.text.length:Int)≤uj x.mails:=Vl Q
 have bv:=hf.octets
 have ar:=hf.cfg.size
 have cn:IntKind.i64.wrap (x.octets - (a.p.text.length:Int))=x.octets - (a.p.text.length:Int):=IntWalk.i64_in _ (by omega)
 have H:=zdG h
 have R:=zdG hf
 have ac:=zdG hv
 have au:=zdG K
 have ad:=zdG bq
 have bw:=zdG bp
 have bx:=zdG F
 have D:=zdG ak
 have bz:=zdG Q
 have av:=zdG a1
 clear hpl hfi hmo hv bo K F bp bq aj a1 Q ak h hf bu bv ar
 go_enter Tryz.func55,Tryz.ntmps55
 go_upto_region 9 with(first
  |(go_at_call 126;refine ab.mono ?_;rintro e w1 ⟨rfl,V⟩;have c6:w1.cell? ⟨g,6,none⟩=some (.int .i64 x.cfg.maxMod):=(H.out.later V).cells 6;have c9:=(H.out.later V).yo;have c0:=zdG V;clear V ab)
  |(go_at_call 92;refine(yQ g x.clock x.cfg.maxMod _ ((zB (w:=w1) (by rfl) _).trans c9) ((zB (w:=w1) (by rfl) _).trans c6)).mono ?_;rintro e w4 ⟨rfl,ne,rfl⟩;have ae:=(za c0.out (below_drewN' (Below.refl w1.heap.size w1) ne));have H5:=zdG (H.out.later ae);have a2:=uo g x.clock _ H5.out.yo (H5.out.frozen 9) (by omega);have c1:=zdG ae;clear ae)
  |(go_at_call 95;refine a2.mono ?_;rintro e t ⟨rfl,br⟩;have t6:=H5.out.yj 9 (.int .i64 (x.clock+1)) {x with clock:=x.clock+1} rfl rfl rfl rfl;rw[←br] at t6;have af:=t6.at_.zU;rw[ac.out] at af;have T6:=zdG ((Turned.of_below H.out c1.out).trans t6);clear a2 br t6)
  |fail)
 clear c6 c9
 have k:=T6.out.at_
 obtain⟨b',cp,cq,bs,_,_,_,al,c⟩:=k.xu i (by show i < x.mails.length;rw[D.out];exact C) hi
 rw[ac.out] at bs
 injection bs with hv1 hvn hv3
 clear hvn
 injection hv1 with hv1
 injection hv1 with hv1 hv2
 subst hv1 hv2 hv3
 rw[au.out] at c
 have b0:t.cell? ⟨b,s+i * 8,none⟩=some (.int .i64 a.p.id):=(c 0 (by omega)).1
 have b1:t.cell? ⟨b,s+i * 8+1,none⟩=some (.int .i64 a.p.thread):=(c 1 (by omega)).1
 have b2:t.cell? ⟨b,s+i * 8+2,none⟩=some (.string ⟨a.p.text.toArray⟩):=(c 2 (by omega)).1
 have b3:t.cell? ⟨b,s+i * 8+3,none⟩=some (.int .i64 a.p.at_):=(c 3 (by omega)).1
 have b4:t.cell? ⟨b,s+i * 8+4,none⟩=some (.slice l a.p.keys.length o):=((c 4 (by omega)).1).trans (by rw[←bw.out];rfl)
 have b5:t.cell? ⟨b,s+i * 8+5,none⟩=some (.slice d a.p.members.length f):=((c 5 (by omega)).1).trans (by rw[←ad.out];rfl)
 have b6:t.cell? ⟨b,s+i * 8+6,none⟩=some (.int .i64 a.p.mod):=(c 6 (by omega)).1
 have b7:t.cell? ⟨b,s+i * 8+7,none⟩=some (.int .i64 a.p.born):=(c 7 (by omega)).1
 have aw:Sl t 54 8 (.slice (some ⟨b,s,none⟩) n bn) q.hm n (zk xP q.ms):=by
  have r:Sl t 54 8 q.vm q.hm x.mails.length (zk xP q.ms):=k.mails
  rw[ac.out,D.out] at r
  exact r
 have ax:RdS t [] 2 (.slice d a.p.members.length f) a.p.members.length (zk zA a.p.members):=by
  have r:=k.parts _ (List.getElem_mem hi)
  rw[au.out] at r
  rw[←ad.out]
  exact r.mem.sub (fun _ _ _ hm=>by cases hm)
 have a3:=delM_any (t.alloc (.cells #[.int .i64 a.p.id,.int .i64 a.p.thread,.string ⟨a.p.text.toArray⟩,.int .i64 a.p.at_,.slice l a.p.keys.length o,.slice d a.p.members.length f,.int .i64 a.p.mod,.int .i64 a.p.born] 54)) _ q.hm n _ (aw.alloc _) (zcw k) bt i C
 have G:g < t.heap.size:=k.blk.lt
 have a4:=(World.cell?_alloc_lt t (.cells #[.int .i64 a.p.id,.int .i64 a.p.thread,.string ⟨a.p.text.toArray⟩,.int .i64 a.p.at_,.slice l a.p.keys.length o,.slice d a.p.members.length f,.int .i64 a.p.mod,.int .i64 a.p.born] 54) ⟨g,11,none⟩ G).trans af
 have cy:=zdG ax
 have ay:g∉q.hm.toList:=fun hm=>k.apart.hm (by simpa using hm)
 have A:=zdG k
 clear c aw ax k
 go_upto_region 11 with(first
  |(go_at_call 147;refine a3.mono ?_;rintro e w8 ⟨v8,rfl,am,X⟩;have c2:w8.cell? ⟨g,11,none⟩=some (.slice (some ⟨b,s,none⟩) n bn):=(X.cell (p:=⟨g,11,none⟩) (by rw[World.size_alloc];simp;omega) ay).trans a4;have kf:w8.frozen? ⟨g,11,none⟩=false:=(X.frozen (p:=⟨g,11,none⟩) (by rw[World.size_alloc];simp;omega) ay).trans ((World.frozen?_alloc_past _ _ _ G).trans (A.out.frozen 11));obtain⟨A8,c8,rfl,_,_⟩:=am.form;have az:=zdG am;have ag:=zdG X;clear a3 am X)
  |fail)
 obtain⟨E,Y⟩:∃E:World,E=w8.setCell ⟨g,11,none⟩ (.slice A8 (n - 1) c8):=⟨_,rfl⟩
 rw[←Y]
 obtain⟨B,L⟩:∃B,B=t.heap.size:=⟨_,rfl⟩
 rw[←L]
 obtain⟨z,Z⟩:∃z:zl,z={q with vm:=.slice A8 (n - 1) c8,ms:=q.ms.eraseIdx i}:=⟨_,rfl⟩
 have I:=(A.out.alloc (.cells #[.int .i64 a.p.id,.int .i64 a.p.thread,.string ⟨a.p.text.toArray⟩,.int .i64 a.p.at_,.slice l a.p.keys.length o,.slice d a.p.members.length f,.int .i64 a.p.mod,.int .i64 a.p.born] 54)).cutMail (v':=.slice A8 (n - 1) c8) i (by show i < x.mails.length;rw[D.out];exact C) (by
  show Sl w8 _ 8 _ q.hm (x.mails.length - 1) _
  rw[D.out]
  exact az.out) ag.out
 rw[←Y,←Z] at I
 have a':Turned w E g q {x with clock:=x.clock+1,mails:=x.mails.eraseIdx i} z:=(T6.out.zL (below_alloc1 t _)).trans I
 have b8:Blk E B 54 #[.int .i64 a.p.id,.int .i64 a.p.thread,.string ⟨a.p.text.toArray⟩,.int .i64 a.p.at_,.slice l a.p.keys.length o,.slice d a.p.members.length f,.int .i64 a.p.mod,.int .i64 a.p.born]:=by
  rw[Y,L]
  exact((Blk.new t 54 #[.int .i64 a.p.id,.int .i64 a.p.thread,.string ⟨a.p.text.toArray⟩,.int .i64 a.p.at_,.slice l a.p.keys.length o,.slice d a.p.members.length f,.int .i64 a.p.mod,.int .i64 a.p.born]).chg ag.out (fun hm=>Nat.lt_irrefl _ (A.out.lt _ (zl.vR (by simpa using hm))))).far (p:=⟨g,11,none⟩) (by simp;omega) _
 have b9:B∉z.own g:=fun hm=>by
  rw[Z] at hm
  have r:=A.out.lt B hm
  omega
 have ba:Below t.heap.size t t:=Below.refl _ _
 have S:=zdG a'
 have ah:=zdG b8
 have bb:=zdG b9
 have bc:=zdG Z
 have cz:=zdG L
 have c':w.heap.size≤B:=by
  rw[L]
  exact T6.out.chg.size
 clear Y L Z I a' b8 b9 ba b0 b1 b2 b3 b4 b5 b6 b7 c2 kf af a4 G al az ag
 have c3:E.cell? ⟨g,15,none⟩=some (.int .i64 x.octets):=S.out.at_.VK
 have c4:E.frozen? ⟨g,15,none⟩=false:=S.out.at_.frozen 15
 have d2:E.cell? ⟨B,2,none⟩=some (.string ⟨a.p.text.toArray⟩):=ah.out.cell 2
 go_cut [] (fun wx=>Hid (Turned w wx g q {x with clock:=x.clock+1,mails:=x.mails.eraseIdx i,octets:=x.octets - a.p.text.length} z)∧Hid (Blk wx B 54 #[.int .i64 a.p.id,.int .i64 a.p.thread,.string ⟨a.p.text.toArray⟩,.int .i64 a.p.at_,.slice l a.p.keys.length o,.slice d a.p.members.length f,.int .i64 a.p.mod,.int .i64 a.p.born]))
 case first=>
  have tA:∀W:World,W.heap=E.heap→W.os=E.os→W.tape=E.tape→W.output=E.output→Turned w (W.setCell ⟨g,15,none⟩ (.int .i64 (x.octets - a.p.text.length))) g q {x with clock:=x.clock+1,mails:=x.mails.eraseIdx i,octets:=x.octets - a.p.text.length} z∧Blk (W.setCell ⟨g,15,none⟩ (.int .i64 (x.octets - a.p.text.length))) B 54 #[.int .i64 a.p.id,.int .i64 a.p.thread,.string ⟨a.p.text.toArray⟩,.int .i64 a.p.at_,.slice l a.p.keys.length o,.slice d a.p.members.length f,.int .i64 a.p.mod,.int .i64 a.p.born]:=fun W he e1 e2 e3=>by
   have r:Turned w W g q {x with clock:=x.clock+1,mails:=x.mails.eraseIdx i} z:=S.out.yL (W2:=W) ⟨e1,e2,e3,Nat.le_of_eq (by rw[he]),fun _ _=>by rw[he]⟩
   refine⟨r.trans (r.at_.Qy _),(ah.out.heap he).far (p:=⟨g,15,none⟩) (fun e=>bb.out (by rw[e];exact zl.ZP)) _⟩
  have TA:=zdG tA
  clear tA
  go_region_law (first
   |fail)
  all_goals
   go_wp2_with fail
   go_meet
   exact⟨zdG (TA.out E.drew rfl rfl rfl rfl).1,zdG (TA.out E.drew rfl rfl rfl rfl).2⟩
 case rest=>
  obtain⟨M,an⟩:=hcut
  obtain⟨wb,rfl⟩:∃wb:World,wb=wc:=⟨_,rfl⟩
  clear c3 c4 d2 S ah
  have c5:wb.cell? ⟨g,11,none⟩=some (.slice A8 (n - 1) c8):=by
   have r:=M.out.at_.zU
   rw[bc.out] at r
   exact r
  obtain⟨N,ao⟩:∃N,(x.mails.eraseIdx i).any (fun y=>decide (y.thread=a.p.thread))=N:=⟨_,rfl⟩
  have bd:Calls Tryz.prog 114 #[.slice A8 (n - 1) c8,.func (.func 148) #[] #[.pointer (some ⟨B,0,none⟩)]] wb fun e w'=>e=.returned (.bool N)∧Below wb.heap.size wb w':=by
   have hl:=M.out.at_.Za
   have c7:=M.out.at_.same
   have ca:(x.mails.eraseIdx i).length=n - 1:=by
    rw[List.length_eraseIdx_of_lt (by rw[D.out];exact C),D.out]
   have r:=za2 (.slice A8 (n - 1) c8) [] z.ms (fun y=>decide (y.p.thread=a.p.thread)) 148 #[.pointer (some ⟨B,0,none⟩)] (enters_of Tryz.func148 (by kernel_rfl) rfl) wb (by
    have h2:=M.out.at_.mails
    rw[show z.vm=.slice A8 (n - 1) c8 by rw[bc.out]] at h2
    rw[hl]
    exact h2.reads [] (by simp)) (by rw[hl];show (x.mails.eraseIdx i).length≤_;rw[ca];omega) (fun W hbW y _=>JG _ B wb W y (an.out.cell 1) hbW)
   have h3:z.ms.any (fun y=>decide (y.p.thread=a.p.thread))=N:=by
    rw[←ao]
    have h4:(x.mails.eraseIdx i).any (fun y=>decide (y.thread=a.p.thread))=(z.ms.map (·.p)).any (fun y=>decide (y.thread=a.p.thread)):=by rw[c7]
    rw[h4,List.any_map]
    rfl
   rw[h3] at r
   exact r
  have cb:=zdG bd
  have cc:=zdG ao
  clear bd ao
  go_upto_if 55 with(first
   |(go_at_call 114;refine cb.out.mono ?_;rintro e ck ⟨rfl,a8⟩;have a5:=zdG a8;clear a8)
   |fail)
  go_cut [8] (fun v wx=>v=.int .i64 (if N=true then 2 else 3)∧wx=ck)
  case first=>
   cases N
   all_goals
    go_wp2_with fail
    go_meet
    exact⟨rfl,rfl⟩
  case rest=>
   obtain⟨rfl,rfl⟩:=hcut
   obtain⟨P,rfl⟩:∃P:World,P=wc:=⟨_,rfl⟩
   obtain⟨a0,ap⟩:∃a0:Int,(if N=true then (2:Int) else 3)=a0:=⟨_,rfl⟩
   rw[ap]
   obtain⟨u,O⟩:∃u:Acc,u={x with clock:=x.clock+1,mails:=x.mails.eraseIdx i,octets:=x.octets - a.p.text.length}:=⟨_,rfl⟩
   have T:Turned w P g q u z:=by
    rw[O]
    exact M.out.yL a5.out
   have be:Blk P B 54 #[.int .i64 a.p.id,.int .i64 a.p.thread,.string ⟨a.p.text.toArray⟩,.int .i64 a.p.at_,.slice l a.p.keys.length o,.slice d a.p.members.length f,.int .i64 a.p.mod,.int .i64 a.p.born]:=an.out.below a5.out an.out.lt
   have ai:u.boxes=x.boxes:=by rw[O]
   have bf:u.log=x.log:=by rw[O]
   have a6:∀j∈yF a.p.members,j∈ids x.boxes:=R.out.memIn bz.out
   have U:x.boxes.length≤1099511627776:=by
    have:=R.out.nb
    omega
   have a7:(yF a.p.members).length=a.p.members.length:=by simp[yF]
   have bg:RdS P [] 2 (.slice d a.p.members.length f) a.p.members.length (zk zA a.p.members):=by
    have r:=bx.out.mem.chg T.chg
    rw[ad.out] at r
    exact r.sub (fun _ _ _ hm=>by cases hm)
   have bh:∀W:World,Below P.heap.size P W→Calls Tryz.prog 129 #[.agg #[.int .i64 a.p.id,.int .i64 a.p.thread,.string ⟨a.p.text.toArray⟩,.int .i64 a.p.at_,.slice l a.p.keys.length o,.slice d a.p.members.length f,.int .i64 a.p.mod,.int .i64 a.p.born]] W fun e w'=>∃A3 n3 p3 h3,e=.returned (.slice A3 n3 p3)∧Sl w' 3 1 (.slice A3 n3 p3) h3 n3 ((yF a.p.members).map encI)∧n3=(yF a.p.members).length∧Below W.heap.size W w':=fun W N=>by
    refine(uR W a.p.id a.p.thread a.p.at_ a.p.mod a.p.born ⟨a.p.text.toArray⟩ (.slice l a.p.keys.length o) (.slice d a.p.members.length f) a.p.members (bg.below N) (by omega)).mono ?_
    rintro e w' ⟨v,hh,rfl,hs,d3,U⟩
    obtain⟨A9,c9,rfl,_,_⟩:=hs.form
    exact⟨A9,_,c9,hh,rfl,hs,a7.symm,U⟩
   have bi:∀(W:World) (A3:Option Addr) (n3 p3:Nat) (h3:Option Nat),Below P.heap.size P W→Sl W 3 1 (.slice A3 n3 p3) h3 n3 ((yF a.p.members).map encI)→n3=(yF a.p.members).length→Calls Tryz.prog 99 #[.pointer (some ⟨g,0,none⟩),.int .i64 (x.clock+1),.slice A3 n3 p3] W fun e w'=>∃v' hh,e=.returned v'∧Sl w' 177 4 v' hh (rise (yF a.p.members)).length (zM (zn (x.clock+1) (rise (yF a.p.members))))∧(∀b,hh=some b→W.heap.size≤b)∧Turned W w' g z {u with boxes:=zf (x.clock+1) (rise (yF a.p.members)) u.boxes} z:=fun W A3 n3 p3 h3 N hs hn3=>by
    subst hn3
    exact uS W g z u (T.at_.later N) (by rw[ai];exact U) (x.clock+1) (yF a.p.members) _ [] (hs.reads [] (by simp)) (by omega) (by rw[ai];exact a6)
   have J:1≤u.log.most∧u.log.most≤1099511627776∧u.log.es.length≤1099511627776:=by
    rw[bf]
    have r:=R.out.log
    have h2:=R.out.cfg.log
    rw[r.1]
    omega
   have cd:(rise (yF a.p.members)).length≤4294967296:=Nat.le_trans (zY _) (by omega)
   have bj:=zdG T
   have ce:=zdG be
   have cf:=zdG bi
   have cg:=zdG bh
   have bk:=zdG J
   have ch:=zdG O
   have ci:=zdG ap
   clear T be ai bf a6 U a7 bg bh bi J O ap c5
   go_upto_region 15 with(fail)
   go_cut [] (fun wx=>∃aq,Hid (Turned w wx g q {{u with boxes:=zf (x.clock+1) (rise (yF a.p.members)) u.boxes} with log:=u.log.add (zn (x.clock+1) (rise (yF a.p.members))++[⟨x.clock+1,2,id,3⟩,⟨x.clock+1,3,a.p.thread,a0⟩])} aq))
   case first=>
    refine zdq P g B z u {u with boxes:=zf (x.clock+1) (rise (yF a.p.members)) u.boxes} (x.clock+1) id a.p.thread a0 a.p.id a.p.at_ a.p.mod a.p.born ⟨a.p.text.toArray⟩ (.slice l a.p.keys.length o) (.slice d a.p.members.length f) (rise (yF a.p.members)).length (zn (x.clock+1) (rise (yF a.p.members))) (yF a.p.members) _ _ _ _ _ _ _ _ _ _ _ _ _ _ _ _ _ _ _ _ _ _ _ _ _ _ _ _ _ _ _ _ _ _ _ _ _ _ _ _ _ _ _ _ _ _ _ _ _ _ _ _ _ _ _ _ _ _ _ _ _ _ _ _ _ _ _ _ _ _ _ _ _ _ bj.out.at_ ce.out bb.out (yC _ _) cd bk.out cg.out cf.out ?_
    intro d4 d5 d6 d7 d8 d9 da db dc dd de df dg dh di dj dk dl dm dn wx cl a9
    have bl:=zdG (bj.out.trans a9)
    clear a9
    go_wp2_with fail
    go_meet
    exact⟨cl,bl⟩
   case rest=>
    obtain⟨aq,aa⟩:=hcut
    obtain⟨wz,rfl⟩:∃wz:World,wz=wc:=⟨_,rfl⟩
    have bm:Hid (yu w g q rr (.returned (.int .i64 0)) wz):=zdG (by
     rw[av.out,cc.out]
     refine⟨rfl,aq,?_⟩
     have r:=aa.out
     rw[ch.out,←ci.out] at r
     exact r)
    clear aa
    go_wp2_with fail
    go_ret
    exact bm.out
theorem JR (w:World)(g:Nat)(q:zl)(x:Acc)(id:Int)(h:zh w g q x)(hf:Fit x) :
  Calls Tryz.prog 55 #[.pointer (some ⟨g,0,none⟩),.int .i64 id] w (yu w g q (yh x id)):=by
 by_cases e:id∈vw x.mails
 case neg=>exact zcY w g q x id h hf e
 have d:id∈vw (q.ms.map (·.p)):=by rw[h.same];exact e
 obtain⟨i,j,b,c,_,_,a⟩:=Zh d
 rw[h.same] at c a
 by_cases f:x.cfg.maxMod≤x.clock
 ·exact zcV w g q x id h hf i j b a f
 ·exact dest_ok w g q x id h hf i j b a c f
end Go.Proofs.YtfhlhdmhgheonaaGreatDoor
