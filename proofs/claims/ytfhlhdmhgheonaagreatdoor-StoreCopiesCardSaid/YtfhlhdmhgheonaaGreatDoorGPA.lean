/-
  The last drawn region of the store's Place: what left and what is fresh is joined, turned, and told to the log. Printed by gen_ptell.py. The store's Place where it places. Printed by gen_placeok.py.
-/
import Derived.Test.YtfhlhdmhgheonaaGreatDoorGF
import Derived.Test.YtfhlhdmhgheonaaGreatDoorGR
import Derived.Test.YtfhlhdmhgheonaaGreatDoorGS
import Derived.Test.YtfhlhdmhgheonaaGreatDoorGX
import Derived.Test.YtfhlhdmhgheonaaGreatDoorGD
import Derived.Deep.QuietTactic
import Derived.Deep.RegionLaw
import Derived.Deep.DrawnRows
import Derived.Deep.DeepCutAuto
import Derived.Deep.CutBlock
set_option maxRecDepth 100000
set_option maxHeartbeats 8000000
namespace Go.Proofs.YtfhlhdmhgheonaaGreatDoor
open Go.Shelf Go.RowKit
attribute [local go_sem ↓] Go.wp_at_zero Go.wp_at_succ
theorem zbW (wg:World)(g D:Nat)(q:zl)(x5 x6:Acc)(mod id:Int)(ne n3 nl nf cl cf:Nat)(Al Af:Addr)(xs:List Value)(es:List E4)(u2 u3 u4 u5 u6 u7 u8 u9 u10 u14 u15 u16 u17 u18 u19 u20 u21 u22 u23 u24 u25 u26 u27 u28 u29 u30 u31 u32 u33 u34 u35 u36 u37 u38 u39 u40 u41 u42 u43 u44 u45 u46 u47 u48 u49 u50 u51 u52 u53 u54 u55 u56 u57 u58 u59 u60 u61 u62 u63 u64 u65 u66 u67 u68 u69 u70 u71 u72 u73 u74 u75 u76 u77 u78 u79 u80 u81 u82 u83 u84 u85 u86 u87 u88 u89 u90 u91 u92 u93 u94 u95 u96 u97 u98 u99 u100 u101 u102 u103 u104 u105 u106 u107 u108 u109 u110 u111 u112 u113 u114 u115 u116 u117 u118 u119 u120 u121 u122 u123 u124 u125 u126 u127 u128 u129:Value)(K:Act→World→Prop)(R:Ending→World→Prop)(fn:Func)(hst:zh wg g q x5)(hes:es.length=ne)(hne:ne≤4294967296)(hlog:1≤x6.log.most∧x6.log.most≤1099511627776∧x6.log.es.length≤1099511627776)(hD:wg.cell? ⟨D,0,none⟩=some (.slice (some Al) nl cl))(hcc:∀W B,Below wg.heap.size wg W→Blk W B 37 #[.slice (some Al) nl cl,.slice (some Af) nf cf]→Calls Tryz.prog 145 #[.slice (some ⟨B,0,none⟩) 2 2] W fun e w'=>∃v h,e=.returned v∧Sl w' 3 1 v h n3 xs∧(∀b,h=some b→W.heap.size≤b)∧Below W.heap.size W w')(htu:∀W v h,Below wg.heap.size wg W→Sl W 3 1 v h n3 xs→Calls Tryz.prog 99 #[.pointer (some ⟨g,0,none⟩),.int .i64 mod,v] W fun e w'=>∃v' hh,e=.returned v'∧Sl w' 177 4 v' hh ne (zM es)∧(∀b,hh=some b→W.heap.size≤b)∧Turned W w' g q x6 q)(hQ:∀(v113 v114 v115 v116 v117 v118 v119 v120 v121 v122 v123 v124 v125 v126 v127 v128 v129:Value) (wx:World) (q2:zl),Turned wg wx g q {x6 with log:=x6.log.add (es++[⟨mod,2,id,2⟩])} q2→K ⟨#[.pointer (some ⟨g,0,none⟩),.int .i64 id,u2,u3,u4,u5,u6,u7,u8,u9,u10,.slice (some Af) nf cf,.pointer (some ⟨D,0,none⟩),.int .i64 mod,u14,u15,u16,u17,u18,u19,u20,u21,u22,u23,u24,u25,u26,u27,u28,u29,u30,u31,u32,u33,u34,u35,u36,u37,u38,u39,u40,u41,u42,u43,u44,u45,u46,u47,u48,u49,u50,u51,u52,u53,u54,u55,u56,u57,u58,u59,u60,u61,u62,u63,u64,u65,u66,u67,u68,u69,u70,u71,u72,u73,u74,u75,u76,u77,u78,u79,u80,u81,u82,u83,u84,u85,u86,u87,u88,u89,u90,u91,u92,u93,u94,u95,u96,u97,u98,u99,u100,u101,u102,u103,u104,u105,u106,u107,u108,u109,u110,u111,u112,v113,v114,v115,v116,v117,v118,v119,v120,v121,v122,v123,v124,v125,v126,v127,v128,v129],[]⟩ wx) :
  Code.wp Tryz.prog (VY 29 (Tryz.f53.body.getD .skip)) (Exit.then K (bodyPost Tryz.prog fn R)) ⟨#[.pointer (some ⟨g,0,none⟩),.int .i64 id,u2,u3,u4,u5,u6,u7,u8,u9,u10,.slice (some Af) nf cf,.pointer (some ⟨D,0,none⟩),.int .i64 mod,u14,u15,u16,u17,u18,u19,u20,u21,u22,u23,u24,u25,u26,u27,u28,u29,u30,u31,u32,u33,u34,u35,u36,u37,u38,u39,u40,u41,u42,u43,u44,u45,u46,u47,u48,u49,u50,u51,u52,u53,u54,u55,u56,u57,u58,u59,u60,u61,u62,u63,u64,u65,u66,u67,u68,u69,u70,u71,u72,u73,u74,u75,u76,u77,u78,u79,u80,u81,u82,u83,u84,u85,u86,u87,u88,u89,u90,u91,u92,u93,u94,u95,u96,u97,u98,u99,u100,u101,u102,u103,u104,u105,u106,u107,u108,u109,u110,u111,u112,u113,u114,u115,u116,u117,u118,u119,u120,u121,u122,u123,u124,u125,u126,u127,u128,u129],[]⟩ wg:=by
 obtain⟨e0,he,a3,a4,a5⟩:=info_parts Try.infoEntry
 have d:=hst.blk.lt
 have a6:=World.block_lt_of_cell? _ _ hD
 have x:wg.cell? ⟨g,12,none⟩=some (.pointer (some ⟨q.gl,0,none⟩)):=hst.zV
 have U:=(World.cell?_alloc_lt wg (.cells #[.int .i64 mod,.int .i64 2,.int .i64 id,.int .i64 2] 177) ⟨g,12,none⟩ d).trans x
 have V:=(World.cell?_alloc_lt wg (.cells #[.slice (some Al) nl cl,.slice (some Af) nf cf] 37) ⟨g,12,none⟩ d).trans x
 have a7:=(World.cell?_alloc_lt (wg.alloc (.cells #[.int .i64 mod,.int .i64 2,.int .i64 id,.int .i64 2] 177)) (.cells #[.slice (some Al) nl cl,.slice (some Af) nf cf] 37) ⟨g,12,none⟩ (by rw[World.size_alloc];exact Nat.lt_succ_of_lt d)).trans U
 have a8:=(World.cell?_alloc_lt (wg.alloc (.cells #[.slice (some Al) nl cl,.slice (some Af) nf cf] 37)) (.cells #[.int .i64 mod,.int .i64 2,.int .i64 id,.int .i64 2] 177) ⟨g,12,none⟩ (by rw[World.size_alloc];exact Nat.lt_succ_of_lt d)).trans V
 have ac:=(World.cell?_alloc_lt wg (.cells #[.int .i64 mod,.int .i64 2,.int .i64 id,.int .i64 2] 177) ⟨D,0,none⟩ a6).trans hD
 have S:=zdG hcc
 have T:=zdG htu
 have j:=zdG hst
 have M:=zdG hlog
 have X:=zdG hes
 have HQ:=zdG hQ
 clear htu hst hlog hes hQ hcc
 unfold Tryz.f53
 simp only[Option.getD_some,VY,Nat.reduceEqDiff,if_true,if_false,reduceCtorEq]
 go_region_law (first
  |(refine zF (by rfl) (by rfl) (enters_of Tryz.func145 (by kernel_rfl) rfl) (by simp[Act.eval]) (S.out _ _ (za (below_alloc1 wg (.cells #[.slice (some Al) nl cl,.slice (some Af) nf cf] 37)) (zb _)) ((Blk.new wg 37 #[.slice (some Al) nl cl,.slice (some Af) nf cf]).heap (by rfl))) ?_;rintro e o ⟨v7,h7,rfl,l,F,n⟩;obtain⟨A7,c7,rfl,_,_⟩:=l.form;refine⟨_,rfl,?_⟩;have c:=za (za (below_alloc1 wg (.cells #[.slice (some Al) nl cl,.slice (some Af) nf cf] 37)) (zb _)) n;have y:o.cell? ⟨g,12,none⟩=some (.pointer (some ⟨q.gl,0,none⟩)):=(c.cell (p:=⟨g,12,none⟩) d).trans x;have z:g < o.heap.size:=Nat.lt_of_lt_of_le d c.size;have N:=(World.cell?_alloc_lt o (.cells #[.int .i64 mod,.int .i64 2,.int .i64 id,.int .i64 2] 177) ⟨g,12,none⟩ z).trans y;have A:=zdG l;have i:=zdG c;clear l F n c)
  |(refine zF (by rfl) (by rfl) (enters_of Tryz.func145 (by kernel_rfl) rfl) (by simp[Act.eval]) (S.out _ _ (za (za (below_alloc1 wg (.cells #[.int .i64 mod,.int .i64 2,.int .i64 id,.int .i64 2] 177)) (below_alloc1 _ (.cells #[.slice (some Al) nl cl,.slice (some Af) nf cf] 37))) (zb _)) ((Blk.new (wg.alloc (.cells #[.int .i64 mod,.int .i64 2,.int .i64 id,.int .i64 2] 177)) 37 #[.slice (some Al) nl cl,.slice (some Af) nf cf]).heap (by rfl))) ?_;rintro e o ⟨v7,h7,rfl,l,F,n⟩;obtain⟨A7,c7,rfl,_,_⟩:=l.form;refine⟨_,rfl,?_⟩;have c:=za (za (za (below_alloc1 wg (.cells #[.int .i64 mod,.int .i64 2,.int .i64 id,.int .i64 2] 177)) (below_alloc1 _ (.cells #[.slice (some Al) nl cl,.slice (some Af) nf cf] 37))) (zb _)) n;have y:o.cell? ⟨g,12,none⟩=some (.pointer (some ⟨q.gl,0,none⟩)):=(c.cell (p:=⟨g,12,none⟩) d).trans x;have z:g < o.heap.size:=Nat.lt_of_lt_of_le d c.size;have N:=(World.cell?_alloc_lt o (.cells #[.int .i64 mod,.int .i64 2,.int .i64 id,.int .i64 2] 177) ⟨g,12,none⟩ z).trans y;have k:=((Blk.new wg 177 #[.int .i64 mod,.int .i64 2,.int .i64 id,.int .i64 2]).alloc (.cells #[.slice (some Al) nl cl,.slice (some Af) nf cf] 37)).heap (w':=((wg.alloc (.cells #[.int .i64 mod,.int .i64 2,.int .i64 id,.int .i64 2] 177)).alloc (.cells #[.slice (some Al) nl cl,.slice (some Af) nf cf] 37)).drew) (by rfl);have Y:Hid (Blk o (wg.heap.size) 177 #[.int .i64 mod,.int .i64 2,.int .i64 id,.int .i64 2]):=zdG (k.below n k.lt);clear k;have Z:Hid (wg.heap.size≤wg.heap.size):=zdG (by first|exact Nat.le_refl _|simp);have A:=zdG l;have i:=zdG c;clear l F n c)
  |(refine zF (by rfl) (by rfl) (enters_of Tryz.func145 (by kernel_rfl) rfl) (by simp[Act.eval]) (S.out _ _ (za (za (below_alloc1 wg (.cells #[.slice (some Al) nl cl,.slice (some Af) nf cf] 37)) (below_alloc1 _ (.cells #[.int .i64 mod,.int .i64 2,.int .i64 id,.int .i64 2] 177))) (zb _)) (((Blk.new wg 37 #[.slice (some Al) nl cl,.slice (some Af) nf cf]).alloc (.cells #[.int .i64 mod,.int .i64 2,.int .i64 id,.int .i64 2] 177)).heap (by rfl))) ?_;rintro e o ⟨v7,h7,rfl,l,F,n⟩;obtain⟨A7,c7,rfl,_,_⟩:=l.form;refine⟨_,rfl,?_⟩;have c:=za (za (za (below_alloc1 wg (.cells #[.slice (some Al) nl cl,.slice (some Af) nf cf] 37)) (below_alloc1 _ (.cells #[.int .i64 mod,.int .i64 2,.int .i64 id,.int .i64 2] 177))) (zb _)) n;have y:o.cell? ⟨g,12,none⟩=some (.pointer (some ⟨q.gl,0,none⟩)):=(c.cell (p:=⟨g,12,none⟩) d).trans x;have z:g < o.heap.size:=Nat.lt_of_lt_of_le d c.size;have N:=(World.cell?_alloc_lt o (.cells #[.int .i64 mod,.int .i64 2,.int .i64 id,.int .i64 2] 177) ⟨g,12,none⟩ z).trans y;have k:=(Blk.new (wg.alloc (.cells #[.slice (some Al) nl cl,.slice (some Af) nf cf] 37)) 177 #[.int .i64 mod,.int .i64 2,.int .i64 id,.int .i64 2]).heap (w':=((wg.alloc (.cells #[.slice (some Al) nl cl,.slice (some Af) nf cf] 37)).alloc (.cells #[.int .i64 mod,.int .i64 2,.int .i64 id,.int .i64 2] 177)).drew) (by rfl);have Y:Hid (Blk o ((wg.alloc (.cells #[.slice (some Al) nl cl,.slice (some Af) nf cf] 37)).heap.size) 177 #[.int .i64 mod,.int .i64 2,.int .i64 id,.int .i64 2]):=zdG (k.below n k.lt);clear k;have Z:Hid (wg.heap.size≤(wg.alloc (.cells #[.slice (some Al) nl cl,.slice (some Af) nf cf] 37)).heap.size):=zdG (by first|exact Nat.le_refl _|simp);have A:=zdG l;have i:=zdG c;clear l F n c)
  |(refine zF (by rfl) (by rfl) (enters_of Tryz.func99 (by kernel_rfl) rfl) (by first|(simp[Act.eval];done)|simp[Act.eval,Act.put]) (T.out _ _ _ i.out A.out) ?_;rintro e t ⟨v8,h8,rfl,m,r,f⟩;obtain⟨A8,c8,rfl,_,_⟩:=m.form;refine⟨_,rfl,?_⟩;have C:t.cell? ⟨g,12,none⟩=some (.pointer (some ⟨q.gl,0,none⟩)):=f.at_.zV;have a:=(Turned.of_below j.out i.out).trans f;have E:g < t.heap.size:=Nat.lt_of_lt_of_le d a.chg.size;have O:=(World.cell?_alloc_lt t (.cells #[.int .i64 mod,.int .i64 2,.int .i64 id,.int .i64 2] 177) ⟨g,12,none⟩ E).trans C;have a0:=zdG (Y.out.chg f.chg (fun hm=>by have h1:=j.out.lt _ hm;have h2:=Z.out;omega));have I:=zdG m;have J:Hid (∀b,h8=some b→wg.heap.size≤b):=zdG (fun b hb=>Nat.le_trans (Below.size i.out) (r b hb));have L:=zdG a;clear m r f a)
  |(refine zF (by rfl) (by rfl) (enters_of Tryz.func99 (by kernel_rfl) rfl) (by first|(simp[Act.eval];done)|simp[Act.eval,Act.put]) (T.out _ _ _ i.out A.out) ?_;rintro e t ⟨v8,h8,rfl,m,r,f⟩;obtain⟨A8,c8,rfl,_,_⟩:=m.form;refine⟨_,rfl,?_⟩;have C:t.cell? ⟨g,12,none⟩=some (.pointer (some ⟨q.gl,0,none⟩)):=f.at_.zV;have a:=(Turned.of_below j.out i.out).trans f;have E:g < t.heap.size:=Nat.lt_of_lt_of_le d a.chg.size;have O:=(World.cell?_alloc_lt t (.cells #[.int .i64 mod,.int .i64 2,.int .i64 id,.int .i64 2] 177) ⟨g,12,none⟩ E).trans C;have I:=zdG m;have J:Hid (∀b,h8=some b→wg.heap.size≤b):=zdG (fun b hb=>Nat.le_trans (Below.size i.out) (r b hb));have L:=zdG a;clear m r f a)
  |(refine zF (by rfl) (by rfl) (enters_of Tryz.func99 (by kernel_rfl) rfl) (by first|(simp[Act.eval];done)|simp[Act.eval,Act.put]) (T.out _ _ _ (za i.out (below_alloc1 o (.cells #[.int .i64 mod,.int .i64 2,.int .i64 id,.int .i64 2] 177))) (A.out.alloc _)) ?_;rintro e t ⟨v8,h8,rfl,m,r,f⟩;obtain⟨A8,c8,rfl,_,_⟩:=m.form;refine⟨_,rfl,?_⟩;have C:t.cell? ⟨g,12,none⟩=some (.pointer (some ⟨q.gl,0,none⟩)):=f.at_.zV;have a:=(Turned.of_below j.out (za i.out (below_alloc1 o (.cells #[.int .i64 mod,.int .i64 2,.int .i64 id,.int .i64 2] 177)))).trans f;have E:g < t.heap.size:=Nat.lt_of_lt_of_le d a.chg.size;have O:=(World.cell?_alloc_lt t (.cells #[.int .i64 mod,.int .i64 2,.int .i64 id,.int .i64 2] 177) ⟨g,12,none⟩ E).trans C;have a0:=zdG ((Blk.new o 177 #[.int .i64 mod,.int .i64 2,.int .i64 id,.int .i64 2]).chg f.chg (fun hm=>by have h1:=j.out.lt _ hm;have h2:=i.out.size;omega));have I:=zdG m;have J:Hid (∀b,h8=some b→wg.heap.size≤b):=zdG (fun b hb=>Nat.le_trans (Below.size (za i.out (below_alloc1 o (.cells #[.int .i64 mod,.int .i64 2,.int .i64 id,.int .i64 2] 177)))) (r b hb));have L:=zdG a;clear m r f a)
  |(refine zx _ (by rfl) (.tmp 123) (.tmp 127) _ (by rfl) Tryz.underlying102 he a3 a4 a5 rfl (by omega) (I.out.alloc _) (by first|(simp[Act.eval];done)|simp[Act.eval,Act.put]) t.heap.size #[.int .i64 mod,.int .i64 2,.int .i64 id,.int .i64 2] (e':=177) (fr:=(0,0)) (heap_alloc_new t _) 1 1 (by first|(simp[Act.eval];done)|simp[Act.eval,Act.put]) (by rfl) (by simp[Value.oneCell']) (by unfold maxLen;omega) (by omega) ?_;intro v2 h2 w9 u G H;obtain⟨aa,ab,rfl,_,_⟩:=u.form;obtain⟨w,s⟩:=UY (e:=(es++[⟨mod,2,id,2⟩])) j.out L.out J.out (below_alloc1 t _) (by rw[zP];exact u) G H (by rw[List.length_append,X.out];rfl) (by omega) M.out;have a9:w9.cell? ⟨g,12,none⟩=some (.pointer (some ⟨q.gl,0,none⟩)):=w.at_.zV;have a1:=zdG w;have P:=zdG s;clear u G H w s)
  |(refine zx _ (by rfl) (.tmp 123) (.tmp 127) _ (by rfl) Tryz.underlying102 he a3 a4 a5 rfl (by omega) I.out (by first|(simp[Act.eval];done)|simp[Act.eval,Act.put]) _ #[.int .i64 mod,.int .i64 2,.int .i64 id,.int .i64 2] (e':=177) (fr:=(0,0)) a0.out 1 1 (by first|(simp[Act.eval];done)|simp[Act.eval,Act.put]) (by rfl) (by simp[Value.oneCell']) (by unfold maxLen;omega) (by omega) ?_;intro v2 h2 w9 u G H;obtain⟨aa,ab,rfl,_,_⟩:=u.form;obtain⟨w,s⟩:=UY (e:=(es++[⟨mod,2,id,2⟩])) j.out L.out J.out (Below.refl _ t) (by rw[zP];exact u) G H (by rw[List.length_append,X.out];rfl) (by omega) M.out;have a9:w9.cell? ⟨g,12,none⟩=some (.pointer (some ⟨q.gl,0,none⟩)):=w.at_.zV;have a1:=zdG w;have P:=zdG s;clear u G H w s)
  |(refine zF (by rfl) (by rfl) (enters_of Tryz.func98 (by kernel_rfl) rfl) (by first|(simp[Act.eval];done)|simp[Act.eval,Act.put]) P.out ?_;rintro e ad ⟨rfl,ae,Q⟩;refine⟨_,rfl,?_⟩;have a2:=zdG Q;clear Q)
  |fail)
 all_goals exact HQ.out _ _ _ _ _ _ _ _ _ _ _ _ _ _ _ _ _ _ _ (a1.out.trans a2.out)
theorem UM {bs:List Int}(h:bs≠[]):rise bs≠[]:=by
 obtain⟨i,b⟩:∃i,i∈bs:=by
  cases bs with
  |nil=>exact absurd rfl h
  |cons i r=>exact⟨i,by simp⟩
 intro e
 have a:=(vB bs i).2 b
 rw[e] at a
 cases a
def zaD (x:Acc)(id:Int)(i:Nat)(p:zX)(fr lf:List Int):Acc:=
 {x with clock:=x.clock+1,boxes:=zf (x.clock+1) (rise (lf++fr)) (numbers fr x.boxes).1,mails:=x.mails.set i {p with members:=uL ((p.members.filter fun p=>!decide (p.1∈lf))++(numbers fr x.boxes).2),mod:=x.clock+1},log:=x.log.add (zn (x.clock+1) (rise (lf++fr))++[⟨x.clock+1,2,id,2⟩])}
theorem place_ok (w:World)(g:Nat)(q:zl)(x:Acc)(id:Int)(bs:List Int)(vb:Value)(Sb:List Nat)(h:zh w g q x)(hf:Fit x)(hr:RdS w Sb 1 vb bs.length (bs.map encI))(hbl:bs.length≤1099511627776)(hne:bs≠[])(i:Nat)(hi:i < q.ms.length)(hpl:place (fun m:zR=>decide (m.p.id=id)) q.ms=(i:Int))(hw:((rise bs).any fun id=>!zu x.boxes id)=false)(m0:zR)(hm0:q.ms[i]=m0)(fr lf:List Int)(hfr:((rise bs).filter fun b=>!decide (b∈yF m0.p.members))=fr)(hlf:((yF m0.p.members).filter fun b=>!decide (b∈rise bs))=lf)(hsome:0 < fr.length+lf.length)(hen:¬x.cfg.maxMod≤x.clock)(hsp:fr.any x.spent=false) :
  Calls Tryz.prog 53 #[.pointer (some ⟨g,0,none⟩),.int .i64 id,vb] w fun e w'=>e=.returned (.int .i64 0)∧∃q',Turned w w' g q (zaD x id i m0.p fr lf) q':=by
 have H:=zdG h
 have HF:=zdG hf
 have am:=zdG hfr
 have an:=zdG hlf
 have i8:=zdG hne
 have cy:rise bs≠[]:=UM hne
 have eu:=zdG cy
 have i9:=zdG hsp
 clear cy
 have ev:∀j∈fr,j∈ids x.boxes:=fun j hj=>by
  rw[←hfr] at hj
  have r:=(List.mem_filter.1 hj).1
  have I:=List.any_eq_false.1 hw j r
  exact(yU x.boxes j).1 (by simpa using I)
 have ao:=zdG ev
 have cz:fr.length≤(rise bs).length:=by rw[←hfr];exact List.length_filter_le _ _
 have c':lf.length≤m0.p.members.length:=by rw[←hlf];exact Nat.le_trans (List.length_filter_le _ _) (by simp[yF])
 obtain⟨Ab,cb,j3,_,_⟩:=hr.form
 subst j3
 obtain⟨nb,cp⟩:∃nb,bs.length=nb:=⟨_,rfl⟩
 have jf:0 < nb:=by
  rw[←cp]
  exact List.length_pos_iff.2 hne
 have ia:i < x.mails.length:=by rw[←h.Za];exact hi
 obtain⟨b,a,gp,hv,j4,kf,kg,gq,u⟩:=h.xu i ia hi
 rw[hm0] at u
 have ah:=h.parts _ (List.getElem_mem hi)
 rw[hm0] at ah
 obtain⟨gr,gs,gu,_,_⟩:=ah.keys.form
 obtain⟨bo,bp,gv,_,_⟩:=ah.mem.form
 have ca:m0.p∈x.mails:=by rw[←h.same,←hm0];exact List.mem_map_of_mem (List.getElem_mem hi)
 have ew:=zdG ca
 have ap:=zdG hm0
 have ib:=zdG ah
 have dv:=zdG ((hf.mail m0.p ca).mem.some_)
 have ex:=zdG hf.clock
 have ey:=zdG hf.cfg.mod
 have ez:=hf.Jp ca
 have dw:=h.mc hf id
 rw[hpl] at dw
 have k3:¬(i:Int) < 0:=by omega
 have k4:(0:Int)≤(i:Int):=by omega
 obtain⟨n,gw⟩:∃n,x.mails.length=n:=⟨_,rfl⟩
 rw[gw] at hv
 have HV:=zdG hv
 have k5:(i:Int) < (n:Int):=by omega
 have cc:x.boxes.length≤1099511627776:=by have:=hf.nb;have:=hf.clock;have:=hf.cfg.mod;omega
 have cd:(rise bs).length≤1099511627776:=Nat.le_trans (zY _) hbl
 have J:=fun W (G:Below w.heap.size w W)=>uQ W g q x (h.later G) cc bs _ Sb (hr.below G) hbl
 rw[hw] at J
 have k6:((nb:Int)==0)=false:=by simp;omega
 have f0:∀W,Below w.heap.size w W→W.cell? ⟨g,11,none⟩=some (.slice (some ⟨b,a,none⟩) n gp)∧∀j,j < 8→W.cell? ⟨b,a+i * 8+j,none⟩=(xP m0)[j]?:=fun W G=>⟨by rw[(h.later G).zU,hv],fun j hj=>(G.cell gq).trans (u j hj).1⟩
 have f1:∀W,Below w.heap.size w W→RdS W [] 2 m0.mv m0.p.members.length (zk zA m0.p.members):=fun W G=>(ah.mem.below G).sub (fun _ _ _ hm=>by cases hm)
 rw[cp] at J
 rw[cp]
 obtain⟨ns,eg⟩:∃ns,(rise bs).length=ns:=⟨_,rfl⟩
 rw[eg] at J cd
 have f2:=zdG J
 have f3:=zdG f0
 have f4:=zdG f1
 have ic:=zdG gu
 have ce:=zdG gv
 have ie:=zdG hfr
 have ig:=zdG hlf
 have a2:=zdG eg
 have d0:=zdG cz
 have aq:=zdG c'
 have dx:=zdG hsome
 clear ev J f0 f1 gu gv hfr hlf eg hpl hw hr hv u ah hm0 ca h hf hne cp gw j4 cz c' hsome
 go_enter Tryz.func53,Tryz.ntmps53
 go_upto_region 11 with(first
  |(go_at_call 126;refine dw.mono ?_;rintro e w1 ⟨rfl,eh⟩;have f6:=f2.out w1 eh;have f7:=zdG eh;clear dw eh)
  |(go_at_call 91;refine f6.mono ?_;rintro e w2 ⟨v2,I,rfl,ei,gx,d⟩;obtain⟨A2,c2,rfl,_,_⟩:=ei.form;have f8:=zdG ei;have ih:=zdG gx;have f9:=zdG (za f7.out d);clear f6 ei gx d)
  |fail)
 obtain⟨U,J⟩:∃U:World,U=w2.alloc (.cells #[.slice A2 ns c2] 37):=⟨_,rfl⟩
 rw[←J]
 obtain⟨C,hC⟩:∃C,C=w2.heap.size:=⟨_,rfl⟩
 rw[←hC]
 have dC:U.cell? ⟨C,0,none⟩=some (.slice A2 ns c2):=by rw[J,hC];exact(Blk.new w2 37 #[.slice A2 ns c2]).cell 0
 have cf:Below w.heap.size w U:=by rw[J];exact za f9.out (below_alloc1 _ _)
 have fa:Sl U 3 1 (.slice A2 ns c2) I ns ((rise bs).map encI):=by rw[J];exact f8.out.alloc _
 obtain⟨j5,u⟩:=f3.out U cf
 have b0:U.cell? ⟨b,a+i * 8,none⟩=some (.int .i64 m0.p.id):=u 0 (by omega)
 have b1:U.cell? ⟨b,a+i * 8+1,none⟩=some (.int .i64 m0.p.thread):=u 1 (by omega)
 have s:U.cell? ⟨b,a+i * 8+2,none⟩=some (.string ⟨m0.p.text.toArray⟩):=u 2 (by omega)
 have b3:U.cell? ⟨b,a+i * 8+3,none⟩=some (.int .i64 m0.p.at_):=u 3 (by omega)
 have b4:U.cell? ⟨b,a+i * 8+4,none⟩=some (.slice gr m0.p.keys.length gs):=(u 4 (by omega)).trans (by rw[←ic.out];rfl)
 have b5:U.cell? ⟨b,a+i * 8+5,none⟩=some (.slice bo m0.p.members.length bp):=(u 5 (by omega)).trans (by rw[←ce.out];rfl)
 have b6:U.cell? ⟨b,a+i * 8+6,none⟩=some (.int .i64 m0.p.mod):=u 6 (by omega)
 have b7:U.cell? ⟨b,a+i * 8+7,none⟩=some (.int .i64 m0.p.born):=u 7 (by omega)
 have fb:=uR U m0.p.id m0.p.thread m0.p.at_ m0.p.mod m0.p.born ⟨m0.p.text.toArray⟩ (.slice gr m0.p.keys.length gs) (.slice bo m0.p.members.length bp) m0.p.members (by
  have r:=f4.out U cf
  rw[ce.out] at r
  exact r) (by omega)
 have ii:=zdG cf
 have dy:=zdG fa
 have dz:=zdG dC
 clear u J hC cf fa dC
 go_upto_region 12 with(first
  |(go_at_call 129;refine fb.mono ?_;rintro e w3 ⟨v3,h3,rfl,ej,gy,ek⟩;obtain⟨A3,c3,rfl,_,_⟩:=ej.form;have fc:=zdG ej;have ij:=zdG gy;have fd:=zdG ek;clear fb ej gy ek)
  |fail)
 clear b0 b1 s b3 b4 b5 b6 b7 j5
 obtain⟨nw,cq⟩:∃nw,m0.p.members.length=nw:=⟨_,rfl⟩
 have a3:Hid ((yF m0.p.members).length=nw):=zdG (by rw[←cq];simp[yF])
 obtain⟨wb,bq⟩:∃wb:World,wb=w3.alloc (.cells #[.slice A3 m0.p.members.length c3] 37):=⟨_,rfl⟩
 rw[←bq]
 obtain⟨D,hD⟩:∃D,D=w3.heap.size:=⟨_,rfl⟩
 rw[←hD]
 have cg:Below U.heap.size U wb:=by rw[bq];exact za fd.out (below_alloc1 _ _)
 have dD:wb.cell? ⟨D,0,none⟩=some (.slice A3 nw c3):=by rw[bq,hD,←cq];exact(Blk.new w3 37 #[.slice A3 m0.p.members.length c3]).cell 0
 have dC:wb.cell? ⟨C,0,none⟩=some (.slice A2 ns c2):=(cg.cell (p:=⟨C,0,none⟩) (World.block_lt_of_cell? _ _ dz.out)).trans dz.out
 have ar:Sl wb 3 1 (.slice A2 ns c2) I (rise bs).length ((rise bs).map encI):=by rw[a2.out];exact dy.out.keep (fun s d=>cg.block s (dy.out.lt s d))
 have d1:Sl wb 3 1 (.slice A3 nw c3) h3 (yF m0.p.members).length ((yF m0.p.members).map encI):=by
  rw[a3.out,bq,←cq]
  exact fc.out.alloc _
 have ch:=xK wb (.slice A2 ns c2) (rise bs) [] (ar.reads [] (by simp)) (by rw[a2.out];exact cd)
 rw[a2.out] at ch
 have au:nw≤1099511627776:=by omega
 have ai:=zdG (za ii.out cg)
 have av:=zdG ar
 have ad:=zdG d1
 have ci:=zdG dD
 have aw:=zdG dC
 clear bq hD cg ar d1 dD cq
 go_upto_region 13 with(first
  |(go_at_call 135;refine ch.mono ?_;rintro e w4 ⟨v4,h4,rfl,gz,g',h0⟩;have d':=delBy2 (w0:=wb) (w4:=w4) (v4:=v4) (h4:=h4) (l:=rise bs) (k:=yF m0.p.members) 136 eu.out (enters_of Tryz.func136 (by kernel_rfl) rfl) (fun y W hB hr hn=>ZX y D _ _ W hB hr hn) ci.out ad.out (by rw[a3.out];exact au) (by rw[a2.out];exact gz) (by rw[a2.out];exact cd) g' h0;rw[ie.out] at d';clear ch gz h0 g')
  |(go_at_call 134;refine d'.mono ?_;rintro e w5 ⟨A5,O,c5,h5,rfl,h8,ha,hd,he⟩;have fe:=zdG hd;have N:=zdG h8;have ff:=zdG ha;have V:=zdG he;clear d' ha hd he h8)
  |fail)
 have k7:w5.cell? ⟨D,0,none⟩=some (.slice A3 nw c3):=(V.out.cell (p:=⟨D,0,none⟩) (World.block_lt_of_cell? _ _ ci.out)).trans ci.out
 have fg:w5.cell? ⟨C,0,none⟩=some (.slice A2 ns c2):=(V.out.cell (p:=⟨C,0,none⟩) (World.block_lt_of_cell? _ _ aw.out)).trans aw.out
 have fh:Sl w5 3 1 (.slice A2 ns c2) I (rise bs).length ((rise bs).map encI):=av.out.keep (fun s d=>V.out.block s (av.out.lt s d))
 have fi:Sl w5 3 1 (.slice A3 nw c3) h3 (yF m0.p.members).length ((yF m0.p.members).map encI):=ad.out.keep (fun s d=>V.out.block s (ad.out.lt s d))
 have ax:=xK w5 (.slice A3 nw c3) (yF m0.p.members) [] (fi.reads [] (by simp)) (by rw[a3.out];exact au)
 rw[a3.out] at ax
 have d2:=zdG fg
 have fj:=zdG fh
 clear fg fh fi
 go_upto_region 14 with(first
  |(go_at_call 135;refine ax.mono ?_;rintro e w6 ⟨v6,h6,rfl,hg,hl,hq⟩;have ay:=delBy2 (w0:=w5) (w4:=w6) (v4:=v6) (h4:=h6) (l:=yF m0.p.members) (k:=rise bs) 138 (by simpa[yF] using dv.out) (enters_of Tryz.func138 (by kernel_rfl) rfl) (fun y W hB hr hn=>ZR y C _ _ W hB hr hn) d2.out fj.out (by rw[a2.out];exact cd) (by rw[a3.out];exact hg) (by rw[a3.out];exact au) hl hq;rw[ig.out] at ay;clear ax hg hq hl)
  |(go_at_call 134;refine ay.mono ?_;rintro e w7 ⟨A7,F,c7,h7,rfl,ht,hu,hx,hz⟩;have fk:=zdG hx;have ik:=zdG hu;have aj:=zdG ht;have e0:=zdG hz;clear ay hu hx hz ht)
  |fail)
 obtain⟨w8,aa⟩:∃w8:World,w8=w7.alloc (.cells #[.slice (some A7) F c7] 37):=⟨_,rfl⟩
 rw[←aa]
 obtain⟨D7,br⟩:∃D7,D7=w7.heap.size:=⟨_,rfl⟩
 rw[←br]
 have d7:w8.cell? ⟨D7,0,none⟩=some (.slice (some A7) F c7):=by rw[aa,br];exact(Blk.new w7 37 #[.slice (some A7) F c7]).cell 0
 have a4:Below w.heap.size w w8:=by rw[aa];exact za (za ai.out V.out) (za e0.out (below_alloc1 _ _))
 have fl:Sl w8 3 1 (.slice (some A5) O c5) h5 O (fr.map encI):=by
  rw[aa]
  exact(ff.out.keep (fun s d=>e0.out.block s (ff.out.lt s d))).alloc _
 have d3:Sl w8 3 1 (.slice (some A7) F c7) h7 F (lf.map encI):=by
  rw[aa]
  exact ik.out.alloc _
 have d4:Blk w8 D7 37 #[.slice (some A7) F c7]:=by rw[aa,br];exact Blk.new w7 37 #[.slice (some A7) F c7]
 have d5:w.heap.size≤D7:=by rw[br];exact(za (za ai.out V.out) e0.out).size
 have az:=zdG d3
 have a':=zdG d4
 have d6:=zdG d5
 have cj:=zdG a4
 have b8:=zdG fl
 obtain⟨nt,kh,jl⟩:∃nt:Nat,(O:Int)+(F:Int)=(nt:Int)∧0 < nt:=⟨O+F,by omega,by have:=N.out;have:=aj.out;have:=dx.out;omega⟩
 have fm:O≤1099511627776:=by have:=N.out;have:=d0.out;have:=a2.out;omega
 have fn:F≤1099511627776:=by have:=aj.out;have:=aq.out;have:=a3.out;simp only[yF,List.length_map] at this;omega
 have jg:nt≤2199023255552:=by omega
 have il:((nt:Int)==0)=false:=by simp;omega
 have R:=(H.out.later a4).yo
 have c6:w8.cell? ⟨g,6,none⟩=some (.int .i64 x.cfg.maxMod):=(H.out.later a4).cells 6
 clear aa br a4 fl d3 d4 d5
 have e3:∀W,Below w8.heap.size w8 W→Calls Tryz.prog 93 #[.slice (some A5) O c5,.func (.func 94) #[.pointer (some ⟨g,0,none⟩)] #[]] W fun e w'=>e=.returned (.bool (fr.any x.spent))∧Below W.heap.size W w':=fun W G=>by
  have ba:Sl W 3 1 (.slice (some A5) O c5) h5 fr.length (fr.map encI):=by
   rw[←N.out]
   exact b8.out.keep (fun s d=>G.block s (b8.out.lt s d))
  exact Jb _ [] fr x.spent _ _ (enters_of Tryz.func94 (by kernel_rfl) rfl) W (ba.reads [] (by simp)) (by rw[←N.out];exact fm) (fun W2 d y hy=>(Vy W2 g q x (H.out.later (za (za cj.out G) d)) cc y (ao.out y hy)).mono fun e w' ⟨e1,e2⟩=>⟨e1,za d e2⟩)
 rw[hsp] at e3
 have fo:=zdG e3
 clear e3 hsp
 have ch:=ex.out
 have k8:=ey.out
 go_upto_region 20 with(first
  |(go_at_call 92;refine(yQ g x.clock x.cfg.maxMod _ ((zB (w:=w8) (by rfl) _).trans R) ((zB (w:=w8) (by rfl) _).trans c6)).mono ?_;rintro e w9 ⟨rfl,ne,rfl⟩)
  |(go_at_call 93;refine(fo.out _ (below_drewN' (Below.refl _ _) _)).mono ?_;rintro e el ⟨rfl,dm⟩;have e4:=(za (below_drewN' (Below.refl w8.heap.size w8) _) dm);have bb:=zdG e4;have ck:=zdG (H.out.later (za cj.out e4));have bc:=uo g x.clock el ck.out.yo (ck.out.frozen 9) (by omega);clear dm e4)
  |(go_at_call 95;refine bc.mono ?_;rintro e o ⟨rfl,bt⟩;have a6:=ck.out.yj 9 (.int .i64 (x.clock+1)) {x with clock:=x.clock+1} rfl rfl rfl rfl;rw[←bt] at a6;have fp:=zdG ((Turned.of_below H.out (za cj.out bb.out)).trans a6);have ae:=zdG bt;clear bc bt a6)
  |fail)
 clear d7 R c6 il
 obtain⟨z,cr⟩:∃z:Acc,z={x with clock:=x.clock+1}:=⟨_,rfl⟩
 have a6:Turned w o g q z q:=by rw[cr];exact fp.out
 have P:Hid (z.boxes=x.boxes):=zdG (by rw[cr])
 have bd:fr.Nodup:=by
  rw[←am.out]
  exact(List.filter_sublist (l:=rise bs)).nodup (xV bs)
 have d8:∀k (hk:k < fr.length),0≤zw (numbers (fr.take k) z.boxes).1 fr[k]∧zw (numbers (fr.take k) z.boxes).1 fr[k]≤4294967296:=fun k hk=>by
  rw[P.out]
  exact Zc HF.out.cfg HF.out.idsB HF.out.box (fr.take k) (bd.sublist (List.take_sublist _ _)) (fun i hi=>by
   have r:=(List.any_eq_false.1 i9.out) i (List.mem_of_mem_take hi)
   have I:¬x.cfg.maxUid < zw x.boxes i:=by simpa[Acc.spent] using r
   omega) _ (ao.out _ (List.getElem_mem hk))
 have im:=zdG d8
 have d9:Hid (∀b,h5=some b→w.heap.size≤b):=zdG (fun b G=>Nat.le_trans ai.out.size (fe.out b G))
 have fq:Hid (∀b,h7=some b→w.heap.size≤b):=zdG (fun b G=>Nat.le_trans (za ai.out V.out).size (fk.out b G))
 have fs:F≤4294967296:=by have:=aj.out;have:=aq.out;omega
 have ft:O≤4294967296:=by
  have r:=vC fr (ids x.boxes) bd (fun j hj=>ao.out j hj)
  have I:=HF.out.nb
  have h3:=N.out
  have h4:(ids x.boxes).length=x.boxes.length:=by simp[ids]
  omega
 clear d8 bd
 have k9:g < w.heap.size:=H.out.blk.lt
 have da:Sl o 3 1 (.slice (some A5) O c5) h5 O (fr.map encI):=by
  rw[ae.out]
  refine(b8.out.keep (w':=el) (fun s d=>bb.out.block s (b8.out.lt s d))).far (p:=⟨g,9,none⟩) (fun e=>?_) _
  have r:=fe.out g e
  have I:=ai.out.size
  omega
 have be:Sl o 3 1 (.slice (some A7) F c7) h7 F (lf.map encI):=by
  rw[ae.out]
  refine(az.out.keep (w':=el) (fun s d=>bb.out.block s (az.out.lt s d))).far (p:=⟨g,9,none⟩) (fun e=>?_) _
  have r:=fk.out g e
  have I:=(za ai.out V.out).size
  omega
 have db:Blk o D7 37 #[.slice (some A7) F c7]:=by
  rw[ae.out]
  refine(a'.out.below bb.out a'.out.lt).far (p:=⟨g,9,none⟩) (fun e=>?_) _
  have r:=d6.out
  have I:D7=g:=e
  omega
 have X:=a6.at_
 have fu:o.cell? ⟨g,11,none⟩=some (.slice (some ⟨b,a,none⟩) n gp):=by rw[X.zU,HV.out]
 have T:q.ms=q.ms.set i m0:=by rw[←ap.out,List.set_getElem_self]
 obtain⟨h',ab⟩:=Zt (q:=q) (m1:=m0) (by
  have r:=X
  rw[←T]
  exact r) HV.out hi
 have a5:o.cell? ⟨b,a+i * 8+5,none⟩=some (.slice bo m0.p.members.length bp):=((ab 5 (by omega)).1).trans (by rw[←ce.out];rfl)
 have a7:yD o (q.own g) m0:=by
  have r:=X.parts q.ms[i] (List.getElem_mem hi)
  rw[ap.out] at r
  exact r
 have dc:RdS o [] 2 (.slice bo m0.p.members.length bp) m0.p.members.length (zk zA m0.p.members):=by
  rw[←ce.out]
  exact a7.mem.sub (fun _ _ _ hm=>by cases hm)
 have dd:=XC o _ _ _ dc (ZI Yz _) (by omega)
 have cl:{q with ms:=q.ms.set i m0}=q:=by rw[←T]
 have io:=zdG T
 have T9:=zdG a6
 have ip:=zdG cr
 have de:=zdG da
 have a8:=zdG be
 have bf:=zdG db
 have Y:=zdG X
 have iq:=zdG a7
 have e5:=zdG ab
 clear cr a6 da be db X a7 dc T cl ab fp ae bb ck cj b8 az a' fo ib f2 f3 f4 d0 aq av ad ci aw d2 fj dy dz fd ij fc f8 ih f9 f7
 go_upto_region 21 with(fail)
 obtain⟨f,bu⟩:∃f,(m0.p.members.filter fun p=>!decide (p.1∈lf))=f:=⟨_,rfl⟩
 have K:=zdG bu
 clear fu bu
 have e6:F≤1099511627776:=fn
 have fv:∀(ak:World) (Z:Option Nat),Below o.heap.size o ak→(∀b,Z=some b→o.heap.size≤b)→∀W,Chg Z.toList ak W→∀y∈m0.p.members,Calls Tryz.prog 141 (#[.agg (zA y).toArray]++#[.pointer (some ⟨D7,0,none⟩)]) W fun e w'=>e=.returned (.bool ((fun p:Int×Int=>decide (p.1∈lf)) y))∧Below W.heap.size W w':=by
  intro ak Z G ho W hc y _
  have fw:Below o.heap.size o W:=G.trans (hc.below G.size (fun k hk=>ho k (by simpa using hk)))
  exact zax y D7 (.slice (some A7) F c7) lf W ((bf.out.below fw bf.out.lt).cell 0) (by
   have r:=(a8.out.keep (fun s d=>fw.block s (a8.out.lt s d))).reads [] (by simp)
   rw[←aj.out]
   exact r) (by rw[←aj.out];exact e6)
 have fx:=zdG fv
 clear fv
 go_upto_region 22 with(first
  |(go_at_call 140;refine dd.mono ?_;rintro e ak ⟨j6,Z,rfl,dn,bv,bw⟩;have e7:=delP_any j6 Z m0.p.members (fun p=>decide (p.1∈lf)) 141 #[.pointer (some ⟨D7,0,none⟩)] (enters_of Tryz.func141 (by kernel_rfl) rfl) ak dn (by omega) (fx.out ak Z bv bw);rw[K.out] at e7;have df:=zdG bw;have bg:=zdG bv;clear dd dn bv bw)
  |(go_at_call 139;refine e7.mono ?_;rintro e ct ⟨ki,rfl,bx,bz⟩;obtain⟨em,en,rfl,_,_⟩:=bx.form;have af:Below o.heap.size o ct:=bg.out.trans (bz.below bg.out.size (fun k hk=>df.out k (by simpa using hk)));have f5:ct.frozen? ⟨b,a+i * 8+5,none⟩=false:=(vM af (p:=⟨b,a+i * 8+5,none⟩) h').trans (e5.out 5 (by omega)).2;have ir:ct.cell? ⟨b,a+i * 8+5,none⟩=some (.slice bo m0.p.members.length bp):=(af.cell (p:=⟨b,a+i * 8+5,none⟩) h').trans a5;have fy:=zdG bx;have fz:=zdG bz;have f':=zdG af;clear e7 bx bz af)
  |fail)
 obtain⟨eo,b'⟩:∃eo:World,eo=ct.setCell ⟨b,a+i * 8+5,none⟩ (.slice em f.length en):=⟨_,rfl⟩
 rw[←b']
 have g0:Hid (X7 o eo g q z i m0 f [] (.slice em f.length en) Z):=zdG (by
  rw[b']
  exact X7.start Y.out hi ap.out HV.out ((Chg.of_below bg.out _).trans fz.out (fun k hk=>.inl hk)) df.out fy.out f'.out)
 obtain⟨c0,ag⟩:∃c0,f.length=c0:=⟨_,rfl⟩
 rw[ag] at g0
 try rw[ag]
 have bh:=zdG ag
 clear b' f5 ir a5 ag fx
 have it:c0≤4294967296:=by
  rw[←bh.out,←K.out]
  exact Nat.le_trans (List.length_filter_le _ _) ez
 obtain⟨i0,j7,j8,j9,ja⟩:=info_parts Try.infoMember2
 go_upto_block 2 with(fail)
 go_cut [] (fun wx=>∃A9 M R h9,Hid (M=(f++(numbers fr z.boxes).2).length)∧Hid (X7 o wx g q z i m0 f fr (.slice A9 M R) h9))
 case first=>
  go_wp2_with fail
  go_loopw [87] (fun iv wr=>∃(k:Nat) (A9:Option Addr) (M R:Nat) (h9:Option Nat),k≤O∧iv=.int .i64 k∧Hid (M=c0+k)∧Hid (X7 o wr g q z i m0 f (fr.take k) (.slice A9 M R) h9)) (fun iv _=>O - (intOf iv).toNat)
  case atStart=>exact⟨0,em,c0,en,Z,Nat.zero_le _,rfl,zdG rfl,g0⟩
  case round=>
   obtain⟨k,A9,M,R,h9,hk,rfl,al,HU⟩:=hrel
   by_cases j2:k < O
   ·have cm:k < fr.length:=by rw[←N.out];exact j2
    have jh:(k:Int) < (O:Int):=by omega
    have ka:(0:Int)≤(k:Int):=by omega
    have kb:IntKind.i64.wrap ((k:Int)+1)=(k:Int)+1:=IntWalk.i64_in _ (by omega)
    have hS:=de.out.fresh d9.out H.out HU.out.st.chg
    obtain⟨b3,i1,jb,_,c1,_,_,ek,dp⟩:=hS.at_ (by omega)
    injection c1 with hv1 hv2 c1
    injection hv1 with hv1
    subst hv1 c1
    clear hv2
    obtain⟨E,a0⟩:∃E,fr[k]=E:=⟨_,rfl⟩
    have cs:wr.cell? ⟨b3,i1+k,none⟩=some (.int .i64 E):=(dp k (by omega)).1.trans (by simp[cm,encI,a0])
    have dg:E∈ids (numbers (fr.take k) z.boxes).1:=by
     rw[xH,P.out,←a0]
     exact ao.out _ (List.getElem_mem cm)
    have e8:=im.out k cm
    rw[a0] at e8
    obtain⟨cu,c4⟩:∃cu,zw (numbers (fr.take k) z.boxes).1 E=cu:=⟨_,rfl⟩
    have dh:∀W,Below wr.heap.size wr W→Calls Tryz.prog 97 #[.pointer (some ⟨g,0,none⟩),.int .i64 E] W fun e w'=>e=.returned (.agg #[.int .i64 E,.int .i64 cu])∧Turned W w' g {q with ms:=q.ms.set i ⟨ZF m0.p f (fr.take k) z.boxes,m0.kv,.slice A9 M R⟩} {Xt z i m0.p f (fr.take k) with boxes:=bump E (numbers (fr.take k) z.boxes).1} {q with ms:=q.ms.set i ⟨ZF m0.p f (fr.take k) z.boxes,m0.kv,.slice A9 M R⟩}:=fun W G=>by
     have r:=Uf W g _ _ (HU.out.st.at_.later G) (by
      show (numbers (fr.take k) z.boxes).1.length≤_
      rw[yO,P.out]
      exact cc) E dg e8
     rw[←c4]
     exact r
    have bi:(f++(numbers (fr.take k) z.boxes).2).length=M:=by
     obtain⟨A,c,hv,_⟩:=HU.out.mem.form
     injection hv with _ e _
     exact e.symm
    have g1:Sl wr 56 2 (.slice A9 M R) h9 M (zk zA (f++(numbers (fr.take k) z.boxes).2)):=by
     have r:=HU.out.mem
     rw[bi] at r
     exact r
    obtain⟨kj,dq⟩:=Zt HU.out.st.at_ HV.out hi
    have cB:wr.cell? ⟨b,a+i * 8+5,none⟩=some (.slice A9 M R):=(dq 5 (by omega)).1
    have g2:M≤8589934592:=by have:=al.out;omega
    have g3:=zdG dh
    have iu:=zdG g1
    have g4:=zdG bi
    have g5:=zdG c4
    have g6:=zdG a0
    clear hS dp a0 dg e8 c4 dh bi g1 dq
    go_wp2_with fail
    go_region_law (first
     |(refine zF (by rfl) (by rfl) (enters_of Tryz.func97 (by kernel_rfl) rfl) (by simp[Act.eval,Act.put]) (g3.out _ (zb _)) ?_;rintro e cv ⟨rfl,i2⟩;refine⟨_,rfl,?_⟩;have e9:=zdG ((Turned.of_below HU.out.st.at_ (zb _)).trans i2);have iw:=zdG (iu.out.chg e9.out.chg (fun s d hm=>by have r:=Y.out.lt s hm;have I:=HU.out.new s d;omega));obtain⟨a4,c8⟩:=Zt e9.out.at_ HV.out hi;have ix:cv.cell? ⟨b,a+i * 8+5,none⟩=some (.slice A9 M R):=(c8 5 (by omega)).1;have iy:cv.frozen? ⟨b,a+i * 8+5,none⟩=false:=(c8 5 (by omega)).2;have g7:b∉h9.toList:=(fun hm=>by have I:=HU.out.new b (by simpa using hm);omega);clear i2 c8)
     |(refine zx _ (by rfl) (.tmp 95) (.tmp 99) _ (by rfl) Tryz.underlying52 j7 j8 j9 ja rfl (by omega) (iw.out.alloc _) (by simp[Act.eval]) cv.heap.size #[.int .i64 E,.int .i64 cu] (e':=56) (fr:=(0,0)) (heap_alloc_new cv _) 1 1 (by simp[Act.eval]) (by rfl) (by simp[Value.oneCell']) (by unfold maxLen;omega) (by omega) ?_;intro v2 I i3 ba cw i4;obtain⟨kk,kl,rfl,_,_⟩:=ba.form;have kc:i3.frozen? ⟨b,a+i * 8+5,none⟩=false:=(cw.frozen (p:=⟨b,a+i * 8+5,none⟩) (by simp;omega) g7).trans ((World.frozen?_alloc_past _ _ _ a4).trans iy);have kd:i3.cell? ⟨b,a+i * 8+5,none⟩=some (.slice A9 M R):=(cw.cell (p:=⟨b,a+i * 8+5,none⟩) (by simp;omega) g7).trans ((World.cell?_alloc_past _ _ _ a4).trans ix))
     |fail)
    all_goals
     have bj:=zdG (HU.out.next (id:=E) Y.out hi ap.out HV.out (e9.out.zL (below_alloc1 _ _)) (by rw[g4.out,g5.out];exact ba) cw i4)
     have bk:fr.take k++[E]=fr.take (k+1):=by rw[List.take_succ_eq_append_getElem cm,g6.out]
     rw[bk] at bj
     clear ba cw i4 bk
     go_wp2_with fail
     refine⟨?_,by simp[intOf];omega⟩
     first|exact⟨k+1,_,_,_,_,by omega,by go_num,zdG (by have:=al.out;omega),bj⟩|((repeat apply Exists.intro);exact⟨⟨k+1,_,_,_,_,by omega,by go_num,zdG (by have:=al.out;omega),bj⟩,rfl⟩)
   ·have iz:k=O:=by omega
    subst iz
    have bk:fr.take k=fr:=List.take_of_length_le (by rw[←N.out];exact Nat.le_refl _)
    rw[bk] at HU
    clear bk
    go_wp2_with fail
    go_meet
    exact⟨A9,M,R,h9,zdG (by rw[List.length_append,uz,bh.out,al.out,N.out]),HU⟩
 case rest=>
  obtain⟨A9,M,R,h9,al,HU⟩:=hcut
  obtain⟨we,rfl⟩:∃we:World,we=wc:=⟨_,rfl⟩
  obtain⟨mems,t⟩:∃mems,f++(numbers fr z.boxes).2=mems:=⟨_,rfl⟩
  have ea:(mems.map (·.1)).Nodup:=by
   rw[←t,←K.out,P.out]
   exact Q0 HF.out ew.out am.out an.out
  have cn:0 < mems.length:=by
   rw[←t,←K.out,P.out]
   exact Q9 i8.out am.out an.out
  have Q:M=mems.length:=by rw[←t];exact al.out
  have co:=HU.out.mem
  rw[t,←Q] at co
  obtain⟨b9,o9,km,i5,jc,_,_,_,_⟩:=co.at_ (by omega)
  injection jc with hv1 _ c1
  subst hv1 c1
  have g2:M≤1099511627776:=by
   rw[Q,←t,List.length_append,uz,bh.out,←N.out]
   omega
  have eb:=zas we ⟨b9,o9,none⟩ R h9 mems (by rw[←Q];exact co) ea (by omega)
  rw[←Q] at eb
  obtain⟨jd,dr⟩:=Zt HU.out.st.at_ HV.out hi
  have cE:we.cell? ⟨b,a+i * 8+5,none⟩=some (.slice (some ⟨b9,o9,none⟩) M R):=(dr 5 (by omega)).1
  have a9:=zdG t
  have i':=zdG ea
  have g8:=zdG Q
  have ji:=zdG i5
  clear t ea cn Q co dr i5
  go_upto_region 28 with(first
   |(go_at_call 142;refine eb.mono ?_;rintro e ep ⟨rfl,ds,dt⟩;have g9:=zdG ds;have ga:=zdG dt;clear eb ds dt)
   |fail)
  have ec:=HU.out.sorted (mems:=uL mems) Y.out hi ap.out ga.out (by rw[XB i'.out,a9.out]) (by rw[a9.out,←g8.out];exact g9.out)
  obtain⟨jm,ac⟩:=Zt ec.at_ HV.out hi
  have gb:ep.cell? ⟨b,a+i * 8+6,none⟩=some (.int .i64 m0.p.mod):=(ac 6 (by omega)).1
  have gc:=(ac 6 (by omega)).2
  have gd:=zdG ec
  clear ec ac cE jd
  go_upto_region 29 with(fail)
  obtain⟨wg,er⟩:∃wg:World,wg=ep.setCell ⟨b,a+i * 8+6,none⟩ (.int .i64 (x.clock+1)):=⟨_,rfl⟩
  rw[←er]
  obtain⟨m2,cx⟩:∃m2:zR,m2=⟨{m0.p with members:=uL mems,mod:=x.clock+1},m0.kv,.slice (some ⟨b9,o9,none⟩) M R⟩:=⟨_,rfl⟩
  have gf:Turned o wg g q {{Xt z i m0.p f fr with mails:=z.mails.set i {m0.p with members:=uL mems}} with mails:=(z.mails.set i {m0.p with members:=uL mems}).set i m2.p} {q with ms:=q.ms.set i m2}:=by
   rw[er]
   refine gd.out.Jj (S:=[]) (m2:=m2) rfl Y.out (Chg.refl [] ep) (by simp) HV.out hi (by omega) (by rw[cx];rfl) ?_
   have hp:=gd.out.at_.parts ⟨{m0.p with members:=uL mems},m0.kv,.slice (some ⟨b9,o9,none⟩) M R⟩ (List.mem_iff_getElem.2 ⟨i,by show i < (q.ms.set i _).length;rw[List.length_set];exact hi,List.getElem_set_self _⟩)
   rw[cx]
   exact⟨hp.keys,hp.mem,hp.tk,hp.tm⟩
  obtain⟨q3,i6⟩:∃q3:zl,q3={q with ms:=q.ms.set i m2}:=⟨_,rfl⟩
  obtain⟨L,a1⟩:∃L:Acc,L={x with clock:=x.clock+1,boxes:=(numbers fr x.boxes).1,mails:=x.mails.set i {m0.p with members:=uL mems,mod:=x.clock+1}}:=⟨_,rfl⟩
  have bl:Turned o wg g q L q3:=by
   rw[i6]
   have r:L={{Xt z i m0.p f fr with mails:=z.mails.set i {m0.p with members:=uL mems}} with mails:=(z.mails.set i {m0.p with members:=uL mems}).set i m2.p}:=by
    rw[a1,List.set_set,cx]
    unfold Xt
    rw[ip.out]
   rw[r]
   exact gf
  have ed:=T9.out.trans bl
  have ee:Sl wg 3 1 (.slice (some A5) O c5) h5 O (fr.map encI):=de.out.fresh d9.out H.out bl.chg
  have ef:Sl wg 3 1 (.slice (some A7) F c7) h7 F (lf.map encI):=a8.out.fresh fq.out H.out bl.chg
  have gg:Blk wg D7 37 #[.slice (some A7) F c7]:=bf.out.fresh d6.out H.out bl.chg
  have hD:wg.cell? ⟨D7,0,none⟩=some (.slice (some A7) F c7):=gg.cell 0
  have di:F=lf.length:=aj.out
  have dj:O=fr.length:=N.out
  have jj:F≤4294967296:=fs
  have jk:O≤4294967296:=ft
  have gh:∀W B,Below wg.heap.size wg W→Blk W B 37 #[.slice (some A7) F c7,.slice (some A5) O c5]→Calls Tryz.prog 145 #[.slice (some ⟨B,0,none⟩) 2 2] W fun e w'=>∃v h,e=.returned v∧Sl w' 3 1 v h (lf++fr).length ((lf++fr).map encI)∧(∀b,h=some b→W.heap.size≤b)∧Below W.heap.size W w':=fun W B G hB=>by
   have r:=(ef.keep (w':=W) (fun s d=>G.block s (ef.lt s d))).reads [] (by simp)
   have I:=(ee.keep (w':=W) (fun s d=>G.block s (ee.lt s d))).reads [] (by simp)
   rw[di] at r hB
   rw[dj] at I hB
   exact concat2B A7 A5 c7 c5 lf fr W W B (Below.refl _ _) hB r I (by omega) (by omega)
  have bm:∀j∈lf++fr,j∈ids L.boxes:=fun j hj=>by
   have r:ids L.boxes=ids x.boxes:=by rw[a1];exact xH _ _
   rw[r]
   rcases List.mem_append.1 hj with I|I
   ·rw[←an.out] at I
    exact HF.out.memIn ew.out j (List.mem_filter.1 I).1
   ·exact ao.out j I
  have dk:L.boxes.length≤1099511627776:=by
   have r:L.boxes.length=x.boxes.length:=by rw[a1];exact yO _ _
   rw[r]
   exact cc
  have dl:(lf++fr).length≤1099511627776:=by rw[List.length_append];omega
  have gi:∀W v h,Below wg.heap.size wg W→Sl W 3 1 v h (lf++fr).length ((lf++fr).map encI)→Calls Tryz.prog 99 #[.pointer (some ⟨g,0,none⟩),.int .i64 (x.clock+1),v] W fun e w'=>∃v' hh,e=.returned v'∧Sl w' 177 4 v' hh (rise (lf++fr)).length (zM (zn (x.clock+1) (rise (lf++fr))))∧(∀b,hh=some b→W.heap.size≤b)∧Turned W w' g q3 {L with boxes:=zf (x.clock+1) (rise (lf++fr)) L.boxes} q3:=fun W v h G hs=>
   uS W g q3 L (ed.at_.later G) dk (x.clock+1) (lf++fr) v [] (hs.reads [] (by simp)) dl bm
  have gj:L.log=x.log:=by rw[a1]
  have bn:1≤L.log.most∧L.log.most≤1099511627776∧L.log.es.length≤1099511627776:=by
   rw[gj]
   have r:=HF.out.log
   have I:=HF.out.cfg.log
   rw[r.1]
   omega
  have gk:(rise (lf++fr)).length≤4294967296:=by
   have r:=vC (rise (lf++fr)) (ids L.boxes) (xV _) (fun j hj=>bm j ((vB _ _).1 hj))
   have I:(ids L.boxes).length=x.boxes.length:=by rw[a1];simp[ids,←yO fr x.boxes]
   have h3:=HF.out.nb
   omega
  have gl:=zdG ed
  have j0:=zdG gi
  have gm:=zdG gh
  have gn:=zdG bn
  have ke:=zdG a1
  have j1:=zdG (show zaD x id i m0.p fr lf={L with boxes:=zf (x.clock+1) (rise (lf++fr)) L.boxes,log:=L.log.add (zn (x.clock+1) (rise (lf++fr))++[⟨x.clock+1,2,id,2⟩])} by
   rw[a1,←a9.out,←K.out,P.out]
   rfl)
  clear gf bl ed ee ef gg gh bm dk dl gi gj bn a1 i6 cx er gb gc di dj
  go_cut [] (fun wx=>∃et,Hid (Turned w wx g q (zaD x id i m0.p fr lf) et))
  case first=>
   refine zbW wg g D7 q3 L {L with boxes:=zf (x.clock+1) (rise (lf++fr)) L.boxes} (x.clock+1) id (rise (lf++fr)).length (lf++fr).length F O c7 c5 A7 A5 ((lf++fr).map encI) (zn (x.clock+1) (rise (lf++fr))) _ _ _ _ _ _ _ _ _ _ _ _ _ _ _ _ _ _ _ _ _ _ _ _ _ _ _ _ _ _ _ _ _ _ _ _ _ _ _ _ _ _ _ _ _ _ _ _ _ _ _ _ _ _ _ _ _ _ _ _ _ _ _ _ _ _ _ _ _ _ _ _ _ _ _ _ _ _ _ _ _ _ _ _ _ _ _ _ _ _ _ _ _ _ _ _ _ _ _ _ _ _ _ _ _ _ _ _ _ _ _ _ _ _ _ _ _ _ _ _ _ _ _ _ _ _ _ _ gl.out.at_ (yC _ _) gk gn.out hD gm.out j0.out ?_
   intro jn jo jp jq jr js jt ju jv jw jx jy jz j' k0 k1 k2 wx je du
   have go:=zdG (gl.out.trans du)
   clear du
   go_wp2_with fail
   go_meet
   exact⟨je,zdG (by rw[j1.out];exact go.out)⟩
  case rest=>
   obtain⟨et,i7⟩:=hcut
   obtain⟨wz,rfl⟩:∃wz:World,wz=wc:=⟨_,rfl⟩
   go_wp2_with fail
   go_ret
   exact⟨rfl,et,i7.out⟩
end Go.Proofs.YtfhlhdmhgheonaaGreatDoor
