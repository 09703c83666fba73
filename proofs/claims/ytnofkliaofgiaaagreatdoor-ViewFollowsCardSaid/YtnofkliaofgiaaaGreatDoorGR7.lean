/-
  The reference's reading of headers in plain words: its lines with where they begin; blanks cut off in the other order. No program in sight. The walk of the reference's Trim: blanks cut off at both ends; the world is as it was. The walk of the reference's Lines. The walk of pillarboxref1.Index from the first place on, at a text that is not empty: where it begins first; the world is as it was. The w
-/
import Derived.Test.YtnofkliaofgiaaaGreatDoorGB
import Derived.Test.YtnofkliaofgiaaaGreatDoorGE
import Derived.Test.YtnofkliaofgiaaaGreatDoorGA
import Derived.Test.YtnofkliaofgiaaaGreatDoorGRQ
import Derived.Lib.IndexLaws
import Derived.Test.YtnofkliaofgiaaaGreatDoorProg
import Derived.Deep.RegionHeld3
set_option maxRecDepth 100000
set_option maxHeartbeats 8000000
open Go.Proofs.Tryz
open Bool renaming and_eq_true→PP,false_eq_true→Px
open Exists renaming intro→OA
open Go renaming Value→Oe,World→Oc
open Go.ByteArray renaming mk_append_mk→Pj,toList_eq→Pu
open Go.Ending renaming returned→RR
open Go.IntKind renaming i64→Ov
open Go.IntWalk renaming i64_in→Og
open Go.Lib renaming cut→PY,indexByte→O0,trimLeftS→PX,trimRightS→PW,trimS→Ry,trimSuffix→PB
open Go.RowKit renaming Below→Od
open Go.RowKit.Below renaming refl→Ok
open Go.Value renaming slice→RO,string→RP
open Go.World renaming cell?_alloc_lt→Ox,size_alloc→O3
open List renaming append_assoc→O4,append_nil→Pr,dropWhile_cons→Rs,drop_eq_getElem_cons→O7,eq_nil_of_length_eq_zero→Oi,getElem?_eq_getElem→Ot,getElem_mem→Oj,length_append→Oo,length_cons→OT,length_drop→O8,length_map→Ow,length_set→Pd,length_singleton→Pf,length_take→OU,map_append→OQ,map_cons→OY,nil_append→PE,size_toArray→PC,take_of_length_le→Ou,take_succ_eq_append_getElem→Oh
open Nat renaming add_assoc→O1,le_refl→Oq,le_trans→Ol,lt_of_lt_of_le→OJ,zero_le→OE
open UInt8 renaming ofNat→OW,toNat_ofNat'→Rl
open _root_ renaming ByteArray→Oy,List→Ob,Option→OC,UInt8→Oz,decide_eq_false→OD,decide_eq_true→OS,if_neg→Om,if_pos→OG
namespace Go.Proofs.YtnofkliaofgiaaaGreatDoor
section
open Go.Lib
def Yn:Nat→Ob Oz→Nat→Ob (Nat×Ob Oz×Nat)
 |0,_,_=>[]
 |f+1,s,p=>
  if s=[] then []
  else if O0 s 10 < 0 then [(p,s,p+s.length)]
  else (p,PB (s.take (O0 s 10).toNat) [13],p+((O0 s 10).toNat+1)) :: Yn f (s.drop ((O0 s 10).toNat+1)) (p+((O0 s 10).toNat+1))
theorem cL:∀(f:Nat) (s:Ob Oz) (p:Nat),(Yn f s p).map (·.2)=xX f s p
 |0,_,_=>rfl
 |f+1,s,p=>by
  unfold Yn xX
  split
  ·rfl
  ·split
   ·rfl
   ·rw[OY,cL f]
theorem cM (f p:Nat):Yn f [] p=[]:=by
 cases f with
 |zero=>rfl
 |succ f=>unfold Yn;rw[OG rfl]
theorem mZ (f:Nat)(s:Ob Oz)(p:Nat):Yn (f+1) s p=if s=[] then []
  else if O0 s 10 < 0 then [(p,s,p+s.length)]
  else (p,PB (s.take (O0 s 10).toNat) [13],p+((O0 s 10).toNat+1)) :: Yn f (s.drop ((O0 s 10).toNat+1)) (p+((O0 s 10).toNat+1)):=rfl
theorem mY (L:Ob Oz)(f a k:Nat)(ha:a < L.length)(hak:a≤k)(hk:k≤L.length)(hno:∀j,a≤j→j < k→L[j]?≠some 10)(hat:k=L.length∨L[k]?=some 10) :
  Yn (f+1) (L.drop a) a=(a,if k=L.length then L.drop a else PB ((L.drop a).take (k - a)) [13],if k=L.length then k else k+1) :: Yn f (L.drop (if k=L.length then k else k+1)) (if k=L.length then k else k+1):=by
 have m:L.drop a≠[]:=fun h=>by
  have:=congrArg List.length h
  rw[O8,List.length_nil] at this
  omega
 rw[mZ,Om m]
 by_cases c:k=L.length
 ·subst c
  have n:O0 (L.drop a) 10= -1:=by
   have l:=indexByte_ge (L.drop a) 10
   by_cases h:O0 (L.drop a) 10= -1
   ·exact h
   ·obtain⟨o,g⟩:∃o:Nat,O0 (L.drop a) 10=o:=⟨(O0 (L.drop a) 10).toNat,O⟩
    have b:=(indexByte_some g).1
    rw[List.getElem?_drop] at b
    have i:a+o < L.length:=by
     rcases Nat.lt_or_ge (a+o) L.length with e|e
     ·exact e
     ·rw[List.getElem?_eq_none e] at b
      cases b
    exact absurd b (hno _ O i)
  rw[OG O,OG rfl,OG rfl,List.drop_length,cM,O8]
  congr 3
  omega
 ·have d:L[k]?=some 10:=by
   rcases hat with h|h
   ·exact absurd h c
   ·exact h
  have p:k < L.length:=O
  have n:O0 (L.drop a) 10=((k - a:Nat):Int):=by
   have l:=indexByte_ge (L.drop a) 10
   by_cases h:O0 (L.drop a) 10= -1
   ·have b:=indexByte_none h (k - a)
    rw[List.getElem?_drop,show a+(k - a)=k by omega] at b
    exact absurd d b
   ·obtain⟨o,g⟩:∃o:Nat,O0 (L.drop a) 10=o:=⟨(O0 (L.drop a) 10).toNat,O⟩
    obtain⟨b,i⟩:=indexByte_some g
    rw[List.getElem?_drop] at b
    have e:¬o < k - a:=fun h=>hno (a+o) O O b
    have q:¬k - a < o:=fun h=>by
     have:=i (k - a) h
     rw[List.getElem?_drop,show a+(k - a)=k by omega] at this
     exact this d
    rw[g]
    omega
  rw[n,Om O,Om c,Om c,Int.toNat_natCast,List.drop_drop,show a+(k - a+1)=k+1 by omega]
theorem bS:PB [] [13]=[]:=zD
theorem bU (t:Ob Oz):PB (t++[13]) [13]=t:=by
 unfold PB Lib.hasSuffix
 have h:([13]:Ob Oz).isSuffixOf (t++[13])=true:=by
  rw[List.isSuffixOf_iff_suffix]
  exact List.suffix_append _ _
 rw[OG h]
 simp
theorem bT (t:Ob Oz)(c:Oz)(hc:c≠13):PB (t++[c]) [13]=t++[c]:=by
 unfold PB Lib.hasSuffix
 rw[Om]
 intro h
 rw[List.isSuffixOf_iff_suffix] at h
 obtain⟨p,a⟩:=h
 have:=List.append_inj_right' a rfl
 exact hc (by simpa using this.symm)
theorem dT (cs:Ob Oz)(x:Oz)(r:Ob Oz):PW (x :: r) cs=if PW r cs=[] then (if cs.contains x then [] else [x]) else x :: PW r cs:=by
 unfold PW
 rw[List.reverse_cons,List.dropWhile_append]
 cases h:(List.dropWhile (fun b=>cs.contains b) r.reverse) with
 |nil=>
  simp only[List.isEmpty_nil,if_true,List.reverse_nil]
  by_cases a:cs.contains x=true
  ·rw[OG a,Rs,OG a]
   rfl
  ·rw[Om a,Rs,Om a]
   rfl
 |cons y z=>
  have c:(y :: z).reverse≠[]:=zv
  simp only[List.isEmpty_cons,Px,if_false,List.reverse_append,List.reverse_cons,List.reverse_nil,PE,List.singleton_append]
  rw[Om zv]
theorem Y0 (cs:Ob Oz)(x:Oz)(r:Ob Oz):PX (x :: r) cs=if cs.contains x then PX r cs else x :: r:=by
 unfold PX
 rw[Rs]
theorem lI (cs:Ob Oz):∀l:Ob Oz,Ry l cs=PW (PX l cs) cs
 |[]=>rfl
 |x :: r=>by
  have ih:=lI cs r
  unfold Ry at ih ⊢
  rw[dT,Y0 cs x r]
  by_cases hx:cs.contains x=true
  ·rw[OG hx,OG hx,←ih]
   split
   ·rename_i h
    rw[h]
   ·rw[Y0,OG hx]
  ·rw[Om hx,Om hx,dT,Om hx]
   split
   ·rw[Y0,Om hx]
   ·rw[Y0,Om hx]
theorem wN (cs:Ob Oz)(t:Ob Oz)(c:Oz):PW (t++[c]) cs=if cs.contains c then PW t cs else t++[c]:=by
 unfold PW
 rw[List.reverse_append,List.reverse_singleton,List.singleton_append,Rs]
 split
 ·rfl
 ·simp
end
section
open Go.Shelf Go.RowKit Go.Lib
attribute [local go_sem ↓] Go.wp_at_zero Go.wp_at_succ
def LZ:Oe→Nat
 |.string b=>b.size
 |_=>0
theorem Y9 (c:Oz)(k:Nat)(hk:k < 256)(h:c≠OW k):((c.toNat:Int)==(k:Int))=false:=by
 rw[beq_eq_false_iff_ne]
 intro e
 apply h
 apply UInt8.toNat_inj.1
 rw[Rl]
 omega
theorem qs (c:Oz)(h1:¬c=32)(h2:¬c=9):([32,9]:Ob Oz).contains c=false:=by
 rw[List.contains_cons,List.contains_cons]
 simp[h1,h2]
theorem DC (s:Ob Oz)(hs:s.length≤4294967296)(w:Oc) :
  C 252 #[Oa s] w fun e w'=>e=RR (RP ⟨(Ry s [32,9]).toArray⟩)∧w=w':=by
 obtain⟨d,f⟩:∃d,Ry s [32,9]=d:=⟨_,rfl⟩
 rw[f]
 rw[lI] at f
 have y:=V f
 clear f
 go_enter func252,ntmps252
 go_upto_block 0 with(fail)
 go_cut [0] (fun v wx=>∃t:Ob Oz,t.length≤4294967296∧v=RP ⟨t.toArray⟩∧Z (t=PX s [32,9])∧Z (wx=w))
 case first=>
  go_wp2_with fail
  go_loop [0] (fun v=>∃t:Ob Oz,t.length≤4294967296∧v=RP ⟨t.toArray⟩∧Z (PX t [32,9]=PX s [32,9])) (fun v=>LZ v)
  case atStart=>exact⟨s,hs,rfl,V rfl⟩
  case round=>
   obtain⟨t,k,rfl,g⟩:=hrel
   cases t with
   |nil=>
    go_wp2_with fail
    go_meet
    exact⟨[],zv,rfl,V g.o,V rfl⟩
   |cons c r=>
    have q:∀h:0 < (⟨(c :: r).toArray⟩:Oy).size,(⟨(c :: r).toArray⟩:Oy)[0]'h=c:=fun _=>rfl
    have zf:r.length≤4294967296:=by rw[OT] at k;omega
    have B:(1:Int)≤(r.length:Int)+1:=O
    have D:(⟨(c :: r).toArray⟩:Oy).extract 1 (r.length+1)=⟨r.toArray⟩:=XJ (c :: r) 1
    have b:=Y0 [32,9] c r
    by_cases i:c=32
    ·subst i
     rw[OG zD] at b
     have HN:Z (PX r [32,9]=PX s [32,9]):=V (by rw[←b];exact g.o)
     clear b k
     go_wp2_with fail
     refine⟨?_,(by show r.toArray.size < (32 :: r).toArray.size;simp)⟩
     exact IA
    ·by_cases j:c=9
     ·subst j
      rw[OG zD] at b
      have HN:Z (PX r [32,9]=PX s [32,9]):=V (by rw[←b];exact g.o)
      clear b k i
      go_wp2_with fail
      refine⟨?_,(by show r.toArray.size < (9 :: r).toArray.size;simp)⟩
      exact IA
     ·have F:((c.toNat:Int)==32)=false:=Y9 c 32 zD i
      have G:((c.toNat:Int)==9)=false:=Y9 c 9 zD j
      rw[Om (by rw[qs c i j];decide)] at b
      have HN:Z (c :: r=PX s [32,9]):=V (by rw[←b];exact g.o)
      clear b i j
      go_wp2_with fail
      go_meet
      exact⟨c :: r,k,rfl,HN,V rfl⟩
 case rest=>
  obtain⟨E,x,rfl,p,A⟩:=hcut
  have M:=A.o
  subst M
  have n:Z (PW E [32,9]=d):=V (by rw[p.o];exact y.o)
  clear y p A
  go_wp2_with fail
  go_loop [0] (fun v=>∃t:Ob Oz,t.length≤4294967296∧v=RP ⟨t.toArray⟩∧Z (PW t [32,9]=d)) (fun v=>LZ v)
  case atStart=>exact⟨E,x,rfl,n⟩
  case round=>
   clear n
   obtain⟨t,k,rfl,g⟩:=hrel
   rcases List.eq_nil_or_concat t with rfl|⟨t',c,rfl⟩
   ·have H:d=[]:=g.o.symm
    subst H
    clear g
    go_wp2_with fail
    go_ret
    exact⟨rfl,rfl⟩
   ·rw[List.concat_eq_append] at k g ⊢
    obtain⟨z,l⟩:∃z,t'++[c]=z:=⟨_,rfl⟩
    have a:=wN [32,9] t' c
    obtain⟨m,u⟩:∃m,t'.length=m:=⟨_,rfl⟩
    have Im:z.length=m+1:=by rw[←l,Oo,u];rfl
    rw[l] at k g a ⊢
    have q:∀h:m < (⟨z.toArray⟩:Oy).size,(⟨z.toArray⟩:Oy)[m]'h=c:=fun _=>by
     subst l u
     show ((t'++[c]).toArray)[t'.length]'_=c
     simp
    have D:(⟨z.toArray⟩:Oy).extract 0 m=⟨t'.toArray⟩:=by
     rw[Yw,←l,List.take_left' u]
    have L:¬z=[]:=by
     rw[←l]
     simp
    have J:z.isEmpty=false:=by
     rw[←l]
     simp
    have K:m≤4294967296:=O
    have Gi:t'.length≤4294967296:=O
    have N:Ov.wrap ((m:Int)+1 - 1)=(m:Int):=by
     exact po
    have P:(m:Int) < (m:Int)+1:=O
    have Q:(m:Int)≤(m:Int)+1:=O
    have R:(0:Int)≤(m:Int):=O
    have HM:Z (t'.length=m):=V u
    clear l u
    by_cases i:c=32
    ·subst i
     rw[OG zD] at a
     have HN:Z (PW t' [32,9]=d):=V (by rw[←a];exact g.o)
     clear a k
     exact M7
    ·by_cases j:c=9
     ·subst j
      rw[OG zD] at a
      have HN:Z (PW t' [32,9]=d):=V (by rw[←a];exact g.o)
      clear a k i
      exact M7
     ·have F:((c.toNat:Int)==32)=false:=Y9 c 32 zD i
      have G:((c.toNat:Int)==9)=false:=Y9 c 9 zD j
      rw[Om (by rw[qs c i j];decide)] at a
      have HN:Z (d=z):=V (by rw[←g.o,a])
      clear a i j g D
      go_wp2_with fail
      go_ret
      exact⟨by rw[HN.o];rfl,rfl⟩
theorem Try.infoLine7:(prog.info? 264).map (fun i=>(i.zero,i.size,i.bytes))=some (some (.agg #[I 0,RP ⟨#[]⟩,I 0]),3,32):=zQ
def sr (x:Nat×Ob Oz×Nat):Ob Oe:=[I (x.1:Nat),RP ⟨x.2.1.toArray⟩,I (x.2.2:Nat)]
theorem JX (x:Nat×Ob Oz×Nat):(sr x).length=3:=rfl
structure LnR (w wr:Oc)(L:Ob Oz)(a:Nat)(pre:Ob (Nat×Ob Oz×Nat))(f:Nat)(o:Oe)(h:OC Nat):Prop where
 sl:Sl wr 264 3 o h pre.length (zU sr pre)
 own:∀b,h=some b→w.heap.size≤b
 below:Od w w wr
 rest:Yn L.length L 0=pre++Yn f (L.drop a) a
 fuel:L.length≤a+f
 len:pre.length≤a
structure LnK (L:Ob Oz)(a k:Nat)(t:Ob Oz)(nx:Nat):Prop where
 le:a≤k
 top:k≤L.length
 no:∀j,a≤j→j < k→L[j]?≠some 10
 at_:k=L.length∨L[k]?=some 10
 text:t=if k=L.length then L.drop a else PB ((L.drop a).take (k - a)) [13]
 next:nx=if k=L.length then k else k+1
theorem LnK.LU {L:Ob Oz}{a k:Nat}{t:Ob Oz}{nx:Nat}(h:LnK L a k t nx)(ha:a < L.length):a < nx∧nx≤L.length:=by
 have b:=h.next
 have c:=h.top
 have d:=h.le
 split at b <;> omega
theorem LnR.step {w wr w7:Oc}{L:Ob Oz}{a:Nat}{pre:Ob (Nat×Ob Oz×Nat)}{f:Nat}{o:Oe}{h:OC Nat}(H:LnR w wr L a pre f o h)(ha:a < L.length){k:Nat}{t:Ob Oz}{nx:Nat}(K:LnK L a k t nx){v2:Oe}{h2:OC Nat}(hs7:Sl w7 264 3 v2 h2 (pre.length+1) (zU sr pre++sr (a,t,nx)))(hc7:NH h.toList wr w7)(ho7:h2=h∨∃g,h2=some g∧wr.heap.size≤g) :
  ∃f',LnR w w7 L nx (pre++[(a,t,nx)]) f' v2 h2:=by
 obtain⟨f',rfl⟩:∃f',f=f'+1:=⟨f - 1,by have:=H.fuel;omega⟩
 have d:=K.LU ha
 have c:=mY L f' a k ha K.le K.top K.no K.at_
 rw[←K.text,←K.next] at c
 refine⟨f',⟨?_,?_,?_,?_,?_,?_⟩⟩
 ·rw[Oo,uI]
  exact hs7
 ·intro b hb
  rcases ho7 with e|⟨g,e,hg⟩
  ·exact H.own b (by rw[←e];exact hb)
  ·rw[e] at hb
   injection hb with hb
   have:=H.below.size
   omega
 ·exact H.below.trans (hc7.below H.below.size fun b hb=>H.own b xQ)
 ·rw[H.rest,c,O4]
  rfl
 ·have:=H.fuel
  omega
 ·rw[Oo]
  have:=H.len
  simp
  omega
theorem wl (s:Oy)(hs:s.size≤4294967296)(w:Oc) :
  C 211 #[.string s,I 0,I s.size] w fun e w'=>∃v hh,e=RR v∧Sl w' 264 3 v hh (Yn s.data.toList.length s.data.toList 0).length (zU sr (Yn s.data.toList.length s.data.toList 0))∧(∀b,hh=some b→w.heap.size≤b)∧Od w w w':=by
 obtain⟨i0,hi,a8,a9,aa⟩:=info_parts Try.infoLine7
 obtain⟨L,hL⟩:∃L,s.data.toList=L:=⟨_,rfl⟩
 have a0:L.length=s.size:=by rw[←hL];simp
 have qg:=V a0
 have HL:=V hL
 have H0:Z (LnR w w L 0 [] L.length (RO none 0 0) none):=V ⟨Sl.nil _ _ _,(fun b hb=>by cases hb),Ok _ _,zv,O,Oq _⟩
 rw[hL]
 clear hL a0
 go_enter func211,ntmps211
 go_wp2_with fail
 go_loopw [1,7] (fun av o wr=>∃(a:Nat) (M:Ob (Nat×Ob Oz×Nat)) (f:Nat) (h:OC Nat),a≤s.size∧av=I (a:Nat)∧Z (LnR w wr L a M f o h)) (fun av _ _=>s.size - (intOf av).toNat)
 case atStart=>exact⟨0,[],L.length,none,OE _,rfl,H0⟩
 case round=>
  clear H0
  obtain⟨a,M,f,h,ha,rfl,A⟩:=hrel
  obtain⟨A0,ab,rfl,_,_⟩:=A.o.sl.form
  obtain⟨m,hm⟩:∃m,M.length=m:=⟨_,rfl⟩
  have HM:=V hm
  rw[hm]
  have an:m≤a:=by rw[←hm];exact A.o.len
  clear hm
  by_cases af:a < s.size
  ·have a3:(a:Int) < (s.size:Int):=O
   go_upto_block 2 with(fail)
   obtain⟨w2,a5⟩:∃w2:Oc,w2=wr:=⟨_,rfl⟩
   subst a5
   go_cut [8] (fun kv wx=>∃k:Nat,a≤k∧k≤s.size∧kv=I (k:Nat)∧Z (∀j,a≤j→j < k→L[j]?≠some 10)∧Z (k=s.size∨L[k]?=some 10)∧Z (wx=w2))
   case first=>
    go_wp2_with fail
    go_loop [8] (fun kv=>∃k:Nat,a≤k∧k≤s.size∧kv=I (k:Nat)∧Z (∀j,a≤j→j < k→L[j]?≠some 10)) (fun kv=>s.size - (intOf kv).toNat)
    case atStart=>exact⟨a,Oq _,ha,rfl,V fun j h1 h2=>by omega⟩
    case round=>
     obtain⟨k,n,hk,rfl,T⟩:=hrel
     by_cases hltk:k < s.size
     ·have Q:(k:Int) < (s.size:Int):=O
      have al:(0:Int)≤(k:Int):=O
      have a4:Ov.wrap ((k:Int)+1)=(k:Int)+1:=Og _ O
      have B:L[k]?=some s[k]:=by
       rw[←HL.o,Ot (by simpa using hltk)]
       rfl
      by_cases q:s[k]=10
      ·have hb:(((s[k]'hltk).toNat:Int) !=10)=false:=by rw[q];rfl
       have i:Z (k=s.size∨L[k]?=some 10):=V (.inr (by rw[B,q]))
       clear q B
       go_wp2_with fail
       go_meet
       exact⟨k,n,hk,rfl,T,i,V rfl⟩
      ·have hb:(((s[k]'hltk).toNat:Int) !=10)=true:=by
        rw[bne_iff_ne]
        intro e
        exact q (UInt8.toNat_inj.1 (by show _=(10:Nat);omega))
       have ow:Z (∀j,a≤j→j < k+1→L[j]?≠some 10):=V fun j h1 h2=>by
        by_cases hj:j=k
        ·subst hj
         rw[B]
         intro e
         injection e with e
         exact q e
        ·exact T.o j h1 O
       clear q B
       exact EK
     ·have Q:¬(k:Int) < (s.size:Int):=O
      have i:Z (k=s.size∨L[k]?=some 10):=V (.inl O)
      go_wp2_with fail
      go_meet
      exact⟨k,n,hk,rfl,T,i,V rfl⟩
   case rest=>
    obtain⟨k,n,hk,rfl,T,i,X⟩:=hcut
    obtain⟨we,rfl⟩:∃we:Oc,we=wc:=⟨_,rfl⟩
    have a6:=X.o
    subst a6
    clear X
    obtain⟨p,hp⟩:∃p:Oy,s.extract a k=p:=⟨_,rfl⟩
    have x:(L.drop a).take (k - a)=p.data.toList:=by rw[←hp,Lib.extract_data,HL.o]
    obtain⟨t,ht⟩:∃t:Ob Oz,p=⟨t.toArray⟩:=⟨p.data.toList,rfl⟩
    subst ht
    have x:(L.drop a).take (k - a)=t:=x
    have J:t.length≤4294967296:=by
     rw[←x,OU,O8,qg.o]
     omega
    have ad:(a:Int)≤(k:Int):=O
    have ae:(k:Int)≤(s.size:Int):=O
    have a4:Ov.wrap ((k:Int)+1)=(k:Int)+1:=Og _ O
    have HP:=V x
    clear x
    go_upto_if 33 with(fail)
    go_cut [9,10] (fun tv nv wx=>∃(P:Ob Oz) (nx:Nat),P.length≤4294967296∧tv=RP ⟨P.toArray⟩∧nv=I (nx:Nat)∧Z (LnK L a k P nx)∧Z (wx=we))
    case first=>
     by_cases am:k < s.size
     ·have Q:(k:Int) < (s.size:Int):=O
      have r:¬k=L.length:=by rw[qg.o];omega
      have hK:∀P,P=PB t [13]→Z (LnK L a k P (k+1)):=fun P h2=>V ⟨n,by rw[qg.o];exact hk,T.o,by rw[qg.o];exact i.o,by rw[Om r,HP.o,h2],by rw[Om r]⟩
      have N:=V hK
      clear hK r
      rcases List.eq_nil_or_concat t with rfl|⟨t',c,rfl⟩
      ·have d:=N.o [] bS.symm
       go_wp2_with fail
       go_meet
       exact⟨[],k+1,zv,rfl,zE,d,V rfl⟩
      ·rw[List.concat_eq_append] at hp J N HP ⊢
       obtain⟨z,K⟩:∃z,t'++[c]=z:=⟨_,rfl⟩
       obtain⟨g,F⟩:∃g,t'.length=g:=⟨_,rfl⟩
       have aq:z.length=g+1:=by rw[←K,Oo,F];rfl
       have y:c=13→PB z [13]=t':=fun h=>by rw[←K,h];exact bU t'
       have u:c≠13→PB z [13]=z:=fun h=>by rw[←K];exact bT t' c h
       rw[K] at hp J N HP ⊢
       have ac:∀h:g < (⟨z.toArray⟩:Oy).size,(⟨z.toArray⟩:Oy)[g]'h=c:=fun _=>by
        subst K F
        show ((t'++[c]).toArray)[t'.length]'_=c
        simp
       have hx:(⟨z.toArray⟩:Oy).extract 0 g=⟨t'.toArray⟩:=by
        rw[Yw,←K,List.take_left' F]
       have ao:¬z=[]:=by
        rw[←K]
        simp
       have ag:z.isEmpty=false:=by
        rw[←K]
        simp
       have a1:t'.length≤4294967296:=O
       have g1:Ov.wrap ((g:Int)+1 - 1)=(g:Int):=by
        rw[show (g:Int)+1 - 1=(g:Int) by omega]
        exact Og _ O
       have g2:(g:Int) < (g:Int)+1:=O
       have g3:(g:Int)≤(g:Int)+1:=O
       have g4:(0:Int)≤(g:Int):=O
       clear K F
       by_cases q:c=13
       ·subst q
        have d:=N.o t' (y rfl).symm
        clear y u
        go_wp2_with fail
        go_meet
        exact⟨t',k+1,a1,rfl,zE,d,V rfl⟩
       ·have d:=N.o z (u q).symm
        have hb:((c.toNat:Int)==13)=false:=Y9 c 13 zD q
        clear y u q hx
        go_wp2_with fail
        go_meet
        exact⟨z,k+1,J,rfl,zE,d,V rfl⟩
     ·have Q:¬(k:Int) < (s.size:Int):=O
      have E:k=L.length:=by rw[qg.o];omega
      have d:Z (LnK L a k t k):=V ⟨n,by rw[qg.o];exact hk,T.o,by rw[qg.o];exact i.o,by rw[OG E,←HP.o,E];exact Ou (by rw[O8];exact Oq _),by rw[OG E]⟩
      clear E
      go_wp2_with fail
      go_meet
      exact⟨t,k,J,rfl,rfl,d,V rfl⟩
    case rest=>
     obtain⟨P,nx,ap,rfl,rfl,N,X⟩:=hcut
     obtain⟨wf,rfl⟩:∃wf:Oc,wf=wc:=⟨_,rfl⟩
     have a7:=X.o
     subst a7
     have R:=N.o.LU bB
     rw[qg.o] at R
     have S:=A.o.sl
     rw[HM.o] at S
     have U:=V S
     have W:=fun w7 v2 h2 H D G=>A.o.step (w7:=w7) (v2:=v2) (h2:=h2) bB N.o H D G
     have l:=V W
     clear S X hp W
     go_wp2_with (at_builtin;refine yc rfl _ _ 261 rfl underlying261 hi a8 a9 aa rfl zD U.o rfl 1 1 rfl rfl ?_ ?_ ?_ ?_)
     ·simp[Value.oneCell']
     ·unfold maxLen
      omega
     ·omega
     ·intro v2 h2 w7 H D G
      have hN:=l.o w7 v2 h2 (by rw[HM.o];exact H) D G
      obtain⟨f',hN⟩:=hN
      have ow:=V hN
      clear hN H D G l U
      go_wp2_with fail
      refine⟨?_,zV⟩
      first|exact⟨nx,_,f',h2,R.2,rfl,ow⟩|((repeat apply OA);exact⟨⟨nx,_,f',h2,R.2,rfl,ow⟩,rfl⟩)
  ·have a2:a=s.size:=O
   subst a2
   have a3:¬(s.size:Int) < (s.size:Int):=O
   have hu:=A.o
   have he:Yn L.length L 0=M:=by
    rw[hu.rest,List.drop_of_length_le pS,cM,Pr]
   have HE:=V he
   clear he hu
   go_wp2_with fail
   go_ret
   first|refine⟨_,rfl,h,?_,A.o.own,A.o.below⟩|refine⟨_,h,rfl,?_,A.o.own,A.o.below⟩
   rw[HE.o]
   have h1:=A.o.sl
   rw[HM.o] at h1 ⊢
   exact h1
end
section
open Go.RowKit Go.Lib
theorem QF (s:Oy)(a b:Nat):(s.extract a b).data.toList=(s.data.toList.drop a).take (b - a):=by
 rw[Lib.extract_data]
theorem CQ (s sub:Oy)(k:Nat):occAt s.data.toList sub.data.toList k=true↔(s.extract k (k+sub.size)).data.toList=sub.data.toList:=by
 unfold occAt
 rw[QF,Nat.add_sub_cancel_left,List.isPrefixOf_iff_prefix,List.prefix_iff_eq_take]
 have:sub.data.toList.length=sub.size:=zv
 rw[this]
 exact⟨fun h=>h.symm,fun h=>h.symm⟩
theorem X1 (s sub:Oy)(w:Oc)(hs:s.size≤140737488351232)(hsub:sub.size≤140737488351232)(h1:1≤sub.size) :
  C 51 #[.string s,.string sub,I 0] w fun e w'=>e=RR (I (index s.data.toList sub.data.toList))∧w=w':=by
 obtain⟨c,b⟩:∃c,index s.data.toList sub.data.toList=c:=⟨_,rfl⟩
 rw[b]
 have a:=V b
 have p:s.data.toList.length=s.size:=zv
 have q:sub.data.toList.length=sub.size:=zv
 have m:=V p
 have n:=V q
 clear b p q
 go_enter func51,ntmps51
 go_wp2
 go_loop [7] (fun i=>∃k:Nat,k≤s.size+1∧i=I k∧Z (NoOcc s.data.toList sub.data.toList k)) (fun i=>s.size+1 - (RowKit.intOf i).toNat)
 case atStart=>exact⟨0,OE _,rfl,V (NoOcc.zero _ _)⟩
 case round=>
  obtain⟨k,u,rfl,g⟩:=hrel
  by_cases t:k+sub.size≤s.size
  ·cases d:occAt s.data.toList sub.data.toList k with
   |true=>
    have f:=(CQ s sub k).1 d
    have l:c=(k:Int):=by
     rw[←a.o]
     exact index_hit g.o (by rw[m.o];omega) d
    subst l
    have r:((s.extract k (k+sub.size)).toList==sub.toList)=true:=by rw[Pu,Pu,f];simp
    clear f d a
    go_wp2
    go_ret
    exact⟨rfl,rfl⟩
   |false=>
    have f:¬(s.extract k (k+sub.size)).data.toList=sub.data.toList:=fun h=>by
     rw[(CQ s sub k).2 h] at d
     cases d
    have r:((s.extract k (k+sub.size)).toList==sub.toList)=false:=by rw[Pu,Pu,beq_eq_false_iff_ne];exact f
    have j:=V (g.o.succ d)
    clear f d
    go_wp2
    go_round
    case rel=>exact⟨k+1,O,zE,j⟩
    case measure=>simp[RowKit.intOf];omega
  ·have l:c= -1:=by
    rw[←a.o]
    refine index_past ?_ g.o (by rw[m.o,n.o];omega)
    intro h
    have:=n.o
    rw[h] at this
    simp at this
    omega
   subst l
   clear a
   go_wp2
   go_ret
   exact⟨rfl,rfl⟩
end
section
open Go.Shelf Go.RowKit
attribute [local go_sem ↓] Go.wp_at_zero Go.wp_at_succ
theorem t8 (w:Oc)(v:Oe)(S:Ob Nat)(l:Ob (Ob Oz×Ob Oz))(hr:NN w S 2 v l.length (zU QD l))(name:Ob Oz)(hn:name.length≤4294967296)(hl:∀f∈l,f.1.length≤4294967296) :
  C 179 #[v,Oa name] w fun e w'=>e=RR (.tuple #[Oa ((uR l name).1),.bool (uR l name).2])∧Od w w w':=by
 have G:=fun(s:Ob Oz) (hs:s.length≤4294967296) W=>Uo ⟨s.toArray⟩ W pC
 obtain⟨A,a4,rfl,J,F⟩:=hr.form
 unfold maxLen at F
 obtain⟨n,T⟩:∃n,l.length=n:=⟨_,rfl⟩
 obtain⟨u,c⟩:∃u,uR l name=u:=⟨_,rfl⟩
 rw[c]
 obtain⟨a1,a2⟩:=u
 have F3:=V c
 have HR:=V hr
 have HL:=V hl
 rw[T] at hr J ⊢
 have a3:n≤9223372036854775807:=O
 clear J F
 clear hr hl c
 go_enter func179,ntmps179
 go_wp2_with fail
 go_loopw [6] (fun i wr=>∃k:Nat,k≤n∧i=I k∧Z (Od w w wr)∧Z (∀j (hj:j < l.length),j < k→Zn l[j].1≠Zn name)) (fun i _=>n - (intOf i).toNat)
 case atStart=>exact⟨0,OE _,rfl,V (Ok _ _),V (fun j hj h=>by omega)⟩
 case round=>
  obtain⟨k,hk,rfl,HB,HM⟩:=hrel
  by_cases a6:k < n
  ·have q:k < l.length:=O
   obtain⟨b,a,a0,U,_,_,E,_,y⟩:=HR.o.at_ O
   injection U with hva1 hvx hva3
   subst hva1 hva3
   clear hvx
   have D:Z (w.cell? (Y b (a+k * 2))=some (RP ⟨l[k].1.toArray⟩)):=V ((y (k * 2) O).trans ((yv Xd l k 0 q O).trans rfl))
   have r:Z (w.cell? (Y b (a+k * 2+1))=some (RP ⟨l[k].2.toArray⟩)):=V ((congrArg w.cell? (by rw[O1])).trans ((y (k * 2+1) O).trans ((yv Xd l k 1 q O).trans rfl)))
   have d0:wr.cell? (Y b (a+k * 2))=some (RP ⟨l[k].1.toArray⟩):=(HB.o.cell (p:=⟨b,a+k * 2,none⟩) E).trans D.o
   have z:=fun W=>G l[k].1 (HL.o _ (Oj q)) W
   have L:=fun W=>G name hn W
   have m:Zn l[k].1=Zn name→(a1,a2)=(l[k].2,true):=fun h=>F3.o.symm.trans (U3 name l k q h HM.o)
   obtain⟨x,X⟩:∃x,x=l[k]:=⟨_,rfl⟩
   have HX:=V X
   rw[←X] at d0 z m r
   obtain⟨K,x2⟩:=x
   simp only at d0 z m r
   have P:=V m
   clear y D X m
   have M:(bO ⟨K.toArray⟩).toList=Zn K:=fU
   have N:(bO ⟨name.toArray⟩).toList=Zn name:=fU
   by_cases B:Zn K=Zn name
   ·have hc:((bO ⟨K.toArray⟩).toList==(bO ⟨name.toArray⟩).toList)=true:=by rw[M,N,B];simp
    have hi:=P.o B
    injection hi with hi1 hi2
    have Q:=hi1.symm
    have R:=hi2.symm
    subst Q R
    clear M N B
    go_wp2_with (first
     |(go_at_call 172;(with_reducible refine(z _).mono ?_);rintro e w2 ⟨rfl,d⟩;have t:=V (zj HB.o d);clear z d)
     |(go_at_call 172;(with_reducible refine(L _).mono ?_);rintro e w3 ⟨rfl,g⟩;have bn:=V (zj t.o g);have z1:w3.cell? (Y b (a+k * 2+1))=some (RP ⟨x2.toArray⟩):=(bn.o.cell (p:=⟨b,a+k * 2+1,none⟩) E).trans r.o;clear L g)
     |fail)
    go_ret2
    exact⟨rfl,bn.o⟩
   ·have hc:((bO ⟨K.toArray⟩).toList==(bO ⟨name.toArray⟩).toList)=false:=by rw[M,N];simpa using B
    have Bl:Z (∀j (hj:j < l.length),j < k+1→Zn l[j].1≠Zn name):=V (by
     intro j hj a5
     by_cases H:j=k
     ·subst H
      rw[←HX.o]
      exact B
     ·exact HM.o j hj O)
    clear M N B
    go_wp2_with (first
     |(go_at_call 172;(with_reducible refine(z _).mono ?_);rintro e w2 ⟨rfl,d⟩;have t:=V (zj HB.o d);clear z d)
     |(go_at_call 172;(with_reducible refine(L _).mono ?_);rintro e w3 ⟨rfl,g⟩;have bn:=V (zj t.o g);clear L g)
     |fail)
    exact Fc
  ·exact Nd
end
section
open Go.Shelf Go.RowKit Go.Lib
attribute [local go_sem ↓] Go.wp_at_zero Go.wp_at_succ
theorem CR (L:Ob Oz)(h:index L [58] < 0):(Ub L).2=false:=by
 unfold Ub PY
 rw[Om O]
 rfl
theorem CS (L:Ob Oz)(h:index L [58]=0):(Ub L).2=false:=by
 unfold Ub PY
 rw[OG O,h]
 simp
theorem oneF_at (L:Ob Oz)(k:Nat)(hk:0 < k)(hkl:k < L.length)(h:index L [58]=(k:Int)):Ub L=((L.take k,Ry (L.drop (k+1)) [32,9]),(L.take k).all YG):=by
 unfold Ub PY
 rw[OG O,h,Int.toNat_natCast]
 have a:¬L.take k=[]:=fun e=>by
  have:=congrArg List.length e
  rw[OU,List.length_nil] at this
  omega
 simp only[Pf,a,decide_false,Bool.not_false,Bool.and_true,Bool.true_and]
 rfl
theorem all_no (L:Ob Oz)(k i:Nat)(hi:i < k)(hil:i < L.length)(h:YG L[i]=false):(L.take k).all YG=false:=by
 rw[List.all_eq_false]
 refine⟨L[i],?_,ZE⟩
 rw[List.mem_take_iff_getElem]
 exact⟨i,O,rfl⟩
def lY (L:Ob Oz)(w:Oc)(e:Ending)(w':Oc):Prop:=∃nm vl:Ob Oz,e=RR (.tuple #[.agg #[Oa nm,Oa vl],.bool (Ub L).2])∧((Ub L).2=true→(nm,vl)=(Ub L).1)∧Od w w w'
theorem U7 {L:Ob Oz}{w:Oc}(h:(Ub L).2=false):lY L w (RR (.tuple #[.agg #[RP ⟨#[]⟩,RP ⟨#[]⟩],.bool false])) (w.alloc (.cells #[RP ⟨#[]⟩,RP ⟨#[]⟩] 240)):=
 ⟨[],[],(by rw[h]),(fun e=>by rw[h] at e;cases e),zt w _⟩
theorem C6 (s:Oy)(hs:s.size≤4294967296)(w:Oc) :
  C 212 #[.string s] w (lY s.data.toList w):=by
 have h:=fun W=>X1 s ⟨#[58]⟩ W O zD zD
 obtain⟨L,z⟩:∃L,s.data.toList=L:=⟨_,rfl⟩
 have t:L.length=s.size:=by rw[←z];simp
 have u:=index_ge L [58]
 have f:=index_room L [58]
 have b:=CR L
 have c:=CS L
 have d:=oneF_at L
 have h:∀W,C 51 #[.string s,RP ⟨#[58]⟩,I 0] W fun e w'=>e=RR (I (index L [58]))∧W=w':=by
  rw[←z]
  exact h
 obtain⟨A,l⟩:∃A,index L [58]=A:=⟨_,rfl⟩
 rw[l] at h u f b c d
 have n:=V t
 rw[z]
 have E:=V z
 by_cases a3:A≤0
 ·have r:(Ub L).2=false:=by
   by_cases X:A < 0
   ·exact b X
   ·exact c O
  have Ea:=V (U7 (w:=w) r)
  clear b c d f u z t l r
  go_enter func212,ntmps212
  go_wp2_with (first
   |(go_at_call 51;refine(h _).mono ?_;rintro e w1 ⟨rfl,rfl⟩;clear h)
   |fail)
  refine bodyPost_ret (v:=.tuple #[.agg #[RP ⟨#[]⟩,RP ⟨#[]⟩],.bool false]) ?_ rfl Ea.o
  have z0:(w.alloc (.cells #[RP ⟨#[]⟩,RP ⟨#[]⟩] 240)).cell? (Y w.heap.size 0)=some (RP ⟨#[]⟩):=(NG.new w 240 #[RP ⟨#[]⟩,RP ⟨#[]⟩]).cell 0
  have z1:(w.alloc (.cells #[RP ⟨#[]⟩,RP ⟨#[]⟩] 240)).cell? (Y w.heap.size 1)=some (RP ⟨#[]⟩):=(NG.new w 240 #[RP ⟨#[]⟩,RP ⟨#[]⟩]).cell 1
  simp[results,Tryz.results212,go_sem,z0,z1]
 ·obtain⟨k,rfl⟩:∃k:Nat,A=k:=⟨A.toNat,O⟩
  have K:k+1≤L.length:=by have:=f O;simp at this;omega
  have J:0 < k:=O
  have y:=d k J O rfl
  have g:=V y
  rw[n.o] at K
  have S:(k:Int)≤(s.size:Int):=O
  have T:(k:Int)+1≤(s.size:Int):=O
  have a2:Ov.wrap ((k:Int)+1)=(k:Int)+1:=Og _ O
  have a4:s.extract 0 k=⟨(L.take k).toArray⟩:=by
   rw[←E.o]
   exact Yw s.data.toList k
  have a5:s.extract (k+1) s.size=⟨(L.drop (k+1)).toArray⟩:=by
   have:=XJ s.data.toList (k+1)
   rw[E.o,n.o] at this
   rw[←this,←E.o]
  have x:=fun W=>DC (L.drop (k+1)) (by rw[O8,n.o];omega) W
  generalize Ry (L.drop (k+1)) [32,9]=tr at x g
  have F:=V x
  clear b c d f u z t l y x
  go_enter func212,ntmps212
  go_upto_region 4 with(first
   |(go_at_call 51;refine(h _).mono ?_;rintro e w1 ⟨rfl,rfl⟩;clear h)
   |fail)
  go_wp2_with fail
  go_loop [5] (fun iv=>∃i:Nat,i≤k∧iv=I (i:Nat)∧Z ((L.take i).all YG=true)) (fun iv=>k - (intOf iv).toNat)
  case atStart=>exact⟨0,OE _,rfl,V zv⟩
  case round=>
   obtain⟨i,hi,rfl,N⟩:=hrel
   by_cases M:i < k
   ·have H:(i:Int) < (k:Int):=O
    have D:i < s.size:=O
    have j:i < L.length:=by rw[n.o];exact D
    have m:L[i]=s[i]:=by
     have:L[i]?=some s[i]:=by
      rw[←E.o,Ot (by simpa using D)]
      rfl
     rw[Ot j] at this
     injection this
    have a1:Ov.wrap ((i:Int)+1)=(i:Int)+1:=Og _ O
    have a0:(i:Int) < (s.size:Int):=O
    have a:=all_no L k i M j
    rw[m] at a
    have p:(L.take (i+1)).all YG=((L.take i).all YG && YG s[i]):=by
     rw[Oh j,List.all_append,m]
     simp
    by_cases y:(33:Int)≤(s[i].toNat:Int)
    ·by_cases R:(s[i].toNat:Int)≤126
     ·have q:YG s[i]=true:=aS
      have P:Z ((L.take (i+1)).all YG=true):=V (by rw[p,N.o,q];rfl)
      have Q:¬(s[i].toNat:Int) < 33:=O
      have U:¬126 < (s[i].toNat:Int):=O
      clear a p q m y R
      go_wp2_with fail
      refine⟨?_,zV⟩
      first|exact⟨i+1,O,zE,P⟩|((repeat apply OA);exact⟨⟨i+1,O,zE,P⟩,rfl⟩)
     ·have q:YG s[i]=false:=aS
      have r:=a q
      have Ea:=V (U7 (L:=L) (w:=w) (by rw[g.o];exact r))
      have Q:¬(s[i].toNat:Int) < 33:=O
      have U:126 < (s[i].toNat:Int):=O
      clear a p q m r y R
      exact Md
    ·have q:YG s[i]=false:=aS
     have r:=a q
     have Ea:=V (U7 (L:=L) (w:=w) (by rw[g.o];exact r))
     have Q:(s[i].toNat:Int) < 33:=O
     clear a p q m r y
     exact Md
   ·have G:i=k:=O
    subst G
    have H:¬(i:Int) < (i:Int):=O
    go_wp2_with fail
    go_region_with (first
     |(go_at_call 252;refine(F.o _).mono ?_;rintro e w2 ⟨rfl,rfl⟩)
     |fail)
    all_goals
     go_wp2_with fail
     have B:Z (lY L w (RR (.tuple #[.agg #[Oa (L.take i),Oa tr],.bool true])) (w.alloc (.cells #[Oa (L.take i),Oa tr] 240)).drew):=V ⟨L.take i,tr,by rw[g.o,N.o],fun _=>by rw[g.o],zj (zt w _) (zG _)⟩
     refine bodyPost_ret (v:=.tuple #[.agg #[Oa (L.take i),Oa tr],.bool true]) ?_ rfl B.o
     have z0:(w.alloc (.cells #[Oa (L.take i),Oa tr] 240)).cell? (Y w.heap.size 0)=some (RP ⟨(L.take i).toArray⟩):=(NG.new w 240 #[Oa (L.take i),Oa tr]).cell 0
     have z1:(w.alloc (.cells #[Oa (L.take i),Oa tr] 240)).cell? (Y w.heap.size 1)=some (RP ⟨tr.toArray⟩):=(NG.new w 240 #[Oa (L.take i),Oa tr]).cell 1
     simp[results,Tryz.results212,go_sem,z0,z1]
theorem dB (c:Oz)(r:Ob Oz)(h:(Ub (c :: r)).2=true):c≠32∧c≠9:=by
 have e:c∈(PY (c :: r) [58]).1:=by
  unfold Ub at h
  simp only[PP,Bool.not_eq_true',decide_eq_false_iff_not] at h
  have a:=h.2.2
  unfold PY at a ⊢
  split
  ·rename_i b
   rw[OG b] at a
   simp only at a ⊢
   cases d:(index (c :: r) [58]).toNat with
   |zero=>rw[d] at a;simp at a
   |succ k=>simp
  ·simp
 unfold Ub at h
 simp only[PP,List.all_eq_true] at h
 have b:=h.2.1 c e
 simp only[decide_eq_true_eq] at b
 constructor
 ·rintro rfl
  exact absurd b.1 zD
 ·rintro rfl
  exact absurd b.1 zD
theorem eE (s:Ob Oz)(h:vd s=true):ZV s=[]:=by
 unfold ZV
 rw[Om]
 intro b
 cases s with
 |nil=>simp[vd] at h
 |cons c r=>
  have a:=dB c r b
  simp[vd] at h
  rcases h with h|h
  ·exact a.1 h
  ·exact a.2 h
theorem AY (g:Ob (Ob Oz)):yS g=yX g:=by
 cases g with
 |nil=>rfl
 |cons x r=>
  show yX (if vd x=true then r else x :: r)=yX (x :: r)
  by_cases h:vd x=true
  ·rw[OG h,show x :: r=[x]++r from rfl,ZG,Yj,eE x h,PE]
  ·rw[Om h]
theorem iO (g:Ob (Ob Oz))(k:Nat)(hk:k < g.length):yX (g.take (k+1))=yX (g.take k)++ZV g[k]:=by
 rw[Oh hk,ZG,Yj]
theorem sF (g:Ob (Ob Oz))(k:Nat):(yX (g.take k)).length≤k:=by
 unfold yX
 exact IE
abbrev Ln3:=Nat×Ob Oz×Nat
structure NP (w wr:Oc)(ls:Ob Ln3)(n i:Nat)(g:Ob (Ob Oz))(v:Oe)(hh:OC Nat):Prop where
 sl:Sl wr 9 1 v hh g.length (g.map encStr)
 own:∀b,hh=some b→w.heap.size≤b
 below:Od w w wr
 go:vJ (ls.map (·.2)) [] n=vJ ((ls.drop i).map (·.2)) g n
 ne:∀x∈g,x≠[]
 len:g.length≤i
 pos:0 < i→g≠[]
 sum:VB g+Jh ((ls.drop i).map (·.2))≤n
structure SpE (w wr:Oc)(ls:Ob Ln3)(n:Nat)(g:Ob (Ob Oz))(b:Nat)(v:Oe)(hh:OC Nat):Prop where
 sl:Sl wr 9 1 v hh g.length (g.map encStr)
 own:∀b,hh=some b→w.heap.size≤b
 below:Od w w wr
 go:vJ (ls.map (·.2)) [] n=(g,b)
 ne:∀x∈g,x≠[]
 sum:VB g≤n
 len:g.length≤ls.length
theorem NP.head {w wr:Oc}{ls:Ob Ln3}{n i:Nat}{g:Ob (Ob Oz)}{v:Oe}{hh:OC Nat}(h:NP w wr ls n i g v hh)(hi:i < ls.length):VB g+ls[i].2.1.length≤n:=by
 have a:=h.sum
 rw[O7 hi,OY] at a
 have b:Jh (ls[i].2 :: (ls.drop (i+1)).map (·.2))=ls[i].2.1.length+Jh ((ls.drop (i+1)).map (·.2)):=by simp[Jh]
 omega
theorem NP.stop {w wr:Oc}{ls:Ob Ln3}{n i:Nat}{g:Ob (Ob Oz)}{v:Oe}{hh:OC Nat}(h:NP w wr ls n i g v hh)(hi:i < ls.length)(ht:ls[i].2.1=[]):SpE w wr ls n g ls[i].2.2 v hh:=by
 refine⟨h.sl,h.own,h.below,?_,h.ne,by have:=h.head hi;omega,by have:=h.len;omega⟩
 rw[h.go,O7 hi,OY]
 generalize ls[i].2=x at ht
 obtain⟨t,p⟩:=x
 simp only at ht
 rw[vJ,OG ht]
theorem NP.ends {w wr:Oc}{ls:Ob Ln3}{n i:Nat}{g:Ob (Ob Oz)}{v:Oe}{hh:OC Nat}(h:NP w wr ls n i g v hh)(hi:ls.length≤i)(hi2:i≤ls.length):SpE w wr ls n g n v hh:=by
 refine⟨h.sl,h.own,h.below,?_,h.ne,by have:=h.sum;omega,by have:=h.len;omega⟩
 rw[h.go,List.drop_of_length_le hi]
 rfl
theorem NP.next {w wr w7:Oc}{ls:Ob Ln3}{n i:Nat}{g:Ob (Ob Oz)}{v v2:Oe}{hh h2:OC Nat}(h:NP w wr ls n i g v hh)(hi:i < ls.length){t:Ob Oz}(ht:ls[i].2.1=t)(hne:t≠[]){g2:Ob (Ob Oz)}(hg2:uC g t=g2)(hs7:Sl w7 9 1 v2 h2 g2.length (g2.map encStr))(hc7:NH hh.toList wr w7)(ho7:h2=hh∨∃k,h2=some k∧wr.heap.size≤k):NP w w7 ls n (i+1) g2 v2 h2:=by
 subst hg2
 refine⟨hs7,?_,?_,?_,UY h.ne hne,?_,?_,?_⟩
 ·intro b hb
  rcases ho7 with e|⟨k,e,hk⟩
  ·exact h.own b (by rw[←e];exact hb)
  ·rw[e] at hb
   injection hb with hb
   have:=h.below.size
   omega
 ·exact h.below.trans (hc7.below h.below.size fun b hb=>h.own b xQ)
 ·rw[h.go,O7 hi,OY]
  generalize ls[i].2=x at ht
  obtain⟨c,p⟩:=x
  simp only at ht
  subst ht
  rw[vJ,Om hne]
 ·have a:=Vr g t
  have h2:=h.len
  omega
 ·intro _ e
  unfold uC at e
  split at e <;> simp at e
 ·have a:=h.sum
  rw[O7 hi,OY] at a
  have h2:Jh (ls[i].2 :: (ls.drop (i+1)).map (·.2))=ls[i].2.1.length+Jh ((ls.drop (i+1)).map (·.2)):=by simp[Jh]
  rw[h2,ht] at a
  rw[Y7]
  omega
structure SfR (w wr:Oc)(g:Ob (Ob Oz))(gv:Oe)(hg:OC Nat)(k:Nat)(o:Oe)(h:OC Nat):Prop where
 sl:Sl wr 240 2 o h (yX (g.take k)).length (zU QD (yX (g.take k)))
 own:∀b,h=some b→w.heap.size≤b
 below:Od w w wr
theorem SfR.same {w wr w2:Oc}{g:Ob (Ob Oz)}{gv:Oe}{hg:OC Nat}{k:Nat}{o:Oe}{h:OC Nat}(H:SfR w wr g gv hg k o h)(hb:Od wr wr w2)(he:yX (g.take (k+1))=yX (g.take k)):SfR w w2 g gv hg (k+1) o h:=by
 refine⟨?_,H.own,H.below.trans (hb.mono H.below.size)⟩
 rw[he]
 exact H.sl.keep fun b hb2=>hb.block b (H.sl.lt b hb2)
theorem SfR.push {w wr w2 w7:Oc}{g:Ob (Ob Oz)}{gv:Oe}{hg:OC Nat}{k:Nat}{o v2:Oe}{h h2:OC Nat}(H:SfR w wr g gv hg k o h)(hb:Od wr wr w2){x:Ob Oz×Ob Oz}(he:yX (g.take (k+1))=yX (g.take k)++[x])(hs7:Sl w7 240 2 v2 h2 ((yX (g.take k)).length+1) (zU QD (yX (g.take k))++QD x))(hc7:NH h.toList w2 w7)(ho7:h2=h∨∃k,h2=some k∧w2.heap.size≤k):SfR w w7 g gv hg (k+1) v2 h2:=by
 have c:=H.below.trans (hb.mono H.below.size)
 refine⟨?_,?_,c.trans (hc7.below c.size fun b hb=>H.own b xQ)⟩
 ·rw[he,Oo,uI]
  exact hs7
 ·intro b a
  rcases ho7 with e|⟨k,e,hk⟩
  ·exact H.own b (by rw[←e];exact a)
  ·rw[e] at a
   injection a with a
   have:=c.size
   omega
theorem wy (s:Oy)(hs:s.size≤2147483648)(w:Oc) :
  C 178 #[.string s,I 0,I s.size] w fun e w'=>∃v hh,e=RR (.tuple #[v,I ((vP s.data.toList).2:Nat)])∧Sl w' 240 2 v hh (vP s.data.toList).1.length (zU QD (vP s.data.toList).1)∧(∀b,hh=some b→w.heap.size≤b)∧Od w w w':=by
 obtain⟨i0,hi,bt,bu,bw⟩:=info_parts Try.infoString
 obtain⟨j0,hj,c5,c6,c7⟩:=info_parts Try.infoField
 have a9:=wl s O w
 obtain⟨L,hL⟩:∃L,s.data.toList=L:=⟨_,rfl⟩
 have bm:L.length=s.size:=by rw[←hL];simp
 rw[hL] at a9 ⊢
 have a1:=cL L.length L 0
 have a2:=YV L.length L 0
 have b7:=Z7 L.length L 0
 have ae:vP L=(yX (vJ (xX L.length L 0) [] L.length).1,(vJ (xX L.length L 0) [] L.length).2):=by
  unfold vP
  rw[AY]
 obtain⟨S,br⟩:∃S,Yn L.length L 0=S:=⟨_,rfl⟩
 rw[br] at a9 a1
 rw[←a1,Ow] at b7
 rw[←a1] at a2 ae
 rw[bm] at ae b7 a2
 obtain⟨G,hG⟩:∃G,vJ (S.map (·.2)) [] s.size=G:=⟨_,rfl⟩
 rw[hG] at ae
 rw[ae]
 have HG:=V hG
 have ar:=V a2
 obtain⟨m,hm⟩:∃m,S.length=m:=⟨_,rfl⟩
 rw[hm] at a9 b7
 have HM:=V hm
 have ct:¬(s.size:Int) < 0:=O
 have cu:¬(s.size:Int) < (s.size:Int):=O
 clear hL bm a1 br ae hG hm a2
 go_enter func178,ntmps178
 go_upto_block 0 with(first
  |(go_at_call 211;refine a9.mono ?_;rintro e w1 ⟨vl,hl,rfl,f,bs,a6⟩;have bd:=V f;have ba:=V a6;obtain⟨Al,bk,rfl,_,_⟩:=f.form;clear a9 f bs a6)
  |fail)
 have HR:Z (NN w1 [] 3 (RO Al m bk) m (zU sr S)):=V (bd.o.reads [] zv)
 have b0:Z (NP w1 w1 S s.size 0 [] (RO none 0 0) none):=V ⟨Sl.nil _ _ _,(fun b X=>by cases X),Ok _ _,zv,zv,Oq _,(fun h=>by omega),by simp only[VB,List.map_nil,List.sum_nil,List.drop_zero,Nat.zero_add];exact ar.o⟩
 clear ar
 go_cut [8,9] (fun tv bv wx=>∃(g:Ob (Ob Oz)) (b:Nat) (v:Oe) (hh:OC Nat),tv=v∧bv=I (b:Nat)∧Z (SpE w1 wx S s.size g b v hh))
 case first=>
  go_wp2_with fail
  go_loopw [8,9,11] (fun tv bv iv wr=>∃(i:Nat) (g:Ob (Ob Oz)) (hh:OC Nat),i≤m∧bv=I (s.size:Nat)∧iv=I (i:Nat)∧Z (NP w1 wr S s.size i g tv hh)) (fun _ _ iv _=>m - (intOf iv).toNat)
  case atStart=>exact⟨0,[],none,OE _,rfl,rfl,b0⟩
  case round=>
   clear b0
   obtain⟨i,g,hh,cn,rfl,rfl,A⟩:=hrel
   obtain⟨A0,y,rfl,_,_⟩:=A.o.sl.form
   by_cases af:i < m
   ·have a7:i < S.length:=by rw[HM.o];exact af
    have c4:(i:Int) < (m:Int):=O
    have co:Ov.wrap ((i:Int)+1)=(i:Int)+1:=Og _ O
    obtain⟨b1,a3,U,ag,_,_,a6,_,a4⟩:=HR.o.at_ O
    injection ag with hva1 hvx hva3
    subst hva1 hva3
    clear hvx
    have c1:wr.cell? (Y b1 (a3+i * 3+1))=some (RP ⟨S[i].2.1.toArray⟩):=(A.o.below.cell (p:=⟨b1,a3+i * 3+1,none⟩) a6).trans ((congrArg w1.cell? (by rw[O1])).trans ((a4 (i * 3+1) O).trans ((yv JX S i 1 a7 O).trans rfl)))
    have c2:wr.cell? (Y b1 (a3+i * 3+2))=some (I (S[i].2.2:Nat)):=(A.o.below.cell (p:=⟨b1,a3+i * 3+2,none⟩) a6).trans ((congrArg w1.cell? (by rw[O1])).trans ((a4 (i * 3+2) O).trans ((yv JX S i 2 a7 O).trans rfl)))
    have E:=A.o.stop a7
    have Q:=A.o.head a7
    have R:=fun w7 v2 h2 t ht ap g2 P u B D=>A.o.next (w7:=w7) (v2:=v2) (h2:=h2) (t:=t) a7 ht ap (g2:=g2) P u B D
    generalize S[i].2.2=p at c2 E
    generalize S[i].2.1=t at c1 E Q R
    obtain⟨n,hn⟩:∃n,g.length=n:=⟨_,rfl⟩
    have HN:=V hn
    have aw:=A.o.len
    have M:=A.o.pos
    rw[hn] at aw ⊢
    have an:=V E
    have a5:=V R
    clear E R a4
    rcases t with _|⟨c,r⟩
    ·have HE:=V (an.o rfl)
     clear an a5 M Q hn aw
     go_wp2_with fail
     go_meet
     exact⟨g,p,_,hh,by rw[←HN.o],rfl,HE⟩
    ·have f:=A.o.sl
     rw[hn] at f
     have z:=V f
     clear f
     have bp:∀h:0 < (⟨(c :: r).toArray⟩:Oy).size,(⟨(c :: r).toArray⟩:Oy)[0]'h=c:=fun _=>rfl
     by_cases q:g=[]∨vd (c :: r)=false
     ·have P:=VF q
      have aq:=fun w7 v2 h2 u B D=>a5.o w7 v2 h2 _ rfl zv _ P u B D
      have T:=V aq
      clear a5 aq an P c2
      by_cases h0:i=0
      ·subst h0
       simp only[Nat.zero_mul,Nat.add_zero] at c1
       have cd:n=0:=O
       subst cd
       clear q M hn
       go_wp2_with (first
        |(at_builtin;refine yc rfl _ _ 38 rfl underlying38 hi bt bu bw rfl zD z.o rfl 1 1 rfl rfl ?_ ?_ ?_ ?_)
        |fail)
       any_goals (first|(simp[Value.oneCell'];done)|(unfold maxLen;omega)|omega|rfl)
       ·intro v2 h2 w7 u B D
        have l:=V (T.o w7 v2 h2 (by rw[Oo,HN.o,OQ];exact u) B D)
        obtain⟨A7,bj,rfl,_,_⟩:=u.form
        clear u B D T z
        go_wp2_with fail
        refine⟨?_,zV⟩
        first|exact⟨1,_,h2,O,rfl,zE,l⟩|((repeat apply OA);exact⟨⟨1,_,h2,O,rfl,zE,l⟩,rfl⟩)
      ·have c0:(0:Int) < (i:Int):=O
       have b6:vd (c :: r)=false:=by
        rcases q with h|h
        ·exact absurd h (M O)
        ·exact h
       have hc:¬c=32∧¬c=9:=by
        have a0:vd (c :: r)=(decide (c=32)||decide (c=9)):=by simp[vd]
        rw[a0] at b6
        simpa using b6
       have b1:((c.toNat:Int)==32)=false:=Y9 c 32 zD hc.1
       have b2:((c.toNat:Int)==9)=false:=Y9 c 9 zD hc.2
       clear q M hn hc b6
       go_wp2_with (first
        |(at_builtin;refine yc rfl _ _ 38 rfl underlying38 hi bt bu bw rfl zD z.o rfl 1 1 rfl rfl ?_ ?_ ?_ ?_)
        |fail)
       any_goals (first|(simp[Value.oneCell'];done)|(unfold maxLen;omega)|omega|rfl)
       ·intro v2 h2 w7 u B D
        have l:=V (T.o w7 v2 h2 (by rw[Oo,HN.o,OQ];exact u) B D)
        obtain⟨A7,bj,rfl,_,_⟩:=u.form
        clear u B D T z
        go_wp2_with fail
        refine⟨?_,zV⟩
        first|exact⟨i+1,_,h2,O,rfl,zE,l⟩|((repeat apply OA);exact⟨⟨i+1,_,h2,O,rfl,zE,l⟩,rfl⟩)
     ·have X:vd (c :: r)=true:=by
       by_cases h:vd (c :: r)=true
       ·exact h
       ·exact absurd (.inr vZ) q
      have av:g≠[]:=fun e=>q (.inl e)
      obtain⟨k,rfl⟩:∃k,n=k+1:=⟨n - 1,by
       have:g.length≠0:=fun h=>av (Oi h)
       omega⟩
      have c0:(0:Int) < (i:Int):=O
      have K:k < g.length:=O
      have P:=JO hn K X
      have hc:c=32∨c=9:=by
       have a0:vd (c :: r)=(decide (c=32)||decide (c=9)):=by simp[vd]
       rw[a0] at X
       simpa using X
      obtain⟨b,cf,cg,ag,hv,_,_,a0,a4⟩:=z.o.at_ O
      injection hv with hv1 hv2 hv3
      subst hv1 hv3
      clear hv2
      obtain⟨bi,cb⟩:=a4 k O
      have ca:wr.cell? (Y b (cf+k))=some (RP ⟨g[k].toArray⟩):=bi.trans (by simp[K,encStr])
      have a8:g[k].length≤VB g:=UI (Oj K)
      have F:=z.o.store k (encStr (g[k]++c :: r))
      rw[←List.map_set] at F
      have ab:=a5.o _ _ _ _ rfl zv _ P (by rw[Pd,HN.o];exact F) ((NH.refl hh.toList wr).set (.inl (by simp[ag])) _) (.inl rfl)
      generalize g[k]=la at ca a8 ab
      have Gj:=V ab
      have g5:Ov.wrap ((k:Int)+1 - 1)=(k:Int):=IR
      have g7:(k:Int) < (k:Int)+1:=O
      have g8:(0:Int)≤(k:Int):=O
      simp only[OT] at Q
      have n2:¬9223372036854775807 < la.length+(r.length+1):=O
      have cm:=fun(a b:Ob Oz)=>Pj a b
      clear X a4 bi F ab P av q M hn a5 an z a8 c2
      rcases hc with rfl|rfl
      ·exact EF
      ·exact EF
   ·have c3:i=m:=O
    subst c3
    have c4:¬(i:Int) < (i:Int):=O
    have HE:=V (A.o.ends YP YP)
    go_wp2_with fail
    go_meet
    exact⟨g,s.size,_,hh,rfl,rfl,HE⟩
 case rest=>
  clear b0 HR
  obtain⟨g,b,v,hh,rfl,rfl,HE⟩:=hcut
  obtain⟨we,rfl⟩:∃we:Oc,we=wc:=⟨_,rfl⟩
  have b':G=(g,b):=by rw[←HG.o];exact HE.o.go
  subst b'
  obtain⟨n,hn⟩:∃n,g.length=n:=⟨_,rfl⟩
  have HN:=V hn
  have f:=HE.o.sl
  rw[hn] at f
  have ce:=HE.o.len
  rw[hn,HM.o] at ce
  have z:=V f
  obtain⟨A0,y,rfl,_,_⟩:=f.form
  have al:=V (ba.o.trans (HE.o.below.mono ba.o.size))
  have bx:Z (NN we [] 1 (RO A0 n y) n (g.map encStr)):=V (f.reads [] zv)
  have H0:Z (SfR we we g (RO A0 n y) hh 0 (RO none 0 0) none):=V ⟨Sl.nil _ _ _,(fun b X=>by cases X),Ok _ _⟩
  clear f hn bd z
  go_wp2_with fail
  go_loopw [13,14] (fun o iv wr=>∃(k:Nat) (h:OC Nat),k≤n∧iv=I (k:Nat)∧Z (SfR we wr g (RO A0 n y) hh k o h)) (fun _ iv _=>n - (intOf iv).toNat)
  case atStart=>exact⟨0,none,OE _,rfl,H0⟩
  case round=>
   clear H0
   obtain⟨k,h,hk,rfl,A⟩:=hrel
   obtain⟨A1,U,rfl,_,_⟩:=A.o.sl.form
   obtain⟨mm,ao⟩:∃mm,(yX (g.take k)).length=mm:=⟨_,rfl⟩
   have cr:mm≤k:=by rw[←ao];exact sF g k
   have am:=V ao
   rw[ao]
   clear ao
   by_cases af:k < n
   ·have K:k < g.length:=Zg
    have c9:(k:Int) < (n:Int):=O
    have cp:(0:Int)≤(k:Int):=O
    have cq:Ov.wrap ((k:Int)+1)=(k:Int)+1:=Og _ O
    obtain⟨b3,j,ch,ag,_,_,b5,_,au⟩:=bx.o.at_ O
    injection ag with hva1 hvx hva3
    subst hva1 hva3
    clear hvx
    have bc:Z (we.cell? (Y b3 (j+k))=some (RP ⟨g[k].toArray⟩)):=V ((au k O).trans (by simp[K,encStr]))
    have cs:wr.cell? (Y b3 (j+k))=some (RP ⟨g[k].toArray⟩):=(A.o.below.cell (p:=⟨b3,j+k,none⟩) b5).trans bc.o
    have ap:=HE.o.ne g[k] (Oj K)
    have cc:g[k].length≤2147483648:=Ol (UI (Oj K)) (by have:=HE.o.sum;omega)
    have d:=fun W=>C6 ⟨g[k].toArray⟩ (by show g[k].toArray.size≤_;simp;omega) W
    have d:∀W,C 212 #[Oa (g[k])] W fun e w'=>∃nm vl:Ob Oz,e=RR (.tuple #[.agg #[Oa nm,Oa vl],.bool (Ub g[k]).2])∧((Ub g[k]).2=true→(nm,vl)=(Ub g[k]).1)∧Od W W w':=d
    have J:=iO g k K
    have N:=dB
    unfold ZV at J
    clear au
    generalize g[k]=t at cs bc ap cc d J
    obtain⟨c,r,rfl⟩:∃c r,t=c :: r:=by
     cases t with
     |nil=>exact absurd rfl ap
     |cons c r=>exact⟨c,r,rfl⟩
    have N:=N c r
    generalize Ub (c :: r)=of at d J N
    obtain⟨⟨fa,fb⟩,ok⟩:=of
    simp only at d J N
    have bp:∀h:0 < (⟨(c :: r).toArray⟩:Oy).size,(⟨(c :: r).toArray⟩:Oy)[0]'h=c:=fun _=>rfl
    cases ok with
    |false=>
     have ad:yX (g.take (k+1))=yX (g.take k):=by rw[J];simp
     have b4:=V ad
     have aa:∀W,C 212 #[Oa (c :: r)] W fun e w'=>∃nm vl:Ob Oz,e=RR (.tuple #[.agg #[Oa nm,Oa vl],.bool false])∧Od W W w':=fun W=>(d W).mono fun e w' ⟨nm,vl,h1,_,h3⟩=>⟨nm,vl,h1,h3⟩
     have a':=V aa
     clear ad d J N aa
     go_wp2_with (first
      |(go_at_call 212;refine(a'.o _).mono ?_;rintro e w2 ⟨nm,vl,rfl,H⟩;have az:=V H;clear H)
      |fail)
     have l:Z (SfR we (w2.alloc (.cells #[Oa nm,Oa vl] 240)) g (RO (some (Y b3 j)) n y) hh (k+1) (RO A1 mm U) h):=V (by rw[←am.o];exact A.o.same (zj az.o (zt _ _)) b4.o)
     refine⟨?_,zV⟩
     first|exact⟨k+1,h,O,zE,l⟩|((repeat apply OA);exact⟨⟨k+1,h,O,zE,l⟩,rfl⟩)
    |true=>
     have hc:=N rfl
     have b1:((c.toNat:Int)==32)=false:=Y9 c 32 zD hc.1
     have b2:((c.toNat:Int)==9)=false:=Y9 c 9 zD hc.2
     have cj:((c.toNat:Int) !=32)=true:=by rw[bne,b1];rfl
     have ck:((c.toNat:Int) !=9)=true:=by rw[bne,b2];rfl
     have ad:yX (g.take (k+1))=yX (g.take k)++[(fa,fb)]:=by rw[J];simp
     have b4:=V ad
     have aa:∀W,C 212 #[Oa (c :: r)] W fun e w'=>e=RR (.tuple #[.agg #[Oa fa,Oa fb],.bool true])∧Od W W w':=fun W=>(d W).mono fun e w' ⟨nm,vl,h1,h2,h3⟩=>by
      have h4:=h2 rfl
      injection h4 with h5 h6
      subst h5 h6
      exact⟨h1,h3⟩
     have ac:=A.o.sl
     rw[am.o] at ac
     have bh:=V ac
     have a':=V aa
     clear ad d J N hc ac b1 b2 aa
     go_wp2_with (first
      |(go_at_call 212;refine(a'.o _).mono ?_;rintro e w2 ⟨rfl,H⟩;have az:=V H;have bz:Z (Sl w2 240 2 (RO A1 mm U) h mm (zU QD (yX (g.take k)))):=V (bh.o.keep (fun b X=>H.block b (bh.o.lt b X)));have bl:w2.cell? (Y b3 (j+k))=some (RP ⟨(c :: r).toArray⟩):=(H.cell (p:=⟨b3,j+k,none⟩) (OJ b5 A.o.below.size)).trans cs;have cl:=(Ox w2 (.cells #[Oa fa,Oa fb] 240) (Y b3 (j+k)) (OJ (OJ b5 A.o.below.size) H.size)).trans bl;clear H bl)
      |(at_builtin;refine xI rfl _ _ 209 rfl underlying209 hj c5 c6 c7 rfl zD (bz.o.alloc _) rfl (w2.heap.size+1) zv 1 1 rfl rfl ?_ ?_ ?_ ?_)
      |fail)
     any_goals (first|(simp[Value.oneCell'];done)|(unfold maxLen;omega)|omega|rfl)
     ·intro v2 h2 w5 b8 bo lu
      have l:Z (SfR we w5 g (RO (some (Y b3 j)) n y) hh (k+1) v2 h2):=V (A.o.push (x:=(fa,fb)) (zj az.o (zt _ _)) b4.o (by rw[am.o];exact b8) bo aV)
      obtain⟨A5,ci,rfl,_,_⟩:=b8.form
      clear b8 bo lu
      go_wp2_with fail
      refine⟨?_,zV⟩
      first|exact⟨k+1,h2,O,zE,l⟩|((repeat apply OA);exact⟨⟨k+1,h2,O,zE,l⟩,rfl⟩)
   ·have c8:k=n:=O
    subst c8
    have c9:¬(k:Int) < (k:Int):=O
    have hu:=A.o
    have b9:g.take k=g:=Ou V0
    have HF:Z (Sl wr 240 2 (RO A1 mm U) h (yX g).length (zU QD (yX g))):=V (by
     have h1:=hu.sl
     rw[b9] at h1
     rw[←am.o,b9]
     exact h1)
    have be:=V hu.own
    have bb:=V (al.o.trans (hu.below.mono al.o.size))
    clear hu b9
    go_wp2_with fail
    go_ret2
    first|exact⟨_,rfl,h,HF.o,fun b X=>Ol al.o.size (be.o b X),bb.o⟩|exact⟨_,h,rfl,HF.o,fun b X=>Ol al.o.size (be.o b X),bb.o⟩
end
section
open Go.Shelf Go.RowKit
attribute [local go_sem ↓] Go.wp_at_zero Go.wp_at_succ
theorem sG {l:Ob (Ob Oz×Ob Oz)}{a b:Ob Oz}(h:Zn a=Zn b):uR l a=uR l b:=by
 unfold uR
 rw[h]
theorem Bi {l:Ob (Ob Oz×Ob Oz)}{a:Ob Oz}(h:(uR l a).2=false):(uR l a).1=[]:=by
 unfold uR at h ⊢
 split
 ·rename_i f hf
  rw[hf] at h
  cases h
 ·rfl
def irtN:Ob Oz:=[73,110,45,82,101,112,108,121,45,84,111]
def midN:Ob Oz:=[77,101,115,115,97,103,101,45,73,100]
theorem QY (t name nm:Ob Oz)(ht:t.length≤2147483648)(hn:nm.length≤4294967296)(hl:Zn nm=Zn name) :
  ∃(l:Ob (Ob Oz×Ob Oz)) (bp:Nat) (ok:Bool),(ok=false→yL t name=[])∧
   (∀W,C 178 #[Oa t,I 0,I t.length] W fun e w'=>∃A n cap,e=RR (.tuple #[RO A n cap,I (bp:Nat)])∧NN w' [] 2 (RO A n cap) l.length (zU QD l)∧Od W W w')∧
   (∀W v,NN W [] 2 v l.length (zU QD l)→C 179 #[v,Oa nm] W fun e w'=>e=RR (.tuple #[Oa (yL t name),.bool ok])∧Od W W w'):=by
 refine⟨(vP t).1,(vP t).2,(uR (vP t).1 name).2,fun h=>Bi h,fun W=>?_,fun W v hr=>?_⟩
 ·have h:=wy ⟨t.toArray⟩ (by show t.toArray.size≤_;simp;omega) W
  refine Calls.mono h fun e w' ⟨v,hh,h1,h2,_,h4⟩=>?_
  obtain⟨A,cap,rfl,_,_⟩:=h2.form
  exact⟨A,_,cap,h1,h2.reads [] zv,h4⟩
 ·have h:=t8 W v [] (vP t).1 hr nm hn (fun f hf=>by have:=Q9 t f hf;omega)
  rw[sG hl] at h
  exact h
theorem ot (w:Oc)(g:Nat)(q:zW)(x:Acc)(h:zJ w g q x)(hn:x.zC.length≤1099511627776)(hm:∀m∈x.zC,m.text.length≤2147483648)(t:Ob Oz)(ht:t.length≤2147483648) :
  C 131 #[Y g 0,Oa t] w fun e w'=>e=RR (I (uN yL x t))∧Od w w w':=by
 obtain⟨F0,b8,ok,ab,au,J⟩:=QY t irt irtN ht zD zD
 have J:∀W v,NN W [] 2 v F0.length (zU QD F0)→C 179 #[v,RP ⟨#[73,110,45,82,101,112,108,121,45,84,111]⟩] W fun e w'=>e=RR (.tuple #[Oa (yL t irt),.bool ok])∧Od W W w':=J
 obtain⟨s,E⟩:∃s,uN yL x t=s:=⟨_,rfl⟩
 rw[E]
 have f:s=if yL t irt=[] then 0 else match x.zC.find? (fun m=>decide (yL m.text mid=yL t irt)) with
  |some m=>m.thread
  |none=>0:=by
  rw[←E]
  rfl
 obtain⟨z,L⟩:∃z,yL t irt=z:=⟨_,rfl⟩
 rw[L] at f ab J
 have am:z=[]→s=0:=fun e=>by rw[f,OG e]
 have an:z≠[]→s=match x.zC.find? (fun m=>decide (yL m.text mid=z)) with
  |some m=>m.thread
  |none=>0:=fun e=>by rw[f,Om e]
 have ae:=V am
 have ag:=V an
 have a3:=V au
 have a2:=V J
 have b1:=V ab
 have S:=h.xj
 have X:=h.blk.lt
 have H:=V h
 have HM:=V hm
 obtain⟨A,T,ac,_,_⟩:=h.zC.form
 rw[ac] at S
 obtain⟨n,aa⟩:∃n,x.zC.length=n:=⟨_,rfl⟩
 rw[aa] at S hn
 have HN:=V aa
 have b3:=V ac
 have M:=V S
 clear E f am an L h hm aa ac au J ab S
 cases ok with
 |false=>
  have a':=b1.o rfl
  have a5:s=0:=ae.o a'
  subst a5
  clear a'
  go_enter func131,ntmps131
  go_wp2_with (first
   |(go_at_call 178;refine(a3.o _).mono ?_;rintro e w1 ⟨As,ns,cs,rfl,K,F⟩;have N:=V F;have R:=V K;clear F K)
   |(go_at_call 179;refine(a2.o _ _ R.o).mono ?_;rintro e w2 ⟨rfl,G⟩;have P:=V (zj N.o G);clear G)
   |fail)
  go_loopw [9] (fun i wr=>i=I 0∧Z (Od w w wr)) (fun i _=>0)
  case atStart=>exact⟨rfl,P⟩
  case round=>
   obtain⟨rfl,HB⟩:=hrel
   have b0:wr.cell? (Y g 11)=some (RO A n T):=(HB.o.cell (p:=⟨g,11,none⟩) X).trans M.o
   by_cases af:0 < n
   ·have a9:(0:Int) < (n:Int):=O
    go_wp2_with fail
    go_ret
    exact⟨rfl,HB.o⟩
   ·have a9:¬(0:Int) < (n:Int):=O
    go_wp2_with fail
    go_ret
    exact⟨rfl,HB.o⟩
 |true=>
  go_enter func131,ntmps131
  go_wp2_with (first
   |(go_at_call 178;refine(a3.o _).mono ?_;rintro e w1 ⟨As,ns,cs,rfl,K,F⟩;have N:=V F;have R:=V K;clear F K)
   |(go_at_call 179;refine(a2.o _ _ R.o).mono ?_;rintro e w2 ⟨rfl,G⟩;have P:=V (zj N.o G);clear G)
   |fail)
  go_loopw [9] (fun i wr=>∃k:Nat,k≤n∧i=I (k:Nat)∧Z (Od w w wr)∧Z (z≠[]→∀j (hj:j < x.zC.length),j < k→decide (yL x.zC[j].text mid=z)=false)) (fun i _=>n - (intOf i).toNat)
  case atStart=>exact⟨0,OE _,rfl,P,V (fun _ j hj h=>by omega)⟩
  case round=>
   clear P N R a3 a2
   obtain⟨k,hk,rfl,HB,HP⟩:=hrel
   have b0:wr.cell? (Y g 11)=some (RO A n T):=(HB.o.cell (p:=⟨g,11,none⟩) X).trans M.o
   by_cases af:k < n
   ·have a9:(k:Int) < (n:Int):=O
    have ba:(0:Int)≤(k:Int):=O
    have bb:Ov.wrap ((k:Int)+1)=(k:Int)+1:=Og _ O
    have a8:k < x.zC.length:=Zg
    obtain⟨b,a,b7,m,az,a7,_,aq,a6⟩:=H.o.U8 k a8
    rw[b3.o,HN.o] at az
    injection az with hv3 hv4 hv5
    subst hv3 hv5
    clear hv4
    have a0:=HM.o _ (Oj a8)
    have B:=eG (fun m:zR=>decide (yL m.text mid=z)) x.zC k a8
    have l:(z≠[]→decide (yL x.zC[k].text mid=z)=false)→z≠[]→∀j (hj:j < x.zC.length),j < k+1→decide (yL x.zC[j].text mid=z)=false:=fun h0 L j hj hjk=>by
     by_cases ap:j=k
     ·subst ap
      exact h0 L
     ·exact HP.o L j hj O
    rw[←aq] at a0 B l
    obtain⟨p,pk,pm⟩:=m
    simp only at a0 B l
    have al:Z (w.cell? (Y b (a+k * 8+1))=some (I p.thread)):=V (a6 1 O).1
    have Q:Z (w.cell? (Y b (a+k * 8+2))=some (RP ⟨p.text.toArray⟩)):=V (a6 2 O).1
    have d2:wr.cell? (Y b (a+k * 8+2))=some (RP ⟨p.text.toArray⟩):=(HB.o.cell (p:=⟨b,a+k * 8+2,none⟩) a7).trans Q.o
    obtain⟨F1,b9,b6,_,av,U⟩:=QY p.text mid midN a0 zD zD
    have U:∀W v,NN W [] 2 v F1.length (zU QD F1)→C 179 #[v,RP ⟨#[77,101,115,115,97,103,101,45,73,100]⟩] W fun e w'=>e=RR (.tuple #[Oa (yL p.text mid),.bool b6])∧Od W W w':=U
    have d:=V B
    have u:=V l
    have a4:=V av
    have Io:=V U
    obtain⟨th,D⟩:∃th,p.thread=th:=⟨_,rfl⟩
    obtain⟨tx,aw⟩:∃tx,p.text=tx:=⟨_,rfl⟩
    rw[D] at al
    rw[aw] at d2 a4 Q Io d u
    have b2:=V D
    clear a6 B l av U a0 D aw aq
    go_upto_region 6 with(fail)
    go_cut [10] (fun v wx=>∃As ns cs,v=RO As ns cs∧Z (NN wx [] 2 (RO As ns cs) F1.length (zU QD F1))∧Z (Od w w wx))
    case first=>
     go_region_held3 (fun W=>W.cell? (Y g 11)=some (RO (some (Y b a)) n T)∧W.cell? (Y b (a+k * 8+2))=some (RP ⟨tx.toArray⟩))
      (first
       |exact⟨(a1.o.cell (p:=⟨g,11,none⟩) X).trans M.o,(a1.o.cell (p:=⟨b,a+k * 8+2,none⟩) a7).trans Q.o⟩
       |go_keep)
      (first
       |(go_at_call 178;refine(a4.o _).mono ?_;rintro e w3 ⟨As,ns,cs,rfl,ar,ao⟩;have a1:=V (zj HB.o (zj (zG wr) ao));have vg:=V ar;clear ao ar)
       |fail)
     all_goals
      go_wp2_with fail
      go_meet
      exact⟨_,_,_,rfl,vg,a1⟩
    case rest=>
     obtain⟨As,ns,cs,rfl,vg,bn⟩:=hcut
     obtain⟨w3,rfl⟩:∃w3:Oc,w3=wc:=⟨_,rfl⟩
     generalize yL tx mid=y at Io d u
     clear b0 d2 a4 Q
     rcases y with _|⟨c,r⟩
     ·have mh:=V (u.o (fun L=>OD (fun e=>L e.symm)))
      clear d u
      exact MC
     ·by_cases he:c :: r=z
      ·have ad:z≠[]:=by rw[←he];simp
       have hf:=d.o (OS he) (HP.o ad)
       have D:s=th:=by
        rw[ag.o ad,hf]
        exact b2.o
       have HT:=V D
       have b4:(c :: r==z)=true:=Ju
       clear d u hf he ad D
       go_wp2_with (first
        |(go_at_call 179;refine(Io.o _ _ vg.o).mono ?_;rintro e w4 ⟨rfl,hb4⟩;have ah:=V (zj bn.o hb4);have bc:w4.cell? (Y g 11)=some (RO (some (Y b a)) n T):=(ah.o.cell (p:=⟨g,11,none⟩) X).trans M.o;have z1:w4.cell? (Y b (a+k * 8+1))=some (I th):=(ah.o.cell (p:=⟨b,a+k * 8+1,none⟩) a7).trans al.o;clear hb4)
        |fail)
       go_ret
       exact⟨by rw[HT.o];rfl,ah.o⟩
      ·have b4:(c :: r==z)=false:=Ju
       have mh:=V (u.o (fun _=>OD he))
       clear d u he
       exact MC
   ·have b5:k=n:=O
    subst b5
    have a9:¬(k:Int) < (k:Int):=O
    have ha:s=0:=by
     by_cases L:z=[]
     ·exact ae.o L
     ·rw[ag.o L,iR _ _ (fun j hj=>HP.o L j hj (by rw[←HN.o];exact hj))]
    have HT:=V ha
    clear ha
    go_wp2_with fail
    go_ret
    exact⟨by rw[HT.o];rfl,HB.o⟩
end
end Go.Proofs.YtnofkliaofgiaaaGreatDoor
