/-
  The reference's reading of headers in plain words: its lines with where they begin; blanks cut off in the other order. No program in sight. The walk of the reference's Trim: blanks cut off at both ends; the world is as it was. The walk of the reference's Lines. The walk of pillarboxref1.Index from the first place on, at a text that is not empty: where it begins first; the world is as it was. The w
-/
import Derived.Test.YtfhlhdmhgheonaaGreatDoorGB
import Derived.Test.YtfhlhdmhgheonaaGreatDoorGE
import Derived.Test.YtfhlhdmhgheonaaGreatDoorGA
import Derived.Test.YtfhlhdmhgheonaaGreatDoorGRQ
import Derived.Lib.IndexLaws
import Derived.Test.YtfhlhdmhgheonaaGreatDoorProg
import Derived.Deep.RegionHeld3
set_option maxRecDepth 100000
set_option maxHeartbeats 8000000
namespace Go.Proofs.YtfhlhdmhgheonaaGreatDoor
open Go.Lib
def uX:Nat→List UInt8→Nat→List (Nat×List UInt8×Nat)
 |0,_,_=>[]
 |f+1,s,p=>
  if s=[] then []
  else if Lib.indexByte s 10 < 0 then [(p,s,p+s.length)]
  else (p,Lib.trimSuffix (s.take (Lib.indexByte s 10).toNat) [13],p+((Lib.indexByte s 10).toNat+1)) :: uX f (s.drop ((Lib.indexByte s 10).toNat+1)) (p+((Lib.indexByte s 10).toNat+1))
theorem Uh:∀(f:Nat) (s:List UInt8) (p:Nat),(uX f s p).map (·.2)=yH f s p
 |0,_,_=>rfl
 |f+1,s,p=>by
  unfold uX yH
  split
  ·rfl
  ·split
   ·rfl
   ·rw[List.map_cons,Uh f]
theorem Ud (f p:Nat):uX f [] p=[]:=by
 cases f with
 |zero=>rfl
 |succ f=>unfold uX;rw[if_pos rfl]
theorem zar (f:Nat)(s:List UInt8)(p:Nat):uX (f+1) s p=if s=[] then []
  else if Lib.indexByte s 10 < 0 then [(p,s,p+s.length)]
  else (p,Lib.trimSuffix (s.take (Lib.indexByte s 10).toNat) [13],p+((Lib.indexByte s 10).toNat+1)) :: uX f (s.drop ((Lib.indexByte s 10).toNat+1)) (p+((Lib.indexByte s 10).toNat+1)):=rfl
theorem zad (L:List UInt8)(f a k:Nat)(ha:a < L.length)(hak:a≤k)(hk:k≤L.length)(hno:∀j,a≤j→j < k→L[j]?≠some 10)(hat:k=L.length∨L[k]?=some 10) :
  uX (f+1) (L.drop a) a=(a,if k=L.length then L.drop a else Lib.trimSuffix ((L.drop a).take (k - a)) [13],if k=L.length then k else k+1) :: uX f (L.drop (if k=L.length then k else k+1)) (if k=L.length then k else k+1):=by
 have i:L.drop a≠[]:=fun h=>by
  have:=congrArg List.length h
  rw[List.length_drop,List.length_nil] at this
  omega
 rw[zar,if_neg i]
 by_cases c:k=L.length
 ·subst c
  have n:Lib.indexByte (L.drop a) 10= -1:=by
   have l:=indexByte_ge (L.drop a) 10
   by_cases h:Lib.indexByte (L.drop a) 10= -1
   ·exact h
   ·obtain⟨o,g⟩:∃o:Nat,Lib.indexByte (L.drop a) 10=o:=⟨(Lib.indexByte (L.drop a) 10).toNat,by omega⟩
    have b:=(indexByte_some g).1
    rw[List.getElem?_drop] at b
    have m:a+o < L.length:=by
     rcases Nat.lt_or_ge (a+o) L.length with e|e
     ·exact e
     ·rw[List.getElem?_eq_none e] at b
      cases b
    exact absurd b (hno _ (by omega) m)
  rw[if_pos (by omega),if_pos rfl,if_pos rfl,List.drop_length,Ud,List.length_drop]
  congr 3
  omega
 ·have d:L[k]?=some 10:=by
   rcases hat with h|h
   ·exact absurd h c
   ·exact h
  have p:k < L.length:=by omega
  have n:Lib.indexByte (L.drop a) 10=((k - a:Nat):Int):=by
   have l:=indexByte_ge (L.drop a) 10
   by_cases h:Lib.indexByte (L.drop a) 10= -1
   ·have b:=indexByte_none h (k - a)
    rw[List.getElem?_drop,show a+(k - a)=k by omega] at b
    exact absurd d b
   ·obtain⟨o,g⟩:∃o:Nat,Lib.indexByte (L.drop a) 10=o:=⟨(Lib.indexByte (L.drop a) 10).toNat,by omega⟩
    obtain⟨b,m⟩:=indexByte_some g
    rw[List.getElem?_drop] at b
    have e:¬o < k - a:=fun h=>hno (a+o) (by omega) (by omega) b
    have q:¬k - a < o:=fun h=>by
     have:=m (k - a) h
     rw[List.getElem?_drop,show a+(k - a)=k by omega] at this
     exact this d
    rw[g]
    omega
  rw[n,if_neg (by omega),if_neg c,if_neg c,Int.toNat_natCast,List.drop_drop,show a+(k - a+1)=k+1 by omega]
theorem VZ:Lib.trimSuffix [] [13]=[]:=by decide
theorem V7 (t:List UInt8):Lib.trimSuffix (t++[13]) [13]=t:=by
 unfold Lib.trimSuffix Lib.hasSuffix
 have h:([13]:List UInt8).isSuffixOf (t++[13])=true:=by
  rw[List.isSuffixOf_iff_suffix]
  exact List.suffix_append _ _
 rw[if_pos h]
 simp
theorem V6 (t:List UInt8)(c:UInt8)(hc:c≠13):Lib.trimSuffix (t++[c]) [13]=t++[c]:=by
 unfold Lib.trimSuffix Lib.hasSuffix
 rw[if_neg]
 intro h
 rw[List.isSuffixOf_iff_suffix] at h
 obtain⟨p,a⟩:=h
 have:=List.append_inj_right' a rfl
 exact hc (by simpa using this.symm)
theorem Uz (cs:List UInt8)(x:UInt8)(r:List UInt8):Lib.trimRightS (x :: r) cs=if Lib.trimRightS r cs=[] then (if cs.contains x then [] else [x]) else x :: Lib.trimRightS r cs:=by
 unfold Lib.trimRightS
 rw[List.reverse_cons,List.dropWhile_append]
 cases h:(List.dropWhile (fun b=>cs.contains b) r.reverse) with
 |nil=>
  simp only[List.isEmpty_nil,if_true,List.reverse_nil]
  by_cases a:cs.contains x=true
  ·rw[if_pos a,List.dropWhile_cons,if_pos a]
   rfl
  ·rw[if_neg a,List.dropWhile_cons,if_neg a]
   rfl
 |cons y z=>
  have c:(y :: z).reverse≠[]:=by simp
  simp only[List.isEmpty_cons,Bool.false_eq_true,if_false,List.reverse_append,List.reverse_cons,List.reverse_nil,List.nil_append,List.singleton_append]
  rw[if_neg (by simp)]
theorem ZK (cs:List UInt8)(x:UInt8)(r:List UInt8):Lib.trimLeftS (x :: r) cs=if cs.contains x then Lib.trimLeftS r cs else x :: r:=by
 unfold Lib.trimLeftS
 rw[List.dropWhile_cons]
theorem JS (cs:List UInt8):∀l:List UInt8,Lib.trimS l cs=Lib.trimRightS (Lib.trimLeftS l cs) cs
 |[]=>rfl
 |x :: r=>by
  have ih:=JS cs r
  unfold Lib.trimS at ih ⊢
  rw[Uz,ZK cs x r]
  by_cases hx:cs.contains x=true
  ·rw[if_pos hx,if_pos hx,←ih]
   split
   ·rename_i h
    rw[h]
   ·rw[ZK,if_pos hx]
  ·rw[if_neg hx,if_neg hx,Uz,if_neg hx]
   split
   ·rw[ZK,if_neg hx]
   ·rw[ZK,if_neg hx]
theorem zbV (cs:List UInt8)(t:List UInt8)(c:UInt8):Lib.trimRightS (t++[c]) cs=if cs.contains c then Lib.trimRightS t cs else t++[c]:=by
 unfold Lib.trimRightS
 rw[List.reverse_append,List.reverse_singleton,List.singleton_append,List.dropWhile_cons]
 split
 ·rfl
 ·simp
end Go.Proofs.YtfhlhdmhgheonaaGreatDoor
namespace Go.Proofs.YtfhlhdmhgheonaaGreatDoor
open Go.Shelf Go.RowKit Go.Lib
attribute [local go_sem ↓] Go.wp_at_zero Go.wp_at_succ
def strLen:Value→Nat
 |.string b=>b.size
 |_=>0
theorem ZN (c:UInt8)(k:Nat)(hk:k < 256)(h:c≠UInt8.ofNat k):((c.toNat:Int)==(k:Int))=false:=by
 rw[beq_eq_false_iff_ne]
 intro e
 apply h
 apply UInt8.toNat_inj.1
 rw[UInt8.toNat_ofNat']
 omega
theorem zaP (c:UInt8)(h1:¬c=32)(h2:¬c=9):([32,9]:List UInt8).contains c=false:=by
 rw[List.contains_cons,List.contains_cons]
 simp[h1,h2]
theorem zco (s:List UInt8)(hs:s.length≤4294967296)(w:World) :
  Calls Tryz.prog 257 #[.string ⟨s.toArray⟩] w fun e w'=>e=.returned (.string ⟨(Lib.trimS s [32,9]).toArray⟩)∧w=w':=by
 obtain⟨d,g⟩:∃d,Lib.trimS s [32,9]=d:=⟨_,rfl⟩
 rw[g]
 rw[JS] at g
 have C:=zdG g
 clear g
 go_enter Tryz.func257,Tryz.ntmps257
 go_upto_block 0 with(fail)
 go_cut [0] (fun v wx=>∃t:List UInt8,t.length≤4294967296∧v=.string ⟨t.toArray⟩∧Hid (t=Lib.trimLeftS s [32,9])∧Hid (wx=w))
 case first=>
  go_wp2_with fail
  go_loop [0] (fun v=>∃t:List UInt8,t.length≤4294967296∧v=.string ⟨t.toArray⟩∧Hid (Lib.trimLeftS t [32,9]=Lib.trimLeftS s [32,9])) (fun v=>strLen v)
  case atStart=>exact⟨s,hs,rfl,zdG rfl⟩
  case round=>
   obtain⟨t,o,rfl,i⟩:=hrel
   cases t with
   |nil=>
    go_wp2_with fail
    go_meet
    exact⟨[],by simp,rfl,zdG i.out,zdG rfl⟩
   |cons c r=>
    have q:∀h:0 < (⟨(c :: r).toArray⟩:ByteArray).size,(⟨(c :: r).toArray⟩:ByteArray)[0]'h=c:=fun _=>rfl
    have k:r.length≤4294967296:=by rw[List.length_cons] at o;omega
    have D:(1:Int)≤(r.length:Int)+1:=by omega
    have E:(⟨(c :: r).toArray⟩:ByteArray).extract 1 (r.length+1)=⟨r.toArray⟩:=extract_drop (c :: r) 1
    have b:=ZK [32,9] c r
    by_cases j:c=32
    ·subst j
     rw[if_pos (by decide)] at b
     have f:Hid (Lib.trimLeftS r [32,9]=Lib.trimLeftS s [32,9]):=zdG (by rw[←b];exact i.out)
     clear b o
     go_wp2_with fail
     refine⟨?_,(by show r.toArray.size < (32 :: r).toArray.size;simp)⟩
     first|exact⟨r,k,rfl,f⟩|((repeat apply Exists.intro);exact⟨⟨r,k,rfl,f⟩,rfl⟩)
    ·by_cases n:c=9
     ·subst n
      rw[if_pos (by decide)] at b
      have f:Hid (Lib.trimLeftS r [32,9]=Lib.trimLeftS s [32,9]):=zdG (by rw[←b];exact i.out)
      clear b o j
      go_wp2_with fail
      refine⟨?_,(by show r.toArray.size < (9 :: r).toArray.size;simp)⟩
      first|exact⟨r,k,rfl,f⟩|((repeat apply Exists.intro);exact⟨⟨r,k,rfl,f⟩,rfl⟩)
     ·have I:((c.toNat:Int)==32)=false:=ZN c 32 (by decide) j
      have J:((c.toNat:Int)==9)=false:=ZN c 9 (by decide) n
      rw[if_neg (by rw[zaP c j n];decide)] at b
      have f:Hid (c :: r=Lib.trimLeftS s [32,9]):=zdG (by rw[←b];exact i.out)
      clear b j n
      go_wp2_with fail
      go_meet
      exact⟨c :: r,o,rfl,f,zdG rfl⟩
 case rest=>
  obtain⟨G,B,rfl,y,H⟩:=hcut
  have K:=H.out
  subst K
  have u:Hid (Lib.trimRightS G [32,9]=d):=zdG (by rw[y.out];exact C.out)
  clear C y H
  go_wp2_with fail
  go_loop [0] (fun v=>∃t:List UInt8,t.length≤4294967296∧v=.string ⟨t.toArray⟩∧Hid (Lib.trimRightS t [32,9]=d)) (fun v=>strLen v)
  case atStart=>exact⟨G,B,rfl,u⟩
  case round=>
   clear u
   obtain⟨t,o,rfl,i⟩:=hrel
   rcases List.eq_nil_or_concat t with rfl|⟨t',c,rfl⟩
   ·have L:d=[]:=i.out.symm
    subst L
    clear i
    go_wp2_with fail
    go_ret
    exact⟨rfl,rfl⟩
   ·rw[List.concat_eq_append] at o i ⊢
    obtain⟨z,p⟩:∃z,t'++[c]=z:=⟨_,rfl⟩
    have a:=zbV [32,9] t' c
    obtain⟨m,A⟩:∃m,t'.length=m:=⟨_,rfl⟩
    have x:z.length=m+1:=by rw[←p,List.length_append,A];rfl
    rw[p] at o i a ⊢
    have q:∀h:m < (⟨z.toArray⟩:ByteArray).size,(⟨z.toArray⟩:ByteArray)[m]'h=c:=fun _=>by
     subst p A
     show ((t'++[c]).toArray)[t'.length]'_=c
     simp
    have E:(⟨z.toArray⟩:ByteArray).extract 0 m=⟨t'.toArray⟩:=by
     rw[Ze,←p,List.take_left' A]
    have M:¬z=[]:=by
     rw[←p]
     simp
    have N:z.isEmpty=false:=by
     rw[←p]
     simp
    have O:m≤4294967296:=by omega
    have l:t'.length≤4294967296:=by omega
    have P:IntKind.i64.wrap ((m:Int)+1 - 1)=(m:Int):=by
     rw[show (m:Int)+1 - 1=(m:Int) by omega]
     exact IntWalk.i64_in _ (by omega)
    have Q:(m:Int) < (m:Int)+1:=by omega
    have R:(m:Int)≤(m:Int)+1:=by omega
    have S:(0:Int)≤(m:Int):=by omega
    have F:Hid (t'.length=m):=zdG A
    clear p A
    by_cases j:c=32
    ·subst j
     rw[if_pos (by decide)] at a
     have f:Hid (Lib.trimRightS t' [32,9]=d):=zdG (by rw[←a];exact i.out)
     clear a o
     go_wp2_with fail
     refine⟨?_,(by show t'.toArray.size < z.toArray.size;rw[List.size_toArray,List.size_toArray,F.out,x];omega)⟩
     first|exact⟨t',l,rfl,f⟩|((repeat apply Exists.intro);exact⟨⟨t',l,rfl,f⟩,rfl⟩)
    ·by_cases n:c=9
     ·subst n
      rw[if_pos (by decide)] at a
      have f:Hid (Lib.trimRightS t' [32,9]=d):=zdG (by rw[←a];exact i.out)
      clear a o j
      go_wp2_with fail
      refine⟨?_,(by show t'.toArray.size < z.toArray.size;rw[List.size_toArray,List.size_toArray,F.out,x];omega)⟩
      first|exact⟨t',l,rfl,f⟩|((repeat apply Exists.intro);exact⟨⟨t',l,rfl,f⟩,rfl⟩)
     ·have I:((c.toNat:Int)==32)=false:=ZN c 32 (by decide) j
      have J:((c.toNat:Int)==9)=false:=ZN c 9 (by decide) n
      rw[if_neg (by rw[zaP c j n];decide)] at a
      have f:Hid (d=z):=zdG (by rw[←i.out,a])
      clear a j n i E
      go_wp2_with fail
      go_ret
      exact⟨by rw[f.out];rfl,rfl⟩
theorem Try.infoLine7:(Tryz.prog.info? 259).map (fun i=>(i.zero,i.size,i.bytes))=some (some (.agg #[.int .i64 0,.string ⟨#[]⟩,.int .i64 0]),3,32):=by kernel_rfl
def zcc (x:Nat×List UInt8×Nat):List Value:=[.int .i64 (x.1:Nat),.string ⟨x.2.1.toArray⟩,.int .i64 (x.2.2:Nat)]
theorem XL (x:Nat×List UInt8×Nat):(zcc x).length=3:=rfl
structure LnR (w wr:World)(L:List UInt8)(a:Nat)(pre:List (Nat×List UInt8×Nat))(f:Nat)(o:Value)(h:Option Nat):Prop where
 sl:Sl wr 259 3 o h pre.length (zk zcc pre)
 own:∀b,h=some b→w.heap.size≤b
 below:Below w.heap.size w wr
 rest:uX L.length L 0=pre++uX f (L.drop a) a
 fuel:L.length≤a+f
 len:pre.length≤a
structure LnK (L:List UInt8)(a k:Nat)(t:List UInt8)(nx:Nat):Prop where
 le:a≤k
 top:k≤L.length
 no:∀j,a≤j→j < k→L[j]?≠some 10
 at_:k=L.length∨L[k]?=some 10
 text:t=if k=L.length then L.drop a else Lib.trimSuffix ((L.drop a).take (k - a)) [13]
 next:nx=if k=L.length then k else k+1
theorem LnK.nextLe {L:List UInt8}{a k:Nat}{t:List UInt8}{nx:Nat}(h:LnK L a k t nx)(ha:a < L.length):a < nx∧nx≤L.length:=by
 have b:=h.next
 have c:=h.top
 have d:=h.le
 split at b <;> omega
theorem LnR.step {w wr w7:World}{L:List UInt8}{a:Nat}{pre:List (Nat×List UInt8×Nat)}{f:Nat}{o:Value}{h:Option Nat}(H:LnR w wr L a pre f o h)(ha:a < L.length){k:Nat}{t:List UInt8}{nx:Nat}(K:LnK L a k t nx){v2:Value}{h2:Option Nat}(hs7:Sl w7 259 3 v2 h2 (pre.length+1) (zk zcc pre++zcc (a,t,nx)))(hc7:Chg h.toList wr w7)(ho7:h2=h∨∃g,h2=some g∧wr.heap.size≤g) :
  ∃f',LnR w w7 L nx (pre++[(a,t,nx)]) f' v2 h2:=by
 obtain⟨f',rfl⟩:∃f',f=f'+1:=⟨f - 1,by have:=H.fuel;omega⟩
 have i:=K.nextLe ha
 have d:=zad L f' a k ha K.le K.top K.no K.at_
 rw[←K.text,←K.next] at d
 refine⟨f',⟨?_,?_,?_,?_,?_,?_⟩⟩
 ·rw[List.length_append,vJ]
  exact hs7
 ·intro b c
  rcases ho7 with e|⟨g,e,hg⟩
  ·exact H.own b (by rw[←e];exact c)
  ·rw[e] at c
   injection c with c
   have:=H.below.size
   omega
 ·exact H.below.trans (hc7.below H.below.size fun b c=>H.own b (by simpa using c))
 ·rw[H.rest,d,List.append_assoc]
  rfl
 ·have:=H.fuel
  omega
 ·rw[List.length_append]
  have:=H.len
  simp
  omega
theorem zbo (s:ByteArray)(hs:s.size≤4294967296)(w:World) :
  Calls Tryz.prog 209 #[.string s,.int .i64 0,.int .i64 s.size] w fun e w'=>∃v hh,e=.returned v∧Sl w' 259 3 v hh (uX s.data.toList.length s.data.toList 0).length (zk zcc (uX s.data.toList.length s.data.toList 0))∧(∀b,hh=some b→w.heap.size≤b)∧Below w.heap.size w w':=by
 obtain⟨i0,hi,a5,a6,a7⟩:=info_parts Try.infoLine7
 obtain⟨L,hL⟩:∃L,s.data.toList=L:=⟨_,rfl⟩
 have T:L.length=s.size:=by rw[←hL];simp
 have d:=zdG T
 have HL:=zdG hL
 have H0:Hid (LnR w w L 0 [] L.length (.slice none 0 0) none):=zdG ⟨Sl.nil _ _ _,(fun b hb=>by cases hb),Below.refl _ _,by simp,by omega,Nat.le_refl _⟩
 rw[hL]
 clear hL T
 go_enter Tryz.func209,Tryz.ntmps209
 go_wp2_with fail
 go_loopw [1,7] (fun av o wr=>∃(a:Nat) (G:List (Nat×List UInt8×Nat)) (f:Nat) (h:Option Nat),a≤s.size∧av=.int .i64 (a:Nat)∧Hid (LnR w wr L a G f o h)) (fun av _ _=>s.size - (intOf av).toNat)
 case atStart=>exact⟨0,[],L.length,none,Nat.zero_le _,rfl,H0⟩
 case round=>
  clear H0
  obtain⟨a,G,f,h,ha,rfl,C⟩:=hrel
  obtain⟨A0,ac,rfl,_,_⟩:=C.out.sl.form
  obtain⟨m,hm⟩:∃m,G.length=m:=⟨_,rfl⟩
  have HM:=zdG hm
  rw[hm]
  have ad:m≤a:=by rw[←hm];exact C.out.len
  clear hm
  by_cases Y:a < s.size
  ·have a0:(a:Int) < (s.size:Int):=by omega
   go_upto_block 2 with(fail)
   obtain⟨w2,a8⟩:∃w2:World,w2=wr:=⟨_,rfl⟩
   subst a8
   go_cut [8] (fun kv wx=>∃k:Nat,a≤k∧k≤s.size∧kv=.int .i64 (k:Nat)∧Hid (∀j,a≤j→j < k→L[j]?≠some 10)∧Hid (k=s.size∨L[k]?=some 10)∧Hid (wx=w2))
   case first=>
    go_wp2_with fail
    go_loop [8] (fun kv=>∃k:Nat,a≤k∧k≤s.size∧kv=.int .i64 (k:Nat)∧Hid (∀j,a≤j→j < k→L[j]?≠some 10)) (fun kv=>s.size - (intOf kv).toNat)
    case atStart=>exact⟨a,Nat.le_refl _,ha,rfl,zdG fun j X h2=>by omega⟩
    case round=>
     obtain⟨k,B,hk,rfl,S⟩:=hrel
     by_cases Z:k < s.size
     ·have P:(k:Int) < (s.size:Int):=by omega
      have ae:(0:Int)≤(k:Int):=by omega
      have a1:IntKind.i64.wrap ((k:Int)+1)=(k:Int)+1:=IntWalk.i64_in _ (by omega)
      have D:L[k]?=some s[k]:=by
       rw[←HL.out,List.getElem?_eq_getElem (by simpa using Z)]
       rfl
      by_cases A:s[k]=10
      ·have hb:(((s[k]'Z).toNat:Int) !=10)=false:=by rw[A];rfl
       have l:Hid (k=s.size∨L[k]?=some 10):=zdG (.inr (by rw[D,A]))
       clear A D
       go_wp2_with fail
       go_meet
       exact⟨k,B,hk,rfl,S,l,zdG rfl⟩
      ·have hb:(((s[k]'Z).toNat:Int) !=10)=true:=by
        rw[bne_iff_ne]
        intro e
        exact A (UInt8.toNat_inj.1 (by show _=(10:Nat);omega))
       have n:Hid (∀j,a≤j→j < k+1→L[j]?≠some 10):=zdG fun j X h2=>by
        by_cases hj:j=k
        ·subst hj
         rw[D]
         intro e
         injection e with e
         exact A e
        ·exact S.out j X (by omega)
       clear A D
       go_wp2_with fail
       refine⟨?_,by simp[intOf];omega⟩
       first|exact⟨k+1,by omega,by omega,by go_num,n⟩|((repeat apply Exists.intro);exact⟨⟨k+1,by omega,by omega,by go_num,n⟩,rfl⟩)
     ·have P:¬(k:Int) < (s.size:Int):=by omega
      have l:Hid (k=s.size∨L[k]?=some 10):=zdG (.inl (by omega))
      go_wp2_with fail
      go_meet
      exact⟨k,B,hk,rfl,S,l,zdG rfl⟩
   case rest=>
    obtain⟨k,B,hk,rfl,S,l,HW⟩:=hcut
    obtain⟨we,rfl⟩:∃we:World,we=wc:=⟨_,rfl⟩
    have a2:=HW.out
    subst a2
    clear HW
    obtain⟨p,hp⟩:∃p:ByteArray,s.extract a k=p:=⟨_,rfl⟩
    have q:(L.drop a).take (k - a)=p.data.toList:=by rw[←hp,Lib.extract_data,HL.out]
    obtain⟨t,ht⟩:∃t:List UInt8,p=⟨t.toArray⟩:=⟨p.data.toList,rfl⟩
    subst ht
    have q:(L.drop a).take (k - a)=t:=q
    have E:t.length≤4294967296:=by
     rw[←q,List.length_take,List.length_drop,d.out]
     omega
    have a9:(a:Int)≤(k:Int):=by omega
    have aa:(k:Int)≤(s.size:Int):=by omega
    have a1:IntKind.i64.wrap ((k:Int)+1)=(k:Int)+1:=IntWalk.i64_in _ (by omega)
    have HP:=zdG q
    clear q
    go_upto_if 33 with(fail)
    go_cut [9,10] (fun tv nv wx=>∃(O:List UInt8) (nx:Nat),O.length≤4294967296∧tv=.string ⟨O.toArray⟩∧nv=.int .i64 (nx:Nat)∧Hid (LnK L a k O nx)∧Hid (wx=we))
    case first=>
     by_cases ai:k < s.size
     ·have P:(k:Int) < (s.size:Int):=by omega
      have r:¬k=L.length:=by rw[d.out];omega
      have hK:∀O,O=Lib.trimSuffix t [13]→Hid (LnK L a k O (k+1)):=fun O h2=>zdG ⟨B,by rw[d.out];exact hk,S.out,by rw[d.out];exact l.out,by rw[if_neg r,HP.out,h2],by rw[if_neg r]⟩
      have N:=zdG hK
      clear hK r
      rcases List.eq_nil_or_concat t with rfl|⟨t',c,rfl⟩
      ·have g:=N.out [] VZ.symm
       go_wp2_with fail
       go_meet
       exact⟨[],k+1,by simp,rfl,by go_num,g,zdG rfl⟩
      ·rw[List.concat_eq_append] at hp E N HP ⊢
       obtain⟨z,H⟩:∃z,t'++[c]=z:=⟨_,rfl⟩
       obtain⟨i,I⟩:∃i,t'.length=i:=⟨_,rfl⟩
       have af:z.length=i+1:=by rw[←H,List.length_append,I];rfl
       have u:c=13→Lib.trimSuffix z [13]=t':=fun h=>by rw[←H,h];exact V7 t'
       have x:c≠13→Lib.trimSuffix z [13]=z:=fun h=>by rw[←H];exact V6 t' c h
       rw[H] at hp E N HP ⊢
       have ab:∀h:i < (⟨z.toArray⟩:ByteArray).size,(⟨z.toArray⟩:ByteArray)[i]'h=c:=fun _=>by
        subst H I
        show ((t'++[c]).toArray)[t'.length]'_=c
        simp
       have hx:(⟨z.toArray⟩:ByteArray).extract 0 i=⟨t'.toArray⟩:=by
        rw[Ze,←H,List.take_left' I]
       have ag:¬z=[]:=by
        rw[←H]
        simp
       have ah:z.isEmpty=false:=by
        rw[←H]
        simp
       have U:t'.length≤4294967296:=by omega
       have g1:IntKind.i64.wrap ((i:Int)+1 - 1)=(i:Int):=by
        rw[show (i:Int)+1 - 1=(i:Int) by omega]
        exact IntWalk.i64_in _ (by omega)
       have g2:(i:Int) < (i:Int)+1:=by omega
       have g3:(i:Int)≤(i:Int)+1:=by omega
       have g4:(0:Int)≤(i:Int):=by omega
       clear H I
       by_cases A:c=13
       ·subst A
        have g:=N.out t' (u rfl).symm
        clear u x
        go_wp2_with fail
        go_meet
        exact⟨t',k+1,U,rfl,by go_num,g,zdG rfl⟩
       ·have g:=N.out z (x A).symm
        have hb:((c.toNat:Int)==13)=false:=ZN c 13 (by decide) A
        clear u x A hx
        go_wp2_with fail
        go_meet
        exact⟨z,k+1,E,rfl,by go_num,g,zdG rfl⟩
     ·have P:¬(k:Int) < (s.size:Int):=by omega
      have F:k=L.length:=by rw[d.out];omega
      have g:Hid (LnK L a k t k):=zdG ⟨B,by rw[d.out];exact hk,S.out,by rw[d.out];exact l.out,by rw[if_pos F,←HP.out,F];exact List.take_of_length_le (by rw[List.length_drop];exact Nat.le_refl _),by rw[if_pos F]⟩
      clear F
      go_wp2_with fail
      go_meet
      exact⟨t,k,E,rfl,rfl,g,zdG rfl⟩
    case rest=>
     obtain⟨O,nx,aj,rfl,rfl,N,HW⟩:=hcut
     obtain⟨wf,rfl⟩:∃wf:World,wf=wc:=⟨_,rfl⟩
     have a3:=HW.out
     subst a3
     have Q:=N.out.nextLe (by rw[d.out];exact Y)
     rw[d.out] at Q
     have R:=C.out.sl
     rw[HM.out] at R
     have V:=zdG R
     have W:=fun w7 v2 h2 J K M=>C.out.step (w7:=w7) (v2:=v2) (h2:=h2) (by rw[d.out];exact Y) N.out J K M
     have y:=zdG W
     clear R HW hp W
     go_wp2_with (at_builtin;refine zC rfl _ _ 256 rfl Tryz.underlying256 hi a5 a6 a7 rfl (by decide) V.out rfl 1 1 rfl rfl ?_ ?_ ?_ ?_)
     ·simp[Value.oneCell']
     ·unfold maxLen
      omega
     ·omega
     ·intro v2 h2 w7 J K M
      have hN:=y.out w7 v2 h2 (by rw[HM.out];exact J) K M
      obtain⟨f',hN⟩:=hN
      have n:=zdG hN
      clear hN J K M y V
      go_wp2_with fail
      refine⟨?_,by simp[intOf];omega⟩
      first|exact⟨nx,_,f',h2,Q.2,rfl,n⟩|((repeat apply Exists.intro);exact⟨⟨nx,_,f',h2,Q.2,rfl,n⟩,rfl⟩)
  ·have a4:a=s.size:=by omega
   subst a4
   have a0:¬(s.size:Int) < (s.size:Int):=by omega
   have hu:=C.out
   have he:uX L.length L 0=G:=by
    rw[hu.rest,List.drop_of_length_le (by rw[d.out];exact Nat.le_refl _),Ud,List.append_nil]
   have HE:=zdG he
   clear he hu
   go_wp2_with fail
   go_ret
   first|refine⟨_,rfl,h,?_,C.out.own,C.out.below⟩|refine⟨_,h,rfl,?_,C.out.own,C.out.below⟩
   rw[HE.out]
   have X:=C.out.sl
   rw[HM.out] at X ⊢
   exact X
end Go.Proofs.YtfhlhdmhgheonaaGreatDoor
namespace Go.Proofs.YtfhlhdmhgheonaaGreatDoor
open Go.RowKit Go.Lib
theorem zaz (s:ByteArray)(a b:Nat):(s.extract a b).data.toList=(s.data.toList.drop a).take (b - a):=by
 rw[Lib.extract_data]
theorem zdf (s sub:ByteArray)(k:Nat):occAt s.data.toList sub.data.toList k=true↔(s.extract k (k+sub.size)).data.toList=sub.data.toList:=by
 unfold occAt
 rw[zaz,Nat.add_sub_cancel_left,List.isPrefixOf_iff_prefix,List.prefix_iff_eq_take]
 have:sub.data.toList.length=sub.size:=by simp
 rw[this]
 exact⟨fun h=>h.symm,fun h=>h.symm⟩
theorem J6 (s sub:ByteArray)(w:World)(hs:s.size≤140737488351232)(hsub:sub.size≤140737488351232)(h1:1≤sub.size) :
  Calls Tryz.prog 82 #[.string s,.string sub,.int .i64 0] w fun e w'=>e=.returned (.int .i64 (index s.data.toList sub.data.toList))∧w=w':=by
 obtain⟨c,b⟩:∃c,index s.data.toList sub.data.toList=c:=⟨_,rfl⟩
 rw[b]
 have a:=zdG b
 have m:s.data.toList.length=s.size:=by simp
 have n:sub.data.toList.length=sub.size:=by simp
 have o:=zdG m
 have p:=zdG n
 clear b m n
 go_enter Tryz.func82,Tryz.ntmps82
 go_wp2
 go_loop [7] (fun i=>∃k:Nat,k≤s.size+1∧i=.int .i64 k∧Hid (NoOcc s.data.toList sub.data.toList k)) (fun i=>s.size+1 - (intOf i).toNat)
 case atStart=>exact⟨0,Nat.zero_le _,rfl,zdG (NoOcc.zero _ _)⟩
 case round=>
  obtain⟨k,t,rfl,l⟩:=hrel
  by_cases r:k+sub.size≤s.size
  ·cases d:occAt s.data.toList sub.data.toList k with
   |true=>
    have f:=(zdf s sub k).1 d
    have g:c=(k:Int):=by
     rw[←a.out]
     exact index_hit l.out (by rw[o.out];omega) d
    subst g
    have q:((s.extract k (k+sub.size)).toList==sub.toList)=true:=by rw[ByteArray.toList_eq,ByteArray.toList_eq,f];simp
    clear f d a
    go_wp2
    go_ret
    exact⟨rfl,rfl⟩
   |false=>
    have f:¬(s.extract k (k+sub.size)).data.toList=sub.data.toList:=fun h=>by
     rw[(zdf s sub k).2 h] at d
     cases d
    have q:((s.extract k (k+sub.size)).toList==sub.toList)=false:=by rw[ByteArray.toList_eq,ByteArray.toList_eq,beq_eq_false_iff_ne];exact f
    have j:=zdG (l.out.succ d)
    clear f d
    go_wp2
    go_round
    case rel=>exact⟨k+1,by omega,by go_num,j⟩
    case measure=>simp[intOf];omega
  ·have g:c= -1:=by
    rw[←a.out]
    refine index_past ?_ l.out (by rw[o.out,p.out];omega)
    intro h
    have:=p.out
    rw[h] at this
    simp at this
    omega
   subst g
   clear a
   go_wp2
   go_ret
   exact⟨rfl,rfl⟩
end Go.Proofs.YtfhlhdmhgheonaaGreatDoor
namespace Go.Proofs.YtfhlhdmhgheonaaGreatDoor
open Go.Shelf Go.RowKit
attribute [local go_sem ↓] Go.wp_at_zero Go.wp_at_succ
theorem zbK (w:World)(v:Value)(S:List Nat)(l:List (List UInt8×List UInt8))(hr:RdS w S 2 v l.length (zk XT l))(name:List UInt8)(hn:name.length≤4294967296)(hl:∀f∈l,f.1.length≤4294967296) :
  Calls Tryz.prog 185 #[v,.string ⟨name.toArray⟩] w fun e w'=>e=.returned (.tuple #[.string ⟨(vI l name).1.toArray⟩,.bool (vI l name).2])∧Below w.heap.size w w':=by
 have E:=fun(s:List UInt8) (hs:s.length≤4294967296) W=>Y2 ⟨s.toArray⟩ W (by show s.toArray.size≤_;simp;omega)
 obtain⟨A,a5,rfl,I,J⟩:=hr.form
 unfold maxLen at J
 obtain⟨n,V⟩:∃n,l.length=n:=⟨_,rfl⟩
 obtain⟨y,d⟩:∃y,vI l name=y:=⟨_,rfl⟩
 rw[d]
 obtain⟨a1,a2⟩:=y
 have r:=zdG d
 have HR:=zdG hr
 have HL:=zdG hl
 rw[V] at hr I ⊢
 have a0:n≤9223372036854775807:=by omega
 clear I J
 clear hr hl d
 go_enter Tryz.func185,Tryz.ntmps185
 go_wp2_with fail
 go_loopw [6] (fun i wr=>∃k:Nat,k≤n∧i=.int .i64 k∧Hid (Below w.heap.size w wr)∧Hid (∀j (D:j < l.length),j < k→vP l[j].1≠vP name)) (fun i _=>n - (intOf i).toNat)
 case atStart=>exact⟨0,Nat.zero_le _,rfl,zdG (Below.refl _ _),zdG (fun j D h=>by omega)⟩
 case round=>
  obtain⟨k,hk,rfl,P,X⟩:=hrel
  by_cases a4:k < n
  ·have o:k < l.length:=by omega
   obtain⟨b,a,a3,Y,_,_,K,_,z⟩:=HR.out.at_ (by omega)
   injection Y with hva1 hvx hva3
   subst hva1 hva3
   clear hvx
   have F:Hid (w.cell? ⟨b,a+k * 2,none⟩=some (.string ⟨l[k].1.toArray⟩)):=zdG ((z (k * 2) (by omega)).trans ((zy ZY l k 0 o (by omega)).trans rfl))
   have t:Hid (w.cell? ⟨b,a+k * 2+1,none⟩=some (.string ⟨l[k].2.toArray⟩)):=zdG ((congrArg w.cell? (by rw[Nat.add_assoc])).trans ((z (k * 2+1) (by omega)).trans ((zy ZY l k 1 o (by omega)).trans rfl)))
   have d0:wr.cell? ⟨b,a+k * 2,none⟩=some (.string ⟨l[k].1.toArray⟩):=(P.out.cell (p:=⟨b,a+k * 2,none⟩) K).trans F.out
   have B:=fun W=>E l[k].1 (HL.out _ (List.getElem_mem o)) W
   have M:=fun W=>E name hn W
   have q:vP l[k].1=vP name→(a1,a2)=(l[k].2,true):=fun h=>r.out.symm.trans (Xo name l k o h X.out)
   obtain⟨x,Z⟩:∃x,x=l[k]:=⟨_,rfl⟩
   have HX:=zdG Z
   rw[←Z] at d0 B q t
   obtain⟨L,x2⟩:=x
   simp only at d0 B q t
   have Q:=zdG q
   clear z F Z q
   have N:(VX ⟨L.toArray⟩).toList=vP L:=by rw[ByteArray.toList_eq];rfl
   have O:(VX ⟨name.toArray⟩).toList=vP name:=by rw[ByteArray.toList_eq];rfl
   by_cases C:vP L=vP name
   ·have hc:((VX ⟨L.toArray⟩).toList==(VX ⟨name.toArray⟩).toList)=true:=by rw[N,O,C];simp
    have hi:=Q.out C
    injection hi with hi1 hi2
    have R:=hi1.symm
    have T:=hi2.symm
    subst R T
    clear N O C
    go_wp2_with (first
     |(go_at_call 177;(with_reducible refine(B _).mono ?_);rintro e w2 ⟨rfl,g⟩;have u:=zdG (za P.out g);clear B g)
     |(go_at_call 177;(with_reducible refine(M _).mono ?_);rintro e w3 ⟨rfl,m⟩;have c:=zdG (za u.out m);have z1:w3.cell? ⟨b,a+k * 2+1,none⟩=some (.string ⟨x2.toArray⟩):=(c.out.cell (p:=⟨b,a+k * 2+1,none⟩) K).trans t.out;clear M m)
     |fail)
    go_ret2
    exact⟨rfl,c.out⟩
   ·have hc:((VX ⟨L.toArray⟩).toList==(VX ⟨name.toArray⟩).toList)=false:=by rw[N,O];simpa using C
    have G:Hid (∀j (D:j < l.length),j < k+1→vP l[j].1≠vP name):=zdG (by
     intro j D a6
     by_cases H:j=k
     ·subst H
      rw[←HX.out]
      exact C
     ·exact X.out j D (by omega))
    clear N O C
    go_wp2_with (first
     |(go_at_call 177;(with_reducible refine(B _).mono ?_);rintro e w2 ⟨rfl,g⟩;have u:=zdG (za P.out g);clear B g)
     |(go_at_call 177;(with_reducible refine(M _).mono ?_);rintro e w3 ⟨rfl,m⟩;have c:=zdG (za u.out m);clear M m)
     |fail)
    refine⟨?_,by simp[intOf];omega⟩
    first|exact⟨k+1,by omega,by go_num,c,G⟩|((repeat apply Exists.intro);exact⟨⟨k+1,by omega,by go_num,c,G⟩,rfl⟩)
  ·have U:k=n:=by omega
   subst U
   have hm:=VE name l (fun j D=>X.out j D (by omega))
   rw[r.out] at hm
   injection hm with hm1 hm2
   subst hm1 hm2
   go_wp2_with fail
   go_ret2
   exact⟨rfl,P.out⟩
end Go.Proofs.YtfhlhdmhgheonaaGreatDoor
namespace Go.Proofs.YtfhlhdmhgheonaaGreatDoor
open Go.Shelf Go.RowKit Go.Lib
attribute [local go_sem ↓] Go.wp_at_zero Go.wp_at_succ
theorem zdk (L:List UInt8)(h:index L [58] < 0):(YP L).2=false:=by
 unfold YP Lib.cut
 rw[if_neg (by omega)]
 rfl
theorem zcl (L:List UInt8)(h:index L [58]=0):(YP L).2=false:=by
 unfold YP Lib.cut
 rw[if_pos (by omega),h]
 simp
theorem oneF_at (L:List UInt8)(k:Nat)(hk:0 < k)(hkl:k < L.length)(h:index L [58]=(k:Int)):YP L=((L.take k,Lib.trimS (L.drop (k+1)) [32,9]),(L.take k).all ul):=by
 unfold YP Lib.cut
 rw[if_pos (by omega),h,Int.toNat_natCast]
 have a:¬L.take k=[]:=fun e=>by
  have:=congrArg List.length e
  rw[List.length_take,List.length_nil] at this
  omega
 simp only[List.length_singleton,a,decide_false,Bool.not_false,Bool.and_true,Bool.true_and]
 rfl
theorem all_no (L:List UInt8)(k i:Nat)(hi:i < k)(hil:i < L.length)(h:ul L[i]=false):(L.take k).all ul=false:=by
 rw[List.all_eq_false]
 refine⟨L[i],?_,by simp[h]⟩
 rw[List.mem_take_iff_getElem]
 exact⟨i,by omega,rfl⟩
def zaw (L:List UInt8)(w:World)(e:Ending)(w':World):Prop:=∃nm vl:List UInt8,e=.returned (.tuple #[.agg #[.string ⟨nm.toArray⟩,.string ⟨vl.toArray⟩],.bool (YP L).2])∧((YP L).2=true→(nm,vl)=(YP L).1)∧Below w.heap.size w w'
theorem Xq {L:List UInt8}{w:World}(h:(YP L).2=false):zaw L w (.returned (.tuple #[.agg #[.string ⟨#[]⟩,.string ⟨#[]⟩],.bool false])) (w.alloc (.cells #[.string ⟨#[]⟩,.string ⟨#[]⟩] 253)):=
 ⟨[],[],(by rw[h]),(fun e=>by rw[h] at e;cases e),below_alloc1 w _⟩
theorem zcF (s:ByteArray)(hs:s.size≤4294967296)(w:World) :
  Calls Tryz.prog 210 #[.string s] w (zaw s.data.toList w):=by
 have h:=fun W=>J6 s ⟨#[58]⟩ W (by omega) (by decide) (by decide)
 obtain⟨L,B⟩:∃L,s.data.toList=L:=⟨_,rfl⟩
 have t:L.length=s.size:=by rw[←B];simp
 have u:=index_ge L [58]
 have b:=index_room L [58]
 have c:=zdk L
 have d:=zcl L
 have f:=oneF_at L
 have h:∀W,Calls Tryz.prog 82 #[.string s,.string ⟨#[58]⟩,.int .i64 0] W fun e w'=>e=.returned (.int .i64 (index L [58]))∧W=w':=by
  rw[←B]
  exact h
 obtain⟨C,n⟩:∃C,index L [58]=C:=⟨_,rfl⟩
 rw[n] at h u b c d f
 have o:=zdG t
 rw[B]
 have F:=zdG B
 by_cases a0:C≤0
 ·have q:(YP L).2=false:=by
   by_cases h0:C < 0
   ·exact c h0
   ·exact d (by omega)
  have j:=zdG (Xq (w:=w) q)
  clear c d f b u B t n q
  go_enter Tryz.func210,Tryz.ntmps210
  go_wp2_with (first
   |(go_at_call 82;refine(h _).mono ?_;rintro e w1 ⟨rfl,rfl⟩;clear h)
   |fail)
  refine bodyPost_ret (v:=.tuple #[.agg #[.string ⟨#[]⟩,.string ⟨#[]⟩],.bool false]) ?_ rfl j.out
  have x:(w.alloc (.cells #[.string ⟨#[]⟩,.string ⟨#[]⟩] 253)).cell? ⟨w.heap.size,0,none⟩=some (.string ⟨#[]⟩):=(Blk.new w 253 #[.string ⟨#[]⟩,.string ⟨#[]⟩]).cell 0
  have y:(w.alloc (.cells #[.string ⟨#[]⟩,.string ⟨#[]⟩] 253)).cell? ⟨w.heap.size,1,none⟩=some (.string ⟨#[]⟩):=(Blk.new w 253 #[.string ⟨#[]⟩,.string ⟨#[]⟩]).cell 1
  simp[results,Tryz.results210,go_sem,x,y]
 ·obtain⟨k,rfl⟩:∃k:Nat,C=k:=⟨C.toNat,by omega⟩
  have G:k+1≤L.length:=by have:=b (by omega);simp at this;omega
  have H:0 < k:=by omega
  have A:=f k H (by omega) rfl
  have g:=zdG A
  rw[o.out] at G
  have N:(k:Int)≤(s.size:Int):=by omega
  have O:(k:Int)+1≤(s.size:Int):=by omega
  have T:IntKind.i64.wrap ((k:Int)+1)=(k:Int)+1:=IntWalk.i64_in _ (by omega)
  have U:s.extract 0 k=⟨(L.take k).toArray⟩:=by
   rw[←F.out]
   exact Ze s.data.toList k
  have V:s.extract (k+1) s.size=⟨(L.drop (k+1)).toArray⟩:=by
   have:=extract_drop s.data.toList (k+1)
   rw[F.out,o.out] at this
   rw[←this,←F.out]
  have z:=fun W=>zco (L.drop (k+1)) (by rw[List.length_drop,o.out];omega) W
  generalize Lib.trimS (L.drop (k+1)) [32,9]=tr at z g
  have I:=zdG z
  clear c d f b u B t n A z
  go_enter Tryz.func210,Tryz.ntmps210
  go_upto_region 4 with(first
   |(go_at_call 82;refine(h _).mono ?_;rintro e w1 ⟨rfl,rfl⟩;clear h)
   |fail)
  go_wp2_with fail
  go_loop [5] (fun iv=>∃i:Nat,i≤k∧iv=.int .i64 (i:Nat)∧Hid ((L.take i).all ul=true)) (fun iv=>k - (intOf iv).toNat)
  case atStart=>exact⟨0,Nat.zero_le _,rfl,zdG (by simp)⟩
  case round=>
   obtain⟨i,hi,rfl,S⟩:=hrel
   by_cases M:i < k
   ·have J:(i:Int) < (k:Int):=by omega
    have D:i < s.size:=by omega
    have l:i < L.length:=by rw[o.out];exact D
    have m:L[i]=s[i]:=by
     have:L[i]?=some s[i]:=by
      rw[←F.out,List.getElem?_eq_getElem (by simpa using D)]
      rfl
     rw[List.getElem?_eq_getElem l] at this
     injection this
    have X:IntKind.i64.wrap ((i:Int)+1)=(i:Int)+1:=IntWalk.i64_in _ (by omega)
    have Y:(i:Int) < (s.size:Int):=by omega
    have a:=all_no L k i M l
    rw[m] at a
    have p:(L.take (i+1)).all ul=((L.take i).all ul && ul s[i]):=by
     rw[List.take_succ_eq_append_getElem l,List.all_append,m]
     simp
    by_cases A:(33:Int)≤(s[i].toNat:Int)
    ·by_cases R:(s[i].toNat:Int)≤126
     ·have r:ul s[i]=true:=by simp[ul];omega
      have P:Hid ((L.take (i+1)).all ul=true):=zdG (by rw[p,S.out,r];rfl)
      have Q:¬(s[i].toNat:Int) < 33:=by omega
      have Z:¬126 < (s[i].toNat:Int):=by omega
      clear a p r m A R
      go_wp2_with fail
      refine⟨?_,by simp[intOf];omega⟩
      first|exact⟨i+1,by omega,by go_num,P⟩|((repeat apply Exists.intro);exact⟨⟨i+1,by omega,by go_num,P⟩,rfl⟩)
     ·have r:ul s[i]=false:=by simp[ul];omega
      have q:=a r
      have j:=zdG (Xq (L:=L) (w:=w) (by rw[g.out];exact q))
      have Q:¬(s[i].toNat:Int) < 33:=by omega
      have Z:126 < (s[i].toNat:Int):=by omega
      clear a p r m q A R
      go_wp2_with fail
      refine bodyPost_ret (v:=.tuple #[.agg #[.string ⟨#[]⟩,.string ⟨#[]⟩],.bool false]) ?_ rfl j.out
      have x:(w.alloc (.cells #[.string ⟨#[]⟩,.string ⟨#[]⟩] 253)).cell? ⟨w.heap.size,0,none⟩=some (.string ⟨#[]⟩):=(Blk.new w 253 #[.string ⟨#[]⟩,.string ⟨#[]⟩]).cell 0
      have y:(w.alloc (.cells #[.string ⟨#[]⟩,.string ⟨#[]⟩] 253)).cell? ⟨w.heap.size,1,none⟩=some (.string ⟨#[]⟩):=(Blk.new w 253 #[.string ⟨#[]⟩,.string ⟨#[]⟩]).cell 1
      simp[results,Tryz.results210,go_sem,x,y]
    ·have r:ul s[i]=false:=by simp[ul];omega
     have q:=a r
     have j:=zdG (Xq (L:=L) (w:=w) (by rw[g.out];exact q))
     have Q:(s[i].toNat:Int) < 33:=by omega
     clear a p r m q A
     go_wp2_with fail
     refine bodyPost_ret (v:=.tuple #[.agg #[.string ⟨#[]⟩,.string ⟨#[]⟩],.bool false]) ?_ rfl j.out
     have x:(w.alloc (.cells #[.string ⟨#[]⟩,.string ⟨#[]⟩] 253)).cell? ⟨w.heap.size,0,none⟩=some (.string ⟨#[]⟩):=(Blk.new w 253 #[.string ⟨#[]⟩,.string ⟨#[]⟩]).cell 0
     have y:(w.alloc (.cells #[.string ⟨#[]⟩,.string ⟨#[]⟩] 253)).cell? ⟨w.heap.size,1,none⟩=some (.string ⟨#[]⟩):=(Blk.new w 253 #[.string ⟨#[]⟩,.string ⟨#[]⟩]).cell 1
     simp[results,Tryz.results210,go_sem,x,y]
   ·have K:i=k:=by omega
    subst K
    have J:¬(i:Int) < (i:Int):=by omega
    go_wp2_with fail
    go_region_with (first
     |(go_at_call 257;refine(I.out _).mono ?_;rintro e w2 ⟨rfl,rfl⟩)
     |fail)
    all_goals
     go_wp2_with fail
     have E:Hid (zaw L w (.returned (.tuple #[.agg #[.string ⟨(L.take i).toArray⟩,.string ⟨tr.toArray⟩],.bool true])) (w.alloc (.cells #[.string ⟨(L.take i).toArray⟩,.string ⟨tr.toArray⟩] 253)).drew):=zdG ⟨L.take i,tr,by rw[g.out,S.out],fun _=>by rw[g.out],za (below_alloc1 w _) (zb _)⟩
     refine bodyPost_ret (v:=.tuple #[.agg #[.string ⟨(L.take i).toArray⟩,.string ⟨tr.toArray⟩],.bool true]) ?_ rfl E.out
     have x:(w.alloc (.cells #[.string ⟨(L.take i).toArray⟩,.string ⟨tr.toArray⟩] 253)).cell? ⟨w.heap.size,0,none⟩=some (.string ⟨(L.take i).toArray⟩):=(Blk.new w 253 #[.string ⟨(L.take i).toArray⟩,.string ⟨tr.toArray⟩]).cell 0
     have y:(w.alloc (.cells #[.string ⟨(L.take i).toArray⟩,.string ⟨tr.toArray⟩] 253)).cell? ⟨w.heap.size,1,none⟩=some (.string ⟨tr.toArray⟩):=(Blk.new w 253 #[.string ⟨(L.take i).toArray⟩,.string ⟨tr.toArray⟩]).cell 1
     simp[results,Tryz.results210,go_sem,x,y]
theorem Uw (c:UInt8)(r:List UInt8)(h:(YP (c :: r)).2=true):c≠32∧c≠9:=by
 have d:c∈(Lib.cut (c :: r) [58]).1:=by
  unfold YP at h
  simp only[Bool.and_eq_true,Bool.not_eq_true',decide_eq_false_iff_not] at h
  have a:=h.2.2
  unfold Lib.cut at a ⊢
  split
  ·rename_i b
   rw[if_pos b] at a
   simp only at a ⊢
   cases e:(index (c :: r) [58]).toNat with
   |zero=>rw[e] at a;simp at a
   |succ k=>simp
  ·simp
 unfold YP at h
 simp only[Bool.and_eq_true,List.all_eq_true] at h
 have b:=h.2.1 c d
 simp only[decide_eq_true_eq] at b
 constructor
 ·rintro rfl
  exact absurd b.1 (by decide)
 ·rintro rfl
  exact absurd b.1 (by decide)
theorem Je (s:List UInt8)(h:yt s=true):vg s=[]:=by
 unfold vg
 rw[if_neg]
 intro b
 cases s with
 |nil=>simp[yt] at h
 |cons c r=>
  have a:=Uw c r b
  simp[yt] at h
  rcases h with h|h
  ·exact a.1 h
  ·exact a.2 h
theorem zcO (g:List (List UInt8)):zD g=zS g:=by
 cases g with
 |nil=>rfl
 |cons x r=>
  show zS (if yt x=true then r else x :: r)=zS (x :: r)
  by_cases h:yt x=true
  ·rw[if_pos h,show x :: r=[x]++r from rfl,um,uT,Je x h,List.nil_append]
  ·rw[if_neg h]
theorem Qf (g:List (List UInt8))(k:Nat)(hk:k < g.length):zS (g.take (k+1))=zS (g.take k)++vg g[k]:=by
 rw[List.take_succ_eq_append_getElem hk,um,uT]
theorem zbt (g:List (List UInt8))(k:Nat):(zS (g.take k)).length≤k:=by
 unfold zS
 refine Nat.le_trans (List.length_filterMap_le _ _) ?_
 rw[List.length_take]
 omega
abbrev Ln3:=Nat×List UInt8×Nat
structure SpR (w wr:World)(ls:List Ln3)(n i:Nat)(g:List (List UInt8))(v:Value)(hh:Option Nat):Prop where
 sl:Sl wr 9 1 v hh g.length (g.map encStr)
 own:∀b,hh=some b→w.heap.size≤b
 below:Below w.heap.size w wr
 go:xh (ls.map (·.2)) [] n=xh ((ls.drop i).map (·.2)) g n
 ne:∀x∈g,x≠[]
 len:g.length≤i
 pos:0 < i→g≠[]
 sum:YH g+Xu ((ls.drop i).map (·.2))≤n
structure SpE (w wr:World)(ls:List Ln3)(n:Nat)(g:List (List UInt8))(b:Nat)(v:Value)(hh:Option Nat):Prop where
 sl:Sl wr 9 1 v hh g.length (g.map encStr)
 own:∀b,hh=some b→w.heap.size≤b
 below:Below w.heap.size w wr
 go:xh (ls.map (·.2)) [] n=(g,b)
 ne:∀x∈g,x≠[]
 sum:YH g≤n
 len:g.length≤ls.length
theorem SpR.head {w wr:World}{ls:List Ln3}{n i:Nat}{g:List (List UInt8)}{v:Value}{hh:Option Nat}(h:SpR w wr ls n i g v hh)(hi:i < ls.length):YH g+ls[i].2.1.length≤n:=by
 have a:=h.sum
 rw[List.drop_eq_getElem_cons hi,List.map_cons] at a
 have b:Xu (ls[i].2 :: (ls.drop (i+1)).map (·.2))=ls[i].2.1.length+Xu ((ls.drop (i+1)).map (·.2)):=by simp[Xu]
 omega
theorem SpR.stop {w wr:World}{ls:List Ln3}{n i:Nat}{g:List (List UInt8)}{v:Value}{hh:Option Nat}(h:SpR w wr ls n i g v hh)(hi:i < ls.length)(ht:ls[i].2.1=[]):SpE w wr ls n g ls[i].2.2 v hh:=by
 refine⟨h.sl,h.own,h.below,?_,h.ne,by have:=h.head hi;omega,by have:=h.len;omega⟩
 rw[h.go,List.drop_eq_getElem_cons hi,List.map_cons]
 generalize ls[i].2=x at ht
 obtain⟨t,p⟩:=x
 simp only at ht
 rw[xh,if_pos ht]
theorem SpR.ends {w wr:World}{ls:List Ln3}{n i:Nat}{g:List (List UInt8)}{v:Value}{hh:Option Nat}(h:SpR w wr ls n i g v hh)(hi:ls.length≤i)(hi2:i≤ls.length):SpE w wr ls n g n v hh:=by
 refine⟨h.sl,h.own,h.below,?_,h.ne,by have:=h.sum;omega,by have:=h.len;omega⟩
 rw[h.go,List.drop_of_length_le hi]
 rfl
theorem SpR.next {w wr w7:World}{ls:List Ln3}{n i:Nat}{g:List (List UInt8)}{v v2:Value}{hh h2:Option Nat}(h:SpR w wr ls n i g v hh)(hi:i < ls.length){t:List UInt8}(ht:ls[i].2.1=t)(hne:t≠[]){g2:List (List UInt8)}(hg2:xL g t=g2)(hs7:Sl w7 9 1 v2 h2 g2.length (g2.map encStr))(hc7:Chg hh.toList wr w7)(ho7:h2=hh∨∃k,h2=some k∧wr.heap.size≤k):SpR w w7 ls n (i+1) g2 v2 h2:=by
 subst hg2
 refine⟨hs7,?_,?_,?_,Xi h.ne hne,?_,?_,?_⟩
 ·intro b a
  rcases ho7 with e|⟨k,e,hk⟩
  ·exact h.own b (by rw[←e];exact a)
  ·rw[e] at a
   injection a with a
   have:=h.below.size
   omega
 ·exact h.below.trans (hc7.below h.below.size fun b a=>h.own b (by simpa using a))
 ·rw[h.go,List.drop_eq_getElem_cons hi,List.map_cons]
  generalize ls[i].2=x at ht
  obtain⟨d,p⟩:=x
  simp only at ht
  subst ht
  rw[xh,if_neg hne]
 ·have c:=Zg g t
  have h2:=h.len
  omega
 ·intro _ e
  unfold xL at e
  split at e <;> simp at e
 ·have c:=h.sum
  rw[List.drop_eq_getElem_cons hi,List.map_cons] at c
  have h2:Xu (ls[i].2 :: (ls.drop (i+1)).map (·.2))=ls[i].2.1.length+Xu ((ls.drop (i+1)).map (·.2)):=by simp[Xu]
  rw[h2,ht] at c
  rw[uU]
  omega
structure SfR (w wr:World)(g:List (List UInt8))(gv:Value)(hg:Option Nat)(k:Nat)(o:Value)(h:Option Nat):Prop where
 sl:Sl wr 253 2 o h (zS (g.take k)).length (zk XT (zS (g.take k)))
 own:∀b,h=some b→w.heap.size≤b
 below:Below w.heap.size w wr
theorem SfR.same {w wr w2:World}{g:List (List UInt8)}{gv:Value}{hg:Option Nat}{k:Nat}{o:Value}{h:Option Nat}(H:SfR w wr g gv hg k o h)(hb:Below wr.heap.size wr w2)(he:zS (g.take (k+1))=zS (g.take k)):SfR w w2 g gv hg (k+1) o h:=by
 refine⟨?_,H.own,H.below.trans (hb.mono H.below.size)⟩
 rw[he]
 exact H.sl.keep fun b hb2=>hb.block b (H.sl.lt b hb2)
theorem SfR.push {w wr w2 w7:World}{g:List (List UInt8)}{gv:Value}{hg:Option Nat}{k:Nat}{o v2:Value}{h h2:Option Nat}(H:SfR w wr g gv hg k o h)(hb:Below wr.heap.size wr w2){x:List UInt8×List UInt8}(he:zS (g.take (k+1))=zS (g.take k)++[x])(hs7:Sl w7 253 2 v2 h2 ((zS (g.take k)).length+1) (zk XT (zS (g.take k))++XT x))(hc7:Chg h.toList w2 w7)(ho7:h2=h∨∃k,h2=some k∧w2.heap.size≤k):SfR w w7 g gv hg (k+1) v2 h2:=by
 have c:=H.below.trans (hb.mono H.below.size)
 refine⟨?_,?_,c.trans (hc7.below c.size fun b hb=>H.own b (by simpa using hb))⟩
 ·rw[he,List.length_append,vJ]
  exact hs7
 ·intro b a
  rcases ho7 with e|⟨k,e,hk⟩
  ·exact H.own b (by rw[←e];exact a)
  ·rw[e] at a
   injection a with a
   have:=c.size
   omega
theorem zbZ (s:ByteArray)(hs:s.size≤2147483648)(w:World) :
  Calls Tryz.prog 184 #[.string s,.int .i64 0,.int .i64 s.size] w fun e w'=>∃v hh,e=.returned (.tuple #[v,.int .i64 ((xw s.data.toList).2:Nat)])∧Sl w' 253 2 v hh (xw s.data.toList).1.length (zk XT (xw s.data.toList).1)∧(∀b,hh=some b→w.heap.size≤b)∧Below w.heap.size w w':=by
 obtain⟨i0,hi,b8,b9,ba⟩:=info_parts Try.infoString
 obtain⟨j0,hj,bt,bu,bw⟩:=info_parts Try.infoField
 have a0:=zbo s (by omega) w
 obtain⟨L,hL⟩:∃L,s.data.toList=L:=⟨_,rfl⟩
 have ax:L.length=s.size:=by rw[←hL];simp
 rw[hL] at a0 ⊢
 have Q:=Uh L.length L 0
 have R:=ZC L.length L 0
 have al:=uP L.length L 0
 have a1:xw L=(zS (xh (yH L.length L 0) [] L.length).1,(xh (yH L.length L 0) [] L.length).2):=by
  unfold xw
  rw[zcO]
 obtain⟨P,bb⟩:∃P,uX L.length L 0=P:=⟨_,rfl⟩
 rw[bb] at a0 Q
 rw[←Q,List.length_map] at al
 rw[←Q] at R a1
 rw[ax] at a1 al R
 obtain⟨G,hG⟩:∃G,xh (P.map (·.2)) [] s.size=G:=⟨_,rfl⟩
 rw[hG] at a1
 rw[a1]
 have HG:=zdG hG
 have ag:=zdG R
 obtain⟨m,hm⟩:∃m,P.length=m:=⟨_,rfl⟩
 rw[hm] at a0 al
 have HM:=zdG hm
 have c3:¬(s.size:Int) < 0:=by omega
 have c4:¬(s.size:Int) < (s.size:Int):=by omega
 clear hL ax Q bb a1 hG hm R
 go_enter Tryz.func184,Tryz.ntmps184
 go_upto_block 0 with(first
  |(go_at_call 209;refine a0.mono ?_;rintro e w1 ⟨vl,hl,rfl,f,bc,a9⟩;have ay:=zdG f;have az:=zdG a9;obtain⟨Al,bd,rfl,_,_⟩:=f.form;clear a0 f bc a9)
  |fail)
 have HR:Hid (RdS w1 [] 3 (.slice Al m bd) m (zk zcc P)):=zdG (ay.out.reads [] (by simp))
 have am:Hid (SpR w1 w1 P s.size 0 [] (.slice none 0 0) none):=zdG ⟨Sl.nil _ _ _,(fun b U=>by cases U),Below.refl _ _,by simp,by simp,Nat.le_refl _,(fun h=>by omega),by simp only[YH,List.map_nil,List.sum_nil,List.drop_zero,Nat.zero_add];exact ag.out⟩
 clear ag
 go_cut [8,9] (fun tv bv wx=>∃(g:List (List UInt8)) (b:Nat) (v:Value) (hh:Option Nat),tv=v∧bv=.int .i64 (b:Nat)∧Hid (SpE w1 wx P s.size g b v hh))
 case first=>
  go_wp2_with fail
  go_loopw [8,9,11] (fun tv bv iv wr=>∃(i:Nat) (g:List (List UInt8)) (hh:Option Nat),i≤m∧bv=.int .i64 (s.size:Nat)∧iv=.int .i64 (i:Nat)∧Hid (SpR w1 wr P s.size i g tv hh)) (fun _ _ iv _=>m - (intOf iv).toNat)
  case atStart=>exact⟨0,[],none,Nat.zero_le _,rfl,rfl,am⟩
  case round=>
   clear am
   obtain⟨i,g,hh,cf,rfl,rfl,C⟩:=hrel
   obtain⟨A0,y,rfl,_,_⟩:=C.out.sl.form
   by_cases au:i < m
   ·have a2:i < P.length:=by rw[HM.out];exact au
    have bi:(i:Int) < (m:Int):=by omega
    have c5:IntKind.i64.wrap ((i:Int)+1)=(i:Int)+1:=IntWalk.i64_in _ (by omega)
    obtain⟨b1,X,Y,aa,_,_,a9,_,Z⟩:=HR.out.at_ (by omega)
    injection aa with hva1 hvx hva3
    subst hva1 hva3
    clear hvx
    have c1:wr.cell? ⟨b1,X+i * 3+1,none⟩=some (.string ⟨P[i].2.1.toArray⟩):=(C.out.below.cell (p:=⟨b1,X+i * 3+1,none⟩) a9).trans ((congrArg w1.cell? (by rw[Nat.add_assoc])).trans ((Z (i * 3+1) (by omega)).trans ((zy XL P i 1 a2 (by omega)).trans rfl)))
    have c2:wr.cell? ⟨b1,X+i * 3+2,none⟩=some (.int .i64 (P[i].2.2:Nat)):=(C.out.below.cell (p:=⟨b1,X+i * 3+2,none⟩) a9).trans ((congrArg w1.cell? (by rw[Nat.add_assoc])).trans ((Z (i * 3+2) (by omega)).trans ((zy XL P i 2 a2 (by omega)).trans rfl)))
    have z:=C.out.stop a2
    have K:=C.out.head a2
    have M:=fun w7 v2 h2 t ht ae g2 N u D E=>C.out.next (w7:=w7) (v2:=v2) (h2:=h2) (t:=t) a2 ht ae (g2:=g2) N u D E
    generalize P[i].2.2=p at c2 z
    generalize P[i].2.1=t at c1 z K M
    obtain⟨n,hn⟩:∃n,g.length=n:=⟨_,rfl⟩
    have HN:=zdG hn
    have ah:=C.out.len
    have F:=C.out.pos
    rw[hn] at ah ⊢
    have ab:=zdG z
    have a3:=zdG M
    clear z M Z
    rcases t with _|⟨c,r⟩
    ·have HE:=zdG (ab.out rfl)
     clear ab a3 F K hn ah
     go_wp2_with fail
     go_meet
     exact⟨g,p,_,hh,by rw[←HN.out],rfl,HE⟩
    ·have f:=C.out.sl
     rw[hn] at f
     have A:=zdG f
     clear f
     have a':∀h:0 < (⟨(c :: r).toArray⟩:ByteArray).size,(⟨(c :: r).toArray⟩:ByteArray)[0]'h=c:=fun _=>rfl
     by_cases q:g=[]∨yt (c :: r)=false
     ·have N:=YV q
      have ai:=fun w7 v2 h2 u D E=>a3.out w7 v2 h2 _ rfl (by simp) _ N u D E
      have S:=zdG ai
      clear a3 ai ab N c2
      by_cases h0:i=0
      ·subst h0
       simp only[Nat.zero_mul,Nat.add_zero] at c1
       have bj:n=0:=by omega
       subst bj
       clear q F hn
       go_wp2_with (first
        |(at_builtin;refine zC rfl _ _ 38 rfl Tryz.underlying38 hi b8 b9 ba rfl (by decide) A.out rfl 1 1 rfl rfl ?_ ?_ ?_ ?_)
        |fail)
       any_goals (first|(simp[Value.oneCell'];done)|(unfold maxLen;omega)|omega|rfl)
       ·intro v2 h2 w7 u D E
        have l:=zdG (S.out w7 v2 h2 (by rw[List.length_append,HN.out,List.map_append];exact u) D E)
        obtain⟨A7,be,rfl,_,_⟩:=u.form
        clear u D E S A
        go_wp2_with fail
        refine⟨?_,by simp[intOf];omega⟩
        first|exact⟨1,_,h2,by omega,rfl,by go_num,l⟩|((repeat apply Exists.intro);exact⟨⟨1,_,h2,by omega,rfl,by go_num,l⟩,rfl⟩)
      ·have bk:(0:Int) < (i:Int):=by omega
       have an:yt (c :: r)=false:=by
        rcases q with h|h
        ·exact absurd h (F (by omega))
        ·exact h
       have hc:¬c=32∧¬c=9:=by
        have T:yt (c :: r)=(decide (c=32)||decide (c=9)):=by simp[yt]
        rw[T] at an
        simpa using an
       have b1:((c.toNat:Int)==32)=false:=ZN c 32 (by decide) hc.1
       have b2:((c.toNat:Int)==9)=false:=ZN c 9 (by decide) hc.2
       clear q F hn hc an
       go_wp2_with (first
        |(at_builtin;refine zC rfl _ _ 38 rfl Tryz.underlying38 hi b8 b9 ba rfl (by decide) A.out rfl 1 1 rfl rfl ?_ ?_ ?_ ?_)
        |fail)
       any_goals (first|(simp[Value.oneCell'];done)|(unfold maxLen;omega)|omega|rfl)
       ·intro v2 h2 w7 u D E
        have l:=zdG (S.out w7 v2 h2 (by rw[List.length_append,HN.out,List.map_append];exact u) D E)
        obtain⟨A7,be,rfl,_,_⟩:=u.form
        clear u D E S A
        go_wp2_with fail
        refine⟨?_,by simp[intOf];omega⟩
        first|exact⟨i+1,_,h2,by omega,rfl,by go_num,l⟩|((repeat apply Exists.intro);exact⟨⟨i+1,_,h2,by omega,rfl,by go_num,l⟩,rfl⟩)
     ·have U:yt (c :: r)=true:=by
       by_cases h:yt (c :: r)=true
       ·exact h
       ·exact absurd (.inr (by simpa using h)) q
      have aj:g≠[]:=fun e=>q (.inl e)
      obtain⟨k,rfl⟩:∃k,n=k+1:=⟨n - 1,by
       have:g.length≠0:=fun h=>aj (List.eq_nil_of_length_eq_zero h)
       omega⟩
      have bk:(0:Int) < (i:Int):=by omega
      have H:k < g.length:=by omega
      have N:=XD hn H U
      have hc:c=32∨c=9:=by
       have T:yt (c :: r)=(decide (c=32)||decide (c=9)):=by simp[yt]
       rw[T] at U
       simpa using U
      obtain⟨b,bx,bz,aa,hv,_,_,T,Z⟩:=A.out.at_ (by omega)
      injection hv with hv1 hv2 hv3
      subst hv1 hv3
      clear hv2
      obtain⟨bf,cb⟩:=Z k (by omega)
      have ca:wr.cell? ⟨b,bx+k,none⟩=some (.string ⟨g[k].toArray⟩):=bf.trans (by simp[H,encStr])
      have a4:g[k].length≤YH g:=Yv (List.getElem_mem H)
      have B:=A.out.store k (encStr (g[k]++c :: r))
      rw[←List.map_set] at B
      have a5:=a3.out _ _ _ _ rfl (by simp) _ N (by rw[List.length_set,HN.out];exact B) ((Chg.refl hh.toList wr).set (.inl (by simp[aa])) _) (.inl rfl)
      generalize g[k]=la at ca a4 a5
      have V:=zdG a5
      have g5:IntKind.i64.wrap ((k:Int)+1 - 1)=(k:Int):=by rw[show (k:Int)+1 - 1=k from by omega];exact IntWalk.i64_in _ (by omega)
      have g7:(k:Int) < (k:Int)+1:=by omega
      have g8:(0:Int)≤(k:Int):=by omega
      simp only[List.length_cons] at K
      have n2:¬9223372036854775807 < la.length+(r.length+1):=by omega
      have c6:=fun(a b:List UInt8)=>ByteArray.mk_append_mk a b
      clear U Z bf B a5 N aj q F hn a3 ab A a4 c2
      rcases hc with rfl|rfl
      ·go_wp2_with fail
       refine⟨?_,by simp[intOf];omega⟩
       first|exact⟨i+1,_,hh,by omega,rfl,by go_num,V⟩|((repeat apply Exists.intro);exact⟨⟨i+1,_,hh,by omega,rfl,by go_num,V⟩,rfl⟩)
      ·go_wp2_with fail
       refine⟨?_,by simp[intOf];omega⟩
       first|exact⟨i+1,_,hh,by omega,rfl,by go_num,V⟩|((repeat apply Exists.intro);exact⟨⟨i+1,_,hh,by omega,rfl,by go_num,V⟩,rfl⟩)
   ·have bl:i=m:=by omega
    subst bl
    have bi:¬(i:Int) < (i:Int):=by omega
    have HE:=zdG (C.out.ends (by rw[HM.out];exact Nat.le_refl _) (by rw[HM.out];exact Nat.le_refl _))
    go_wp2_with fail
    go_meet
    exact⟨g,s.size,_,hh,rfl,rfl,HE⟩
 case rest=>
  clear am HR
  obtain⟨g,b,v,hh,rfl,rfl,HE⟩:=hcut
  obtain⟨we,rfl⟩:∃we:World,we=wc:=⟨_,rfl⟩
  have bm:G=(g,b):=by rw[←HG.out];exact HE.out.go
  subst bm
  obtain⟨n,hn⟩:∃n,g.length=n:=⟨_,rfl⟩
  have HN:=zdG hn
  have f:=HE.out.sl
  rw[hn] at f
  have bn:=HE.out.len
  rw[hn,HM.out] at bn
  have A:=zdG f
  obtain⟨A0,y,rfl,_,_⟩:=f.form
  have ac:=zdG (az.out.trans (HE.out.below.mono az.out.size))
  have bo:Hid (RdS we [] 1 (.slice A0 n y) n (g.map encStr)):=zdG (f.reads [] (by simp))
  have H0:Hid (SfR we we g (.slice A0 n y) hh 0 (.slice none 0 0) none):=zdG ⟨Sl.nil _ _ _,(fun b U=>by cases U),Below.refl _ _⟩
  clear f hn ay A
  go_wp2_with fail
  go_loopw [13,14] (fun o iv wr=>∃(k:Nat) (h:Option Nat),k≤n∧iv=.int .i64 (k:Nat)∧Hid (SfR we wr g (.slice A0 n y) hh k o h)) (fun _ iv _=>n - (intOf iv).toNat)
  case atStart=>exact⟨0,none,Nat.zero_le _,rfl,H0⟩
  case round=>
   clear H0
   obtain⟨k,h,hk,rfl,C⟩:=hrel
   obtain⟨A1,Y,rfl,_,_⟩:=C.out.sl.form
   obtain⟨mm,af⟩:∃mm,(zS (g.take k)).length=mm:=⟨_,rfl⟩
   have c7:mm≤k:=by rw[←af];exact zbt g k
   have ad:=zdG af
   rw[af]
   clear af
   by_cases au:k < n
   ·have H:k < g.length:=by rw[HN.out];exact au
    have bp:(k:Int) < (n:Int):=by omega
    have c8:(0:Int)≤(k:Int):=by omega
    have c9:IntKind.i64.wrap ((k:Int)+1)=(k:Int)+1:=IntWalk.i64_in _ (by omega)
    obtain⟨b3,j,b',aa,_,_,av,_,ak⟩:=bo.out.at_ (by omega)
    injection aa with hva1 hvx hva3
    subst hva1 hva3
    clear hvx
    have b0:Hid (we.cell? ⟨b3,j+k,none⟩=some (.string ⟨g[k].toArray⟩)):=zdG ((ak k (by omega)).trans (by simp[H,encStr]))
    have cs:wr.cell? ⟨b3,j+k,none⟩=some (.string ⟨g[k].toArray⟩):=(C.out.below.cell (p:=⟨b3,j+k,none⟩) av).trans b0.out
    have ae:=HE.out.ne g[k] (List.getElem_mem H)
    have bq:g[k].length≤2147483648:=Nat.le_trans (Yv (List.getElem_mem H)) (by have:=HE.out.sum;omega)
    have d:=fun W=>zcF ⟨g[k].toArray⟩ (by show g[k].toArray.size≤_;simp;omega) W
    have d:∀W,Calls Tryz.prog 210 #[.string ⟨g[k].toArray⟩] W fun e w'=>∃nm vl:List UInt8,e=.returned (.tuple #[.agg #[.string ⟨nm.toArray⟩,.string ⟨vl.toArray⟩],.bool (YP g[k]).2])∧((YP g[k]).2=true→(nm,vl)=(YP g[k]).1)∧Below W.heap.size W w':=d
    have I:=Qf g k H
    have O:=Uw
    unfold vg at I
    clear ak
    generalize g[k]=t at cs b0 ae bq d I
    obtain⟨c,r,rfl⟩:∃c r,t=c :: r:=by
     cases t with
     |nil=>exact absurd rfl ae
     |cons c r=>exact⟨c,r,rfl⟩
    have O:=O c r
    generalize YP (c :: r)=of at d I O
    obtain⟨⟨fa,fb⟩,ok⟩:=of
    simp only at d I O
    have a':∀h:0 < (⟨(c :: r).toArray⟩:ByteArray).size,(⟨(c :: r).toArray⟩:ByteArray)[0]'h=c:=fun _=>rfl
    cases ok with
    |false=>
     have a6:zS (g.take (k+1))=zS (g.take k):=by rw[I];simp
     have ao:=zdG a6
     have a7:∀W,Calls Tryz.prog 210 #[.string ⟨(c :: r).toArray⟩] W fun e w'=>∃nm vl:List UInt8,e=.returned (.tuple #[.agg #[.string ⟨nm.toArray⟩,.string ⟨vl.toArray⟩],.bool false])∧Below W.heap.size W w':=fun W=>(d W).mono fun e w' ⟨nm,vl,h1,_,h3⟩=>⟨nm,vl,h1,h3⟩
     have ap:=zdG a7
     clear a6 d I O a7
     go_wp2_with (first
      |(go_at_call 210;refine(ap.out _).mono ?_;rintro e w2 ⟨nm,vl,rfl,J⟩;have aq:=zdG J;clear J)
      |fail)
     have l:Hid (SfR we (w2.alloc (.cells #[.string ⟨nm.toArray⟩,.string ⟨vl.toArray⟩] 253)) g (.slice (some ⟨b3,j,none⟩) n y) hh (k+1) (.slice A1 mm Y) h):=zdG (by rw[←ad.out];exact C.out.same (za aq.out (below_alloc1 _ _)) ao.out)
     refine⟨?_,by simp[intOf];omega⟩
     first|exact⟨k+1,h,by omega,by go_num,l⟩|((repeat apply Exists.intro);exact⟨⟨k+1,h,by omega,by go_num,l⟩,rfl⟩)
    |true=>
     have hc:=O rfl
     have b1:((c.toNat:Int)==32)=false:=ZN c 32 (by decide) hc.1
     have b2:((c.toNat:Int)==9)=false:=ZN c 9 (by decide) hc.2
     have cc:((c.toNat:Int) !=32)=true:=by rw[bne,b1];rfl
     have cd:((c.toNat:Int) !=9)=true:=by rw[bne,b2];rfl
     have a6:zS (g.take (k+1))=zS (g.take k)++[(fa,fb)]:=by rw[I];simp
     have ao:=zdG a6
     have a7:∀W,Calls Tryz.prog 210 #[.string ⟨(c :: r).toArray⟩] W fun e w'=>e=.returned (.tuple #[.agg #[.string ⟨fa.toArray⟩,.string ⟨fb.toArray⟩],.bool true])∧Below W.heap.size W w':=fun W=>(d W).mono fun e w' ⟨nm,vl,h1,h2,h3⟩=>by
      have h4:=h2 rfl
      injection h4 with h5 h6
      subst h5 h6
      exact⟨h1,h3⟩
     have a8:=C.out.sl
     rw[ad.out] at a8
     have b4:=zdG a8
     have ap:=zdG a7
     clear a6 d I O hc a8 b1 b2 a7
     go_wp2_with (first
      |(go_at_call 210;refine(ap.out _).mono ?_;rintro e w2 ⟨rfl,J⟩;have aq:=zdG J;have br:Hid (Sl w2 253 2 (.slice A1 mm Y) h mm (zk XT (zS (g.take k)))):=zdG (b4.out.keep (fun b U=>J.block b (b4.out.lt b U)));have b5:w2.cell? ⟨b3,j+k,none⟩=some (.string ⟨(c :: r).toArray⟩):=(J.cell (p:=⟨b3,j+k,none⟩) (Nat.lt_of_lt_of_le av C.out.below.size)).trans cs;have ce:=(World.cell?_alloc_lt w2 (.cells #[.string ⟨fa.toArray⟩,.string ⟨fb.toArray⟩] 253) ⟨b3,j+k,none⟩ (Nat.lt_of_lt_of_le (Nat.lt_of_lt_of_le av C.out.below.size) J.size)).trans b5;clear J b5)
      |(at_builtin;refine yI rfl _ _ 225 rfl Tryz.underlying225 hj bt bu bw rfl (by decide) (br.out.alloc _) rfl (w2.heap.size+1) (by simp) 1 1 rfl rfl ?_ ?_ ?_ ?_)
      |fail)
     any_goals (first|(simp[Value.oneCell'];done)|(unfold maxLen;omega)|omega|rfl)
     ·intro v2 h2 w5 aw bg bh
      have l:Hid (SfR we w5 g (.slice (some ⟨b3,j,none⟩) n y) hh (k+1) v2 h2):=zdG (C.out.push (x:=(fa,fb)) (za aq.out (below_alloc1 _ _)) ao.out (by rw[ad.out];exact aw) bg (by rw[World.size_alloc];exact bh))
      obtain⟨A5,c0,rfl,_,_⟩:=aw.form
      clear aw bg bh
      go_wp2_with fail
      refine⟨?_,by simp[intOf];omega⟩
      first|exact⟨k+1,h2,by omega,by go_num,l⟩|((repeat apply Exists.intro);exact⟨⟨k+1,h2,by omega,by go_num,l⟩,rfl⟩)
   ·have bs:k=n:=by omega
    subst bs
    have bp:¬(k:Int) < (k:Int):=by omega
    have hu:=C.out
    have ar:g.take k=g:=List.take_of_length_le (by rw[HN.out];exact Nat.le_refl _)
    have HF:Hid (Sl wr 253 2 (.slice A1 mm Y) h (zS g).length (zk XT (zS g))):=zdG (by
     have h1:=hu.sl
     rw[ar] at h1
     rw[←ad.out,ar]
     exact h1)
    have b6:=zdG hu.own
    have b7:=zdG (ac.out.trans (hu.below.mono ac.out.size))
    clear hu ar
    go_wp2_with fail
    go_ret2
    first|exact⟨_,rfl,h,HF.out,fun b U=>Nat.le_trans ac.out.size (b6.out b U),b7.out⟩|exact⟨_,h,rfl,HF.out,fun b U=>Nat.le_trans ac.out.size (b6.out b U),b7.out⟩
end Go.Proofs.YtfhlhdmhgheonaaGreatDoor
namespace Go.Proofs.YtfhlhdmhgheonaaGreatDoor
open Go.Shelf Go.RowKit
attribute [local go_sem ↓] Go.wp_at_zero Go.wp_at_succ
theorem zbz {l:List (List UInt8×List UInt8)}{a b:List UInt8}(h:vP a=vP b):vI l a=vI l b:=by
 unfold vI
 rw[h]
theorem zdm {l:List (List UInt8×List UInt8)}{a:List UInt8}(h:(vI l a).2=false):(vI l a).1=[]:=by
 unfold vI at h ⊢
 split
 ·rename_i f hf
  rw[hf] at h
  cases h
 ·rfl
def irtN:List UInt8:=[73,110,45,82,101,112,108,121,45,84,111]
def midN:List UInt8:=[77,101,115,115,97,103,101,45,73,100]
theorem Vo (t name nm:List UInt8)(ht:t.length≤2147483648)(hn:nm.length≤4294967296)(hl:vP nm=vP name) :
  ∃(l:List (List UInt8×List UInt8)) (bp:Nat) (ok:Bool),(ok=false→zO t name=[])∧
   (∀W,Calls Tryz.prog 184 #[.string ⟨t.toArray⟩,.int .i64 0,.int .i64 t.length] W fun e w'=>∃A n cap,e=.returned (.tuple #[.slice A n cap,.int .i64 (bp:Nat)])∧RdS w' [] 2 (.slice A n cap) l.length (zk XT l)∧Below W.heap.size W w')∧
   (∀W v,RdS W [] 2 v l.length (zk XT l)→Calls Tryz.prog 185 #[v,.string ⟨nm.toArray⟩] W fun e w'=>e=.returned (.tuple #[.string ⟨(zO t name).toArray⟩,.bool ok])∧Below W.heap.size W w'):=by
 refine⟨(xw t).1,(xw t).2,(vI (xw t).1 name).2,fun h=>zdm h,fun W=>?_,fun W v hr=>?_⟩
 ·have h:=zbZ ⟨t.toArray⟩ (by show t.toArray.size≤_;simp;omega) W
  refine Calls.mono h fun e w' ⟨v,hh,h1,h2,_,h4⟩=>?_
  obtain⟨A,cap,rfl,_,_⟩:=h2.form
  exact⟨A,_,cap,h1,h2.reads [] (by simp),h4⟩
 ·have h:=zbK W v [] (xw t).1 hr nm hn (fun f hf=>by have:=VP t f hf;omega)
  rw[zbz hl] at h
  exact h
theorem QI (w:World)(g:Nat)(q:zl)(x:Acc)(h:zi w g q x)(hn:x.mails.length≤1099511627776)(hm:∀m∈x.mails,m.text.length≤2147483648)(t:List UInt8)(ht:t.length≤2147483648) :
  Calls Tryz.prog 123 #[.pointer (some ⟨g,0,none⟩),.string ⟨t.toArray⟩] w fun e w'=>e=.returned (.int .i64 (vT zO x t))∧Below w.heap.size w w':=by
 obtain⟨F0,b5,ok,a8,an,E⟩:=Vo t irt irtN ht (by decide) (by decide)
 have E:∀W v,RdS W [] 2 v F0.length (zk XT F0)→Calls Tryz.prog 185 #[v,.string ⟨#[73,110,45,82,101,112,108,121,45,84,111]⟩] W fun e w'=>e=.returned (.tuple #[.string ⟨(zO t irt).toArray⟩,.bool ok])∧Below W.heap.size W w':=E
 obtain⟨s,K⟩:∃s,vT zO x t=s:=⟨_,rfl⟩
 rw[K]
 have f:s=if zO t irt=[] then 0 else match x.mails.find? (fun m=>decide (zO m.text mid=zO t irt)) with
  |some m=>m.thread
  |none=>0:=by
  rw[←K]
  rfl
 obtain⟨z,J⟩:∃z,zO t irt=z:=⟨_,rfl⟩
 rw[J] at f a8 E
 have ae:z=[]→s=0:=fun e=>by rw[f,if_pos e]
 have af:z≠[]→s=match x.mails.find? (fun m=>decide (zO m.text mid=z)) with
  |some m=>m.thread
  |none=>0:=fun e=>by rw[f,if_neg e]
 have ag:=zdG ae
 have ah:=zdG af
 have a0:=zdG an
 have a1:=zdG E
 have aw:=zdG a8
 have O:=h.zU
 have P:=h.blk.lt
 have H:=zdG h
 have HM:=zdG hm
 obtain⟨A,Y,a9,_,_⟩:=h.mails.form
 rw[a9] at O
 obtain⟨n,aa⟩:∃n,x.mails.length=n:=⟨_,rfl⟩
 rw[aa] at O hn
 have HN:=zdG aa
 have ax:=zdG a9
 have Q:=zdG O
 clear K f ae af J h hm aa a9 an E a8 O
 cases ok with
 |false=>
  have ai:=aw.out rfl
  have a2:s=0:=ag.out ai
  subst a2
  clear ai
  go_enter Tryz.func123,Tryz.ntmps123
  go_wp2_with (first
   |(go_at_call 184;refine(a0.out _).mono ?_;rintro e w1 ⟨As,ns,cs,rfl,L,M⟩;have R:=zdG M;have S:=zdG L;clear M L)
   |(go_at_call 185;refine(a1.out _ _ S.out).mono ?_;rintro e w2 ⟨rfl,N⟩;have T:=zdG (za R.out N);clear N)
   |fail)
  go_loopw [9] (fun i wr=>i=.int .i64 0∧Hid (Below w.heap.size w wr)) (fun i _=>0)
  case atStart=>exact⟨rfl,T⟩
  case round=>
   obtain⟨rfl,Z⟩:=hrel
   have aj:wr.cell? ⟨g,11,none⟩=some (.slice A n Y):=(Z.out.cell (p:=⟨g,11,none⟩) P).trans Q.out
   by_cases al:0 < n
   ·have a3:(0:Int) < (n:Int):=by omega
    go_wp2_with fail
    go_ret
    exact⟨rfl,Z.out⟩
   ·have a3:¬(0:Int) < (n:Int):=by omega
    go_wp2_with fail
    go_ret
    exact⟨rfl,Z.out⟩
 |true=>
  go_enter Tryz.func123,Tryz.ntmps123
  go_wp2_with (first
   |(go_at_call 184;refine(a0.out _).mono ?_;rintro e w1 ⟨As,ns,cs,rfl,L,M⟩;have R:=zdG M;have S:=zdG L;clear M L)
   |(go_at_call 185;refine(a1.out _ _ S.out).mono ?_;rintro e w2 ⟨rfl,N⟩;have T:=zdG (za R.out N);clear N)
   |fail)
  go_loopw [9] (fun i wr=>∃k:Nat,k≤n∧i=.int .i64 (k:Nat)∧Hid (Below w.heap.size w wr)∧Hid (z≠[]→∀j (hj:j < x.mails.length),j < k→decide (zO x.mails[j].text mid=z)=false)) (fun i _=>n - (intOf i).toNat)
  case atStart=>exact⟨0,Nat.zero_le _,rfl,T,zdG (fun _ j hj h=>by omega)⟩
  case round=>
   clear T R S a0 a1
   obtain⟨k,hk,rfl,Z,HP⟩:=hrel
   have aj:wr.cell? ⟨g,11,none⟩=some (.slice A n Y):=(Z.out.cell (p:=⟨g,11,none⟩) P).trans Q.out
   by_cases al:k < n
   ·have a3:(k:Int) < (n:Int):=by omega
    have b2:(0:Int)≤(k:Int):=by omega
    have b3:IntKind.i64.wrap ((k:Int)+1)=(k:Int)+1:=IntWalk.i64_in _ (by omega)
    have a4:k < x.mails.length:=by rw[HN.out];exact al
    obtain⟨b,a,b1,m,ao,ab,_,ap,ac⟩:=H.out.Vx k a4
    rw[ax.out,HN.out] at ao
    injection ao with hv3 hv4 hv5
    subst hv3 hv5
    clear hv4
    have U:=HM.out _ (List.getElem_mem a4)
    have C:=Jc (fun m:zX=>decide (zO m.text mid=z)) x.mails k a4
    have l:(z≠[]→decide (zO x.mails[k].text mid=z)=false)→z≠[]→∀j (hj:j < x.mails.length),j < k+1→decide (zO x.mails[j].text mid=z)=false:=fun h0 J j hj hjk=>by
     by_cases am:j=k
     ·subst am
      exact h0 J
     ·exact HP.out J j hj (by omega)
    rw[←ap] at U C l
    obtain⟨p,pk,pm⟩:=m
    simp only at U C l
    have ak:Hid (w.cell? ⟨b,a+k * 8+1,none⟩=some (.int .i64 p.thread)):=zdG (ac 1 (by omega)).1
    have V:Hid (w.cell? ⟨b,a+k * 8+2,none⟩=some (.string ⟨p.text.toArray⟩)):=zdG (ac 2 (by omega)).1
    have d2:wr.cell? ⟨b,a+k * 8+2,none⟩=some (.string ⟨p.text.toArray⟩):=(Z.out.cell (p:=⟨b,a+k * 8+2,none⟩) ab).trans V.out
    obtain⟨F1,b6,b0,_,aq,X⟩:=Vo p.text mid midN U (by decide) (by decide)
    have X:∀W v,RdS W [] 2 v F1.length (zk XT F1)→Calls Tryz.prog 185 #[v,.string ⟨#[77,101,115,115,97,103,101,45,73,100]⟩] W fun e w'=>e=.returned (.tuple #[.string ⟨(zO p.text mid).toArray⟩,.bool b0])∧Below W.heap.size W w':=X
    have d:=zdG C
    have B:=zdG l
    have a5:=zdG aq
    have F:=zdG X
    obtain⟨th,D⟩:∃th,p.thread=th:=⟨_,rfl⟩
    obtain⟨tx,ar⟩:∃tx,p.text=tx:=⟨_,rfl⟩
    rw[D] at ak
    rw[ar] at d2 a5 V F d B
    have ay:=zdG D
    clear ac C l aq X U D ar ap
    go_upto_region 6 with(fail)
    go_cut [10] (fun v wx=>∃As ns cs,v=.slice As ns cs∧Hid (RdS wx [] 2 (.slice As ns cs) F1.length (zk XT F1))∧Hid (Below w.heap.size w wx))
    case first=>
     go_region_held3 (fun W=>W.cell? ⟨g,11,none⟩=some (.slice (some ⟨b,a,none⟩) n Y)∧W.cell? ⟨b,a+k * 8+2,none⟩=some (.string ⟨tx.toArray⟩))
      (first
       |exact⟨(a6.out.cell (p:=⟨g,11,none⟩) P).trans Q.out,(a6.out.cell (p:=⟨b,a+k * 8+2,none⟩) ab).trans V.out⟩
       |go_keep)
      (first
       |(go_at_call 184;refine(a5.out _).mono ?_;rintro e w3 ⟨As,ns,cs,rfl,au,av⟩;have a6:=zdG (za Z.out (za (zb wr) av));have G:=zdG au;clear av au)
       |fail)
     all_goals
      go_wp2_with fail
      go_meet
      exact⟨_,_,_,rfl,G,a6⟩
    case rest=>
     obtain⟨As,ns,cs,rfl,G,ad⟩:=hcut
     obtain⟨w3,rfl⟩:∃w3:World,w3=wc:=⟨_,rfl⟩
     generalize zO tx mid=y at F d B
     clear aj d2 a5 V
     rcases y with _|⟨c,r⟩
     ·have I:=zdG (B.out (fun J=>decide_eq_false (fun e=>J e.symm)))
      clear d B
      go_wp2_with (first
       |(go_at_call 185;refine(F.out _ _ G.out).mono ?_;rintro e w4 ⟨rfl,u⟩;have o:=zdG (za ad.out u);clear u)
       |fail)
      refine⟨?_,by simp[intOf];omega⟩
      first|exact⟨k+1,by omega,by go_num,o,I⟩|((repeat apply Exists.intro);exact⟨⟨k+1,by omega,by go_num,o,I⟩,rfl⟩)
     ·by_cases he:c :: r=z
      ·have a7:z≠[]:=by rw[←he];simp
       have hf:=d.out (decide_eq_true he) (HP.out a7)
       have D:s=th:=by
        rw[ah.out a7,hf]
        exact ay.out
       have HT:=zdG D
       have az:(c :: r==z)=true:=by simpa using he
       clear d B hf he a7 D
       go_wp2_with (first
        |(go_at_call 185;refine(F.out _ _ G.out).mono ?_;rintro e w4 ⟨rfl,u⟩;have o:=zdG (za ad.out u);have b4:w4.cell? ⟨g,11,none⟩=some (.slice (some ⟨b,a,none⟩) n Y):=(o.out.cell (p:=⟨g,11,none⟩) P).trans Q.out;have z1:w4.cell? ⟨b,a+k * 8+1,none⟩=some (.int .i64 th):=(o.out.cell (p:=⟨b,a+k * 8+1,none⟩) ab).trans ak.out;clear u)
        |fail)
       go_ret
       exact⟨by rw[HT.out];rfl,o.out⟩
      ·have az:(c :: r==z)=false:=by simpa using he
       have I:=zdG (B.out (fun _=>decide_eq_false he))
       clear d B he
       go_wp2_with (first
        |(go_at_call 185;refine(F.out _ _ G.out).mono ?_;rintro e w4 ⟨rfl,u⟩;have o:=zdG (za ad.out u);clear u)
        |fail)
       refine⟨?_,by simp[intOf];omega⟩
       first|exact⟨k+1,by omega,by go_num,o,I⟩|((repeat apply Exists.intro);exact⟨⟨k+1,by omega,by go_num,o,I⟩,rfl⟩)
   ·have a':k=n:=by omega
    subst a'
    have a3:¬(k:Int) < (k:Int):=by omega
    have ha:s=0:=by
     by_cases J:z=[]
     ·exact ag.out J
     ·rw[ah.out J,J2 _ _ (fun j hj=>HP.out J j hj (by rw[←HN.out];exact hj))]
    have HT:=zdG ha
    clear ha
    go_wp2_with fail
    go_ret
    exact⟨by rw[HT.out];rfl,Z.out⟩
end Go.Proofs.YtfhlhdmhgheonaaGreatDoor
