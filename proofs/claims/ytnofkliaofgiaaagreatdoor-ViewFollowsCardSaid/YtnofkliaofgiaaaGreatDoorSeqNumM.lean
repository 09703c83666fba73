/-
  The walks of text.Number and of the reference's Number: the number that digits are; the world is as it was.
-/
import Derived.Test.YtnofkliaofgiaaaGreatDoorGB
import Derived.Test.YtnofkliaofgiaaaGreatDoorGA
import Derived.Test.YtnofkliaofgiaaaGreatDoorProg
set_option maxRecDepth 100000
set_option maxHeartbeats 8000000
open Go.Proofs.Tryz
open Go renaming World→Oc
open Go.ByteArray renaming toList_eq→Pu
open Go.Ending renaming returned→RR
open List renaming drop_eq_getElem_cons→O7,eq_nil_of_length_eq_zero→Oi,getElem?_eq_getElem→Ot
open Nat renaming zero_le→OE
open _root_ renaming ByteArray→Oy,List→Ob,Option→OC,UInt8→Oz,if_neg→Om,if_pos→OG
namespace Go.Proofs.YtnofkliaofgiaaaGreatDoor
open Go.RowKit
def ZM:Ob Oz→Int→OC Int
 |[],n=>some n
 |c :: r,n=>if (c.toNat:Int) < 48∨57 < (c.toNat:Int) then none else ZM r (n * 10+((c.toNat:Int) - 48))
def XX (l:Ob Oz):Int×Bool:=
 if l=[]∨10 < l.length∨(l.head?=some 48∧1 < l.length) then (0,false)
 else match ZM l 0 with
  |some n=>if 4294967295 < n then (0,false) else (n,true)
  |none=>(0,false)
theorem cY (s:Oy)(k:Nat)(h:k < s.size)(n:Int)(h1:¬(s[k].toNat:Int) < 48)(h2:¬57 < (s[k].toNat:Int)) :
  ZM (s.data.toList.drop k) n=ZM (s.data.toList.drop (k+1)) (n * 10+((s[k].toNat:Int) - 48)):=by
 rw[O7 vZ]
 show (if _ then _ else _)=_
 exact Om fun h=>h.elim h1 h2
theorem UA (s:Oy)(k:Nat)(h:k < s.size)(n:Int)(hb:(s[k].toNat:Int) < 48∨57 < (s[k].toNat:Int)) :
  ZM (s.data.toList.drop k) n=none:=by
 rw[O7 vZ]
 exact OG hb
theorem jW (s:Oy)(n:Int):ZM (s.data.toList.drop s.size) n=some n:=by
 rw[List.drop_of_length_le zv]
 rfl
theorem dF {k:Nat}{n d:Int}(_:0≤n)(h:n < 10 ^ k)(hd:0≤d)(hd9:d≤9):n * 10+d < 10 ^ (k+1):=by
 rw[Int.pow_succ]
 omega
theorem Qo {k:Nat}(h:k≤10){n:Int}(hn:n < 10 ^ k):n < 10000000000:=by
 have a:∀j:Nat,j≤10→(10:Int) ^ j≤10000000000:=zD
 have:=a k h
 omega
theorem eV (s:Oy)(w:Oc)(hs:s.size≤140737488351232) :
  C 52 #[.string s] w fun e w'=>e=RR (.tuple #[I (XX s.data.toList).1,.bool (XX s.data.toList).2])∧w=w':=by
 obtain⟨r,b,hb⟩:∃r b,XX s.data.toList=(r,b):=⟨_,_,rfl⟩
 rw[hb]
 have dz:=V hb
 clear hb
 by_cases g:s=ByteArray.empty
 ·subst g
  have hb:=dz.o
  injection hb with h1 h2
  subst h1 h2
  clear dz
  go_enter func52,ntmps52
  go_wp2_with fail
  go_ret2
  exact⟨rfl,rfl⟩
 ·have u:s.toList.isEmpty=false:=by
   rw[Pu,List.isEmpty_eq_false_iff]
   exact fun h=>g (Z8 s [] h)
  have h0:0 < s.size:=by
   rcases Nat.eq_zero_or_pos s.size with h|h
   ·exact absurd (Z8 s [] (Oi vZ)) g
   ·exact h
  have Et:s.data.toList≠[]:=fun h=>g (Z8 s [] h)
  clear g
  by_cases f:10 < s.size
  ·have hb:(0,false)=(r,b):=by rw[←dz.o];unfold XX;rw[OG (.inr (.inl (by simpa using f)))]
   exact FT
  ·by_cases a:(s[0].toNat:Int)=48∧1 < s.size
   ·obtain⟨a,Iu⟩:=a
    have hb:(0,false)=(r,b):=by
     have t:s.data.toList.head?=some 48:=by
      rw[List.head?_eq_getElem?,Ot Xq]
      have:s[0].toNat=(48:Oz).toNat:=by show s[0].toNat=48;omega
      exact congrArg some (UInt8.toNat_inj.mp this)
     rw[←dz.o];unfold XX
     rw[OG (.inr (.inr ⟨t,by simpa using Iu⟩))]
    exact FT
   ·have q:(match ZM s.data.toList 0 with|some n=>if 4294967295 < n then (0,false) else (n,true)|none=>(0,false))=(r,b):=by
     rw[←dz.o];unfold XX
     rw[Om]
     rintro(h|h|⟨h,h2⟩)
     ·exact Et h
     ·exact f vZ
     ·rw[List.head?_eq_getElem?,Ot Xq] at h
      injection h with h
      exact a ⟨by show (s.data.toList[0].toNat:Int)=48;rw[h];rfl,V7⟩
    have j:=V q
    clear q dz Et
    have p:s.size≤10:=O
    have d:∀v:Int,ZM s.data.toList 0=some v→(if 4294967295 < v then ((0:Int),false) else (v,true))=(r,b):=fun v hv=>by
     have h:=j.o
     rw[hv] at h
     exact h
    have c:ZM s.data.toList 0=none→((0:Int),false)=(r,b):=fun hv=>by
     have h:=j.o
     rw[hv] at h
     exact h
    have HF:=V d
    have HN:=V c
    have l:=V a
    clear d c j a f
    go_enter func52,ntmps52
    by_cases Iu:1 < s.size
    ·have h4:¬(s[0].toNat:Int)=48:=fun h=>l.o ⟨h,Iu⟩
     have m:((s[0].toNat:Int)==48)=false:=by simpa using h4
     clear l
     go_wp2_with fail
     clear h4 m Iu
     go_loop [4,5] (fun n i=>∃(k:Nat) (v:Int),k≤s.size∧i=I k∧n=I v∧Z (ZM (s.data.toList.drop k) v=ZM s.data.toList 0)∧Z (0≤v∧v < 10 ^ k)) (fun _ i=>s.size - (intOf i).toNat)
     case atStart=>exact⟨0,0,OE _,rfl,rfl,V rfl,V ⟨zD,zD⟩⟩
     case round=>
      obtain⟨k,v,hk,rfl,rfl,HG,HV⟩:=hrel
      by_cases af:k < s.size
      ·by_cases h1:(s[k].toNat:Int) < 48
       ·have hn:=HN.o (HG.o.symm.trans (UA s k af v (.inl h1)))
        exact GQ
       ·by_cases h2:57 < (s[k].toNat:Int)
        ·have hn:=HN.o (HG.o.symm.trans (UA s k af v (.inr h2)))
         exact GQ
        ·have Ec:Z (ZM (s.data.toList.drop (k+1)) (10 * v+((s[k].toNat:Int) - 48))=ZM s.data.toList 0):=V (Int.mul_comm v 10 ▸ (cY s k af v h1 h2).symm.trans HG.o)
         have hp:=dF HV.o.1 HV.o.2 (show 0≤(s[k].toNat:Int) - 48 by omega) (show (s[k].toNat:Int) - 48≤9 by omega)
         have v0:0≤v:=HV.o.1
         have v9:v < 10000000000:=Qo O HV.o.2
         rw[Int.mul_comm v 10] at hp
         have HP:=V hp
         clear hp HG HV HF HN
         go_wp2_with fail
         go_round
         case rel=>exact⟨k+1,_,O,zE,rfl,Ec,V ⟨O,HP.o⟩⟩
         case measure=>simp[intOf];omega
      ·have xq:k=s.size:=O
       subst xq
       have hv:=HG.o
       rw[jW] at hv
       have hn:=HF.o v hv.symm
       have v0:0≤v:=HV.o.1
       have v9:v < 10000000000:=Qo O HV.o.2
       clear HF HN HG HV hv
       by_cases hb:4294967295 < v
       ·rw[OG hb] at hn
        exact IJ
       ·rw[Om hb] at hn
        exact IJ
    ·clear l
     by_cases h4:(s[0].toNat:Int)=48
     ·exact zzm4q
     ·exact zzm4q
end Go.Proofs.YtnofkliaofgiaaaGreatDoor
