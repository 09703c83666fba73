/-
  What the program's texts of code points, and the names of mailboxes, are in plain words. The walks of the program's code points: how many bytes a first byte tells of, a code point's bytes. The walks of the program's code points, further: the one at a place, whether all are; and of a mailbox's name. The walk of what is wrong with a mailbox's name. The walk of the store's Make: what it hands back, a
-/
import Derived.Test.YtnofkliaofgiaaaGreatDoorGB
import Derived.Test.YtnofkliaofgiaaaGreatDoorGA
import Derived.Test.YtnofkliaofgiaaaGreatDoorGD
import Derived.Test.YtnofkliaofgiaaaGreatDoorGF
import Derived.Test.YtnofkliaofgiaaaGreatDoorProg
import Derived.Laws.BitsLemmas
import Derived.Deep.QuietTactic
import Derived.BigQuiet
import Derived.Deep.RegionLaw
import Derived.Deep.DrawnRows
set_option maxRecDepth 100000
set_option maxHeartbeats 8000000
open Go.Proofs.Tryz
open Bool renaming and_eq_true→PP
open Exists renaming intro→OA
open Go renaming TypeId→Pa,Value→Oe,World→Oc
open Go.Ending renaming returned→RR
open Go.IntKind renaming i64→Ov,u8→Rh
open Go.IntWalk renaming i64_in→Og
open Go.Proofs renaming enters_of→O9
open Go.RowKit renaming Below→Od
open Go.RowKit.Below renaming refl→Ok
open Go.Value renaming pointer→RQ,slice→RO,string→RP
open Go.World renaming cell?_alloc_lt→Ox,cell?_alloc_past→Pw,frozen?_alloc_past→Pn
open List renaming drop_eq_getElem_cons→O7,eq_nil_of_length_eq_zero→Oi,length_append→Oo,length_cons→OT,length_drop→O8,length_take→OU,take_of_length_le→Ou,take_succ_eq_append_getElem→Oh
open Nat renaming add_assoc→O1,le_refl→Oq,mul_le_mul_right→PG,zero_le→OE
open Option.some renaming injEq→Pk
open Prod.mk renaming injEq→Rt
open UInt8 renaming ofNat→OW
open _root_ renaming ByteArray→Oy,List→Ob,Option→OC,UInt8→Oz,decide_eq_false→OD,decide_eq_true→OS,if_neg→Om,if_pos→OG
namespace Go.Proofs.YtnofkliaofgiaaaGreatDoor
section
def vt (c:Nat):Nat×Nat:=
 if c < 128 then (1,c) else if 192≤c∧c < 224 then (2,c % 32) else if 224≤c∧c < 240 then (3,c % 16) else if 240≤c∧c < 248 then (4,c % 8) else (0,0)
def gS (r:Nat):Ob Oz:=
 if 1114111 < r∨(55296≤r∧r≤57343) then []
 else if r < 128 then [OW r]
 else if r < 2048 then [OW (192+r / 64),OW (128+r % 64)]
 else if r < 65536 then [OW (224+r / 4096),OW (128+r / 64 % 64),OW (128+r % 64)]
 else [OW (240+r / 262144),OW (128+r / 4096 % 64),OW (128+r / 64 % 64),OW (128+r % 64)]
def Zp (r:Nat)(l:Ob Oz):Nat:=l.foldl (fun r b=>r * 64+b.toNat % 64) r
def bK:Ob Oz→OC (Nat×Nat)
 |[]=>none
 |c :: r=>if (vt c.toNat).1=0∨r.length+1 < (vt c.toNat).1 then none
  else if gS (Zp (vt c.toNat).2 (r.take ((vt c.toNat).1 - 1)))=c :: r.take ((vt c.toNat).1 - 1) then some (Zp (vt c.toNat).2 (r.take ((vt c.toNat).1 - 1)),(vt c.toNat).1)
  else none
theorem rB (c:Nat):(vt c).1≤4:=by
 unfold vt
 repeat' split
 all_goals simp
theorem QK {l:Ob Oz}{v n:Nat}(h:bK l=some (v,n)):1≤n∧n≤l.length∧n≤4:=by
 cases l with
 |nil=>simp[bK] at h
 |cons c r=>
  rw[bK] at h
  by_cases a:(vt c.toNat).1=0∨r.length+1 < (vt c.toNat).1
  ·rw[OG a] at h
   cases h
  ·rw[Om a] at h
   by_cases b:gS (Zp (vt c.toNat).2 (r.take ((vt c.toNat).1 - 1)))=c :: r.take ((vt c.toNat).1 - 1)
   ·rw[OG b] at h
    simp only[Pk,Rt] at h
    have:=rB c.toNat
    rw[OT]
    omega
   ·rw[Om b] at h
    cases h
def uM:Nat→Ob Oz→Bool
 |0,_=>true
 |f+1,l=>match l with
  |[]=>true
  |_ :: _=>match bK l with
   |none=>false
   |some (_,n)=>uM f (l.drop n)
theorem aJ:∀(f:Nat) (l:Ob Oz),l.length≤f→uM (f+1) l=uM f l
 |0,l,h=>by
  obtain rfl:l=[]:=Oi O
  rfl
 |f+1,[],_=>rfl
 |f+1,c :: r,h=>by
  rw[uM,uM]
  cases hg:bK (c :: r) with
  |none=>rfl
  |some p=>
   obtain⟨v,n⟩:=p
   have h1:=QK hg
   simp only
   exact aJ f _ (by rw[O8];omega)
def gR (c:Nat):Bool:=decide (c < 32)||(decide (c=127)||(decide (c=47)||(decide (c=42)||decide (c=37))))
def zY (t:Ob Oz):Bool:=!decide (t=[]) && (decide (t.length≤64) && (uM t.length t && t.all fun c=>!gR c.toNat))
end
section
open Go.RowKit
theorem Ls (c n b:Int)(h0:0≤c)(h1:c < 256)(hn:(((vt c.toNat).1:Nat):Int)=n)(hb:(((vt c.toNat).2:Nat):Int)=b)(w:Oc) :
  C 245 #[.int .u8 c] w fun e w'=>e=RR (.tuple #[I n,I b])∧w=w':=by
 have k:=u8_and31 c h0 h1
 have j:=u8_and15 c h0 h1
 have u:=u8_and7 c h0 h1
 by_cases l:c < 128
 ·have e:vt c.toNat=(1,c.toNat):=by unfold vt;rw[OG O]
  rw[e] at hn hb
  simp only at hn hb
  have a:c=b:=O
  subst a hn
  have d:Ov.wrap c=c:=Og _ O
  exact IK
 by_cases a2:192≤c∧c < 224
 ·obtain⟨a2,a3⟩:=a2
  have e:vt c.toNat=(2,c.toNat % 32):=by unfold vt;rw[Om O,OG O]
  rw[e] at hn hb
  simp only at hn hb
  have a:c % 32=b:=O
  subst a hn
  have d:Ov.wrap (c % 32)=c % 32:=Og _ O
  exact IK
 by_cases a3:224≤c∧c < 240
 ·obtain⟨a3,a4⟩:=a3
  have e:vt c.toNat=(3,c.toNat % 16):=by unfold vt;rw[Om O,Om O,OG O]
  rw[e] at hn hb
  simp only at hn hb
  have a:c % 16=b:=O
  subst a hn
  have d:Ov.wrap (c % 16)=c % 16:=Og _ O
  have f:192≤c:=O
  have g:¬c < 224:=O
  clear hb e a2
  go_enter func245,ntmps245
  go_wp2
  go_ret2
  exact⟨rfl,rfl⟩
 by_cases a4:240≤c∧c < 248
 ·obtain⟨a4,f⟩:=a4
  have e:vt c.toNat=(4,c.toNat % 8):=by unfold vt;rw[Om O,Om O,Om O,OG O]
  rw[e] at hn hb
  simp only at hn hb
  have a:c % 8=b:=O
  subst a hn
  have d:Ov.wrap (c % 8)=c % 8:=Og _ O
  have g:192≤c:=O
  have m:¬c < 224:=O
  have o:224≤c:=O
  have p:¬c < 240:=O
  clear hb e a2 a3
  go_enter func245,ntmps245
  go_wp2
  go_ret2
  exact⟨rfl,rfl⟩
 ·have e:vt c.toNat=(0,0):=by unfold vt;rw[Om O,Om O,Om O,Om O]
  rw[e] at hn hb
  simp only at hn hb
  subst hb hn
  clear e
  by_cases q:192≤c
  ·have h:¬c < 224:=O
   have i:224≤c:=O
   have r:¬c < 240:=O
   have s:240≤c:=O
   have t:¬c < 248:=O
   exact IC
  ·have h:¬224≤c:=O
   have i:¬240≤c:=O
   exact IC
theorem Ld (r:Int)(h0:0≤r)(h1:r < 1073741824)(w:Oc) :
  C 271 #[I r] w fun e w'=>e=RR (.int .u8 (128+r % 64))∧w=w':=by
 have a:bits .and .i64 r 63=r % 64:=bits_mask .i64 62 zD (fun n h0 h1=>Og _ O) 6 zD r h0 O
 have b:bits .or .i64 128 (r % 64)=128+r % 64:=bits_join .i64 62 zD (fun n h0 h1=>Og _ O) 6 128 (r % 64) O O O O O O
 have c:Rh.wrap (128+r % 64)=128+r % 64:=YO
 go_enter func271,ntmps271
 go_wp2
 go_ret
 exact⟨rfl,rfl⟩
theorem Ve {w:Oc}{g i:Nat}{t:Pa}{cs:Array Oe}(h:w.heap[g]?=some (.cells cs t (0,0))):w.frozen? (Y g i)=false:=by
 unfold World.frozen?
 simp only[h]
 simp
theorem conv1 (a:Int)(ha:0≤a∧a < 256)(W:Oc):Sem.run prog (convert 95 9 (RO (some (Y W.heap.size 0)) 1 1)) (W.alloc (.cells #[.int .u8 a] 5))=.ok (RP ⟨[OW a.toNat].toArray⟩) (W.alloc (.cells #[.int .u8 a] 5)):=by
 refine uA underlying95 underlying5 (l:=[OW a.toNat]) (fun j hj=>?_) 1 rfl 9 underlying9
 have b:(W.alloc (.cells #[.int .u8 a] 5)).heap[W.heap.size]?=some (.cells #[.int .u8 a] 5 (0,0)):=heap_alloc_new W _
 refine⟨?_,Ve b⟩
 rw[cell_of_row _ _ _ _ _ (0,0) b]
 match j,hj with
 |0,_=>simp;omega
theorem conv2 (a b:Int)(ha:0≤a∧a < 256)(hb:0≤b∧b < 256)(W:Oc):Sem.run prog (convert 95 9 (RO (some (Y W.heap.size 0)) 2 2)) (W.alloc (.cells #[.int .u8 a,.int .u8 b] 5))=.ok (RP ⟨[OW a.toNat,OW b.toNat].toArray⟩) (W.alloc (.cells #[.int .u8 a,.int .u8 b] 5)):=by
 refine uA underlying95 underlying5 (l:=[OW a.toNat,OW b.toNat]) (fun j hj=>?_) 2 rfl 9 underlying9
 have c:(W.alloc (.cells #[.int .u8 a,.int .u8 b] 5)).heap[W.heap.size]?=some (.cells #[.int .u8 a,.int .u8 b] 5 (0,0)):=heap_alloc_new W _
 refine⟨?_,Ve c⟩
 rw[cell_of_row _ _ _ _ _ (0,0) c]
 match j,hj with
 |0,_=>simp;omega
 |1,_=>simp;omega
theorem conv3 (a b c:Int)(ha:0≤a∧a < 256)(hb:0≤b∧b < 256)(hc:0≤c∧c < 256)(W:Oc):Sem.run prog (convert 95 9 (RO (some (Y W.heap.size 0)) 3 3)) (W.alloc (.cells #[.int .u8 a,.int .u8 b,.int .u8 c] 5))=.ok (RP ⟨[OW a.toNat,OW b.toNat,OW c.toNat].toArray⟩) (W.alloc (.cells #[.int .u8 a,.int .u8 b,.int .u8 c] 5)):=by
 refine uA underlying95 underlying5 (l:=[OW a.toNat,OW b.toNat,OW c.toNat]) (fun j hj=>?_) 3 rfl 9 underlying9
 have d:(W.alloc (.cells #[.int .u8 a,.int .u8 b,.int .u8 c] 5)).heap[W.heap.size]?=some (.cells #[.int .u8 a,.int .u8 b,.int .u8 c] 5 (0,0)):=heap_alloc_new W _
 refine⟨?_,Ve d⟩
 rw[cell_of_row _ _ _ _ _ (0,0) d]
 match j,hj with
 |0,_=>simp;omega
 |1,_=>simp;omega
 |2,_=>simp;omega
theorem conv4 (a b c d:Int)(ha:0≤a∧a < 256)(hb:0≤b∧b < 256)(hc:0≤c∧c < 256)(hd:0≤d∧d < 256)(W:Oc):Sem.run prog (convert 95 9 (RO (some (Y W.heap.size 0)) 4 4)) (W.alloc (.cells #[.int .u8 a,.int .u8 b,.int .u8 c,.int .u8 d] 5))=.ok (RP ⟨[OW a.toNat,OW b.toNat,OW c.toNat,OW d.toNat].toArray⟩) (W.alloc (.cells #[.int .u8 a,.int .u8 b,.int .u8 c,.int .u8 d] 5)):=by
 refine uA underlying95 underlying5 (l:=[OW a.toNat,OW b.toNat,OW c.toNat,OW d.toNat]) (fun j hj=>?_) 4 rfl 9 underlying9
 have e:(W.alloc (.cells #[.int .u8 a,.int .u8 b,.int .u8 c,.int .u8 d] 5)).heap[W.heap.size]?=some (.cells #[.int .u8 a,.int .u8 b,.int .u8 c,.int .u8 d] 5 (0,0)):=heap_alloc_new W _
 refine⟨?_,Ve e⟩
 rw[cell_of_row _ _ _ _ _ (0,0) e]
 match j,hj with
 |0,_=>simp;omega
 |1,_=>simp;omega
 |2,_=>simp;omega
 |3,_=>simp;omega
theorem put_any (r:Int)(h0:0≤r)(h1:r < 1073741824)(p:Ob Oz)(hp:gS r.toNat=p)(w:Oc) :
  C 246 #[I r] w fun e w'=>e=RR (RP ⟨p.toArray⟩)∧Od w w w':=by
 by_cases k:1114111 < r
 ·have e:p=[]:=fX
  exact GY
 by_cases b:55296≤r∧r≤57343
 ·have e:p=[]:=fX
  obtain⟨b,i⟩:=b
  exact GY
 by_cases i:r < 128
 ·have e:p=[OW r.toNat]:=IY
  subst e
  have o:Rh.wrap r=r:=YO
  have c:=conv1 r O w
  have b1:¬55296≤r:=O
  clear hp b
  go_enter func246,ntmps246
  go_wp2
  go_ret
  exact⟨rfl,(Ok _ w).alloc (Oq _) _⟩
 have a:=Ld
 by_cases l:r < 2048
 ·have e:p=[OW (192+r / 64).toNat,OW (128+r % 64).toNat]:=by
   exact Nu
  have g:bits .or .i64 192 (r / 64)=192+r / 64:=bits_join .i64 62 zD (fun n h0 h1=>Og _ O) 6 192 (r / 64) O O O O O O
  have h:Rh.wrap (192+r / 64)=192+r / 64:=YO
  have c:=conv2 (192+r / 64) (128+r % 64) O O w
  rw[←e] at c
  have hm1:=a r h0 h1
  have b1:¬55296≤r:=O
  clear hp b a e
  go_enter func246,ntmps246
  go_wp2_with (first
   |(go_at_call 271;refine(hm1 _).mono ?_;rintro e w1 ⟨rfl,rfl⟩)
   |fail)
  go_ret
  exact⟨rfl,(Ok _ w).alloc (Oq _) _⟩
 by_cases m:r < 65536
 ·have e:p=[OW (224+r / 4096).toNat,OW (128+r / 64 % 64).toNat,OW (128+r % 64).toNat]:=by
   exact MJ
  have g:bits .or .i64 224 (r / 4096)=224+r / 4096:=bits_join .i64 62 zD (fun n h0 h1=>Og _ O) 5 224 (r / 4096) O O O O O O
  have h:Rh.wrap (224+r / 4096)=224+r / 4096:=YO
  have c:=conv3 (224+r / 4096) (128+r / 64 % 64) (128+r % 64) O O O w
  rw[←e] at c
  have hm1:=a r h0 h1
  have hm2:=a (r / 64) O O
  have b1:55296≤r→¬r≤57343:=fun h1 h2=>b ⟨h1,h2⟩
  clear hp b a e
  go_enter func246,ntmps246
  by_cases f:55296≤r
  ·have j:=b1 f
   exact MO
  ·exact MO
 ·have e:p=[OW (240+r / 262144).toNat,OW (128+r / 4096 % 64).toNat,OW (128+r / 64 % 64).toNat,OW (128+r % 64).toNat]:=by
   exact Mw
  have g:bits .or .i64 240 (r / 262144)=240+r / 262144:=bits_join .i64 62 zD (fun n h0 h1=>Og _ O) 4 240 (r / 262144) O O O O O O
  have h:Rh.wrap (240+r / 262144)=240+r / 262144:=YO
  have c:=conv4 (240+r / 262144) (128+r / 4096 % 64) (128+r / 64 % 64) (128+r % 64) O O O O w
  rw[←e] at c
  have hm1:=a r h0 h1
  have hm2:=a (r / 64) O O
  have d:=a (r / 4096) O O
  have f:55296≤r:=O
  have j:¬r≤57343:=O
  clear hp b a e
  go_enter func246,ntmps246
  go_wp2_with (first
   |(go_at_call 271;(with_reducible refine(d _).mono ?_);rintro e w1 ⟨rfl,rfl⟩;clear d)
   |(go_at_call 271;(with_reducible refine(hm2 _).mono ?_);rintro e w1 ⟨rfl,rfl⟩;clear hm2)
   |(go_at_call 271;refine(hm1 _).mono ?_;rintro e w1 ⟨rfl,rfl⟩)
   |fail)
  go_ret
  exact⟨rfl,(Ok _ w).alloc (Oq _) _⟩
theorem sL (b:Nat)(l:Ob Oz)(c:Oz):Zp b (l++[c])=Zp b l * 64+c.toNat % 64:=by simp[Zp]
theorem qH (b:Nat):∀l:Ob Oz,Zp b l < (b+1) * 64 ^ l.length:=by
 intro l
 induction l generalizing b with
 |nil=>simp[Zp]
 |cons c r ih=>
  have h:=ih (b * 64+c.toNat % 64)
  have a:Zp b (c :: r)=Zp (b * 64+c.toNat % 64) r:=rfl
  rw[a,OT,Nat.pow_succ]
  have d:b * 64+c.toNat % 64+1≤(b+1) * 64:=O
  calc Zp (b * 64+c.toNat % 64) r < (b * 64+c.toNat % 64+1) * 64 ^ r.length:=h
   _≤((b+1) * 64) * 64 ^ r.length:=PG _ d
   _=(b+1) * (64 ^ r.length * 64):=by rw[Nat.mul_assoc,Nat.mul_comm 64]
theorem wF (c:Nat):(vt c).2 < 128:=by
 unfold vt
 repeat' split
 all_goals (simp only;omega)
theorem mP (c:Nat)(l:Ob Oz)(hl:l.length≤3):Zp (vt c).2 l < 33554432:=by
 have a:=qH (vt c).2 l
 have d:=wF c
 have b:64 ^ l.length≤64 ^ 3:=Nat.pow_le_pow_right O hl
 calc Zp (vt c).2 l < ((vt c).2+1) * 64 ^ l.length:=a
  _≤128 * 64 ^ 3:=Nat.mul_le_mul O b
theorem bdrop {B:Nat}{w w':Oc}(h:Od B w.drew w'):Od B w w':=⟨h.os,h.tape,h.output,h.size,h.block⟩
def sR (s:Oy)(k:Nat):Int×Int:=match bK (s.data.toList.drop k) with
 |none=>(-1,k)
 |some (a,n)=>(a,((k+n:Nat):Int))
theorem VJ (s:Oy)(k:Nat)(hk:k < s.size):s.data.toList.drop k=s[k] :: s.data.toList.drop (k+1):=by
 rw[O7 yi]
 rfl
theorem DN (s:Oy)(k j:Nat)(hk:k+j < s.size):(s.data.toList.drop k).take (j+1)=(s.data.toList.drop k).take j++[s[k+j]]:=by
 rw[Oh zT]
 simp
 rfl
theorem LK (s:Oy)(k n:Nat):s.extract k (k+n)=⟨((s.data.toList.drop k).take n).toArray⟩:=by
 apply Z8
 rw[ByteArray.data_extract,Array.toList_extract]
 simp[List.extract_eq_take_drop]
theorem BH (s:Oy)(k:Nat)(hk:k < s.size)(hs:s.size≤4294967296)(v x:Int)(hv:sR s k=(v,x))(w:Oc) :
  C 206 #[.string s,I k] w fun e w'=>e=RR (.tuple #[I v,I x])∧Od w w w':=by
 have N:=s[k].toNat_lt
 obtain⟨n,l⟩:∃n,(vt s[k].toNat).1=n:=⟨_,rfl⟩
 obtain⟨b,h⟩:∃b,(vt s[k].toNat).2=b:=⟨_,rfl⟩
 have Eb:=Ls (s[k].toNat:Int) n b O O (by simp[l]) (by simp[h])
 have H:n≤4:=by rw[←l];exact rB _
 have y:Ov.wrap ((s.size:Int) - k)=(s.size:Int) - k:=Og _ O
 have hlen:(s.data.toList.drop (k+1)).length+1=s.size - k:=zT
 by_cases A:n=0
 ·have e:sR s k=(-1,(k:Int)):=by
   unfold sR
   rw[VJ s k hk,bK,OG O]
  rw[e] at hv
  injection hv with h1 d
  subst h1 d
  subst A
  exact EP
 have K:((n:Int)==0)=false:=by simpa using A
 by_cases Q:s.size - k < n
 ·have e:sR s k=(-1,(k:Int)):=by
   unfold sR
   rw[VJ s k hk,bK,OG O]
  rw[e] at hv
  injection hv with h1 d
  subst h1 d
  have q:(s.size:Int) - k < n:=O
  exact EP
 ·have u:bK (s.data.toList.drop k)=if gS (Zp b ((s.data.toList.drop (k+1)).take (n - 1)))=(s.data.toList.drop k).take n then some (Zp b ((s.data.toList.drop (k+1)).take (n - 1)),n) else none:=by
   obtain⟨z,rfl⟩:∃z,n=z+1:=⟨n - 1,O⟩
   rw[VJ s k hk,bK,Om O,l,h,List.take_succ_cons,Nat.add_sub_cancel]
  have g:∀j,j≤n→Zp b ((s.data.toList.drop (k+1)).take (j - 1)) < 33554432:=fun j hj=>by
   rw[←h]
   exact mP _ _ Zh
  have q:¬(s.size:Int) - k < n:=O
  have HG:=V u
  have HV:=V hv
  have HF:=V g
  clear u hv g hlen l h
  go_enter func206,ntmps206
  go_wp2_with (first
   |(go_at_call 245;refine(Eb _).mono ?_;rintro e w1 ⟨rfl,rfl⟩)
   |fail)
  go_loop [4,7] (fun r i=>∃j f:Nat,1≤j∧j≤n∧i=I j∧r=I f∧f < 33554432∧Z (f=Zp b ((s.data.toList.drop (k+1)).take (j - 1)))) (fun _ i=>n - (intOf i).toNat)
  case atStart=>
   exact Hj
  case round=>
   obtain⟨j,f,D,E,rfl,rfl,P,HJ⟩:=hrel
   by_cases G:j < n
   ·have F:k+j < s.size:=O
    have B:=s[k+j].toNat_lt
    have L:=u8_and63 (s[k+j].toNat:Int) O O
    have M:Ov.wrap ((s[k+j].toNat:Int) % 64)=(s[k+j].toNat:Int) % 64:=Og _ O
    exact L9
   ·have m:j=n:=O
    subst m
    obtain⟨p,hp⟩:∃p,gS f=p:=⟨_,rfl⟩
    obtain⟨t,ht⟩:∃t,(s.data.toList.drop k).take j=t:=⟨_,rfl⟩
    have Fz:=fun W=>put_any (f:Int) O O p YN W
    have hcut:s.extract k (k+j)=⟨t.toArray⟩:=by rw[LK,ht]
    have e5:Ov.wrap ((k:Int)+j)=(k:Int)+j:=Og _ O
    have G5:=HG.o
    rw[←HJ.o,hp,ht] at G5
    have a:=HV.o
    unfold sR at a
    rw[G5] at a
    by_cases c:p=t
    ·rw[OG c] at a
     subst c
     simp only[Rt] at a
     obtain⟨h1,d⟩:=a
     subst h1 d
     exact MZ
    ·rw[Om c] at a
     simp only[Rt] at a
     obtain⟨h1,d⟩:=a
     subst h1 d
     have J:(p==t)=false:=by simpa using c
     exact MZ
theorem lQ:∀(d:Nat) (l:Ob Oz),uM (l.length+d) l=uM l.length l
 |0,l=>rfl
 |d+1,l=>by
  rw[←O1,aJ _ _ O]
  exact lQ d l
theorem wR {c:Oz}{r:Ob Oz}(h:bK (c :: r)=none):uM (c :: r).length (c :: r)=false:=by
 rw[OT,uM,h]
theorem Ek {c:Oz}{r:Ob Oz}{v n:Nat}(h:bK (c :: r)=some (v,n)):uM (c :: r).length (c :: r)=uM ((c :: r).drop n).length ((c :: r).drop n):=by
 have a:=QK h
 rw[OT,uM,h]
 simp only
 have b:r.length=((c :: r).drop n).length+(n - 1):=by
  rw[O8,OT]
  rw[OT] at a
  omega
 rw[b]
 exact lQ _ _
def X5 (s:Oy)(k:Nat):Bool:=uM (s.data.toList.drop k).length (s.data.toList.drop k)
theorem Qf (s:Oy)(k:Nat)(hk:k < s.size):(sR s k=(-1,(k:Int))∧X5 s k=false)∨∃v n:Nat,sR s k=((v:Int),((k+n:Nat):Int))∧1≤n∧k+n≤s.size∧X5 s k=X5 s (k+n):=by
 unfold sR X5
 rw[VJ s k hk]
 cases a:bK (s[k] :: s.data.toList.drop (k+1)) with
 |none=>exact .inl ⟨rfl,wR a⟩
 |some p=>
  obtain⟨v,n⟩:=p
  have b:=QK a
  have c:=Ek a
  refine .inr ⟨v,n,rfl,b.1,?_,?_⟩
  ·have d:=b.2.1
   rw[←VJ s k hk,O8,jJ] at d
   omega
  ·rw[c,←VJ s k hk,List.drop_drop]
theorem Ex (s:Oy)(hs:s.size≤4294967296)(w:Oc) :
  C 166 #[.string s] w fun e w'=>e=RR (.bool (uM s.size s.data.toList))∧Od w w w':=by
 obtain⟨b,g⟩:∃b,uM s.size s.data.toList=b:=⟨_,rfl⟩
 rw[g]
 have h:X5 s 0=b:=by
  unfold X5
  rw[List.drop_zero,jJ]
  exact g
 have f:=V h
 clear g h
 go_enter func166,ntmps166
 go_wp2_with fail
 go_loopw [3] (fun i wr=>∃k:Nat,k≤s.size∧i=I k∧Z (Od w w wr)∧Z (X5 s k=b)) (fun i _=>s.size - (intOf i).toNat)
 case atStart=>exact⟨0,OE _,rfl,V (Ok _ _),f⟩
 case round=>
  obtain⟨k,m,rfl,HL,HV⟩:=hrel
  by_cases d:k < s.size
  ·rcases Qf s k d with⟨hg,hf⟩|⟨v,n,hg,hn1,hn2,hf⟩
   ·have c:=BH s k d hs _ _ hg wr
    have HN:=V (HV.o.symm.trans hf)
    clear hg hf
    go_wp2_with (first
     |(go_at_call 206;refine c.mono ?_;rintro e l ⟨rfl,a⟩;have ah:=V a;clear a)
     |fail)
    go_ret
    exact⟨xy HN.o.symm,Uj HL.o ah.o⟩
   ·have c:=BH s k d hs _ _ hg wr
    have HN:=V (hf.symm.trans HV.o)
    have j:¬(v:Int) < 0:=O
    clear hg hf
    go_wp2_with (first
     |(go_at_call 206;refine c.mono ?_;rintro e l ⟨rfl,a⟩;have ah:=V a;clear a)
     |fail)
    exact EO
  ·exact M3
theorem Lm (s:Oy)(k:Nat)(h:k < s.size)(hc:gR s[k].toNat=true):zY s.data.toList=false:=by
 unfold zY
 have:(s.data.toList.all fun c=>!gR c.toNat)=false:=by
  rw[List.all_eq_false]
  exact⟨s[k],by show s.data[k]∈_;simp,by simp[hc]⟩
 simp[this]
theorem wk (s:Oy)(k:Nat)(h:k < s.size)(h0:((s.data.toList.take k).all fun c=>!gR c.toNat)=true)(hc:gR s[k].toNat=false):((s.data.toList.take (k+1)).all fun c=>!gR c.toNat)=true:=by
 rw[Vi s k h]
 simp only[List.all_append,h0,Bool.true_and]
 simp[hc]
theorem x8 (s:Oy)(hs:s.size≤140737488351232)(w:Oc) :
  C 105 #[.string s] w fun e w'=>e=RR (.bool (zY s.data.toList))∧Od w w w':=by
 obtain⟨b,h⟩:∃b,zY s.data.toList=b:=⟨_,rfl⟩
 rw[h]
 have dz:=V h
 clear h
 by_cases f:s.size=0
 ·have j:s=⟨#[]⟩:=by
   apply Z8
   exact Oi (by rw[jJ];exact f)
  subst j
  have hn:b=false:=by
   rw[←dz.o]
   rfl
  subst hn
  clear dz f
  exact Hd
 have l:(s.toList==[])=false:=ZA s [] (fun e=>f (by rw[e];rfl))
 by_cases h1:64 < s.size
 ·have hn:b=false:=by
   exact FQ
  subst hn
  have g:(64:Int) < s.size:=O
  exact Hd
 have g:¬(64:Int) < s.size:=O
 have d:=Ex s O w
 have HD:Z (∀v,uM s.size s.data.toList=v→b=(v && s.data.toList.all fun c=>!gR c.toNat)):=V (fun v hv=>by
  rw[←dz.o]
  unfold zY
  rw[jJ,hv,OS (show s.size≤64 by omega),OD (show ¬s.data.toList=[] from fun e=>f (by rw[←jJ s,e];rfl))]
  rfl)
 generalize uM s.size s.data.toList=v at d HD
 cases v with
 |false=>
  have hn:b=false:=by rw[HD.o false rfl];simp
  subst hn
  clear HD
  go_enter func105,ntmps105
  go_wp2_with (first
   |(go_at_call 166;refine d.mono ?_;rintro e m ⟨rfl,a⟩;have ah:=V a;clear a)
   |fail)
  go_ret
  exact⟨rfl,ah.o⟩
 |true=>
  go_enter func105,ntmps105
  go_wp2_with (first
   |(go_at_call 166;refine d.mono ?_;rintro e m ⟨rfl,a⟩;have ah:=V a;clear a)
   |fail)
  go_loop [19] (fun i=>∃k:Nat,k≤s.size∧i=I k∧Z (((s.data.toList.take k).all fun c=>!gR c.toNat)=true)) (fun i=>s.size - (intOf i).toNat)
  case atStart=>exact⟨0,OE _,rfl,V rfl⟩
  case round=>
   exact zzm3q
end
section
open Go.Shelf Go.RowKit
attribute [local go_sem ↓] Go.wp_at_zero Go.wp_at_succ
def Zz (x:Acc)(nl:yx)(zB but:Int)(k:Nat):Bool:=(decide (zB=0) && decide (Zn nl=Zn Z3))||(x.zg.take k).any (fun b=>decide (b.id≠but) && (decide (b.zB=zB) && decide (b.name=nl)))
def XW (x:Acc)(but:Int)(k:Nat):Nat:=((x.zg.take k).filter fun b=>decide (b.id≠but)).length
theorem jU (x:Acc)(nl:yx)(zB but:Int)(k:Nat)(hk:k < x.zg.length):Zz x nl zB but (k+1)=(Zz x nl zB but k||(decide (x.zg[k].id≠but) && (decide (x.zg[k].zB=zB) && decide (x.zg[k].name=nl)))):=by
 unfold Zz
 rw[Oh hk,List.any_append,List.any_cons,List.any_nil,Bool.or_false,Bool.or_assoc]
theorem jT (x:Acc)(but:Int)(k:Nat)(hk:k < x.zg.length):XW x but (k+1)=XW x but k+(if x.zg[k].id≠but then 1 else 0):=by
 unfold XW
 rw[Oh hk,List.filter_append,Oo]
 by_cases h:x.zg[k].id=but <;> simp[h]
theorem CN (x:Acc)(nl:yx)(zB but:Int)(h:¬(zB≠0∧zZ x.zg zB=false)) :
  xT x nl zB but=if Zz x nl zB but x.zg.length=true then 5 else if x.N3.xl≤(XW x but x.zg.length:Int) then 8 else 0:=by
 unfold xT Zz XW
 rw[Om h,Ou (Oq _)]
 have a:((zB=0∧Zn nl=Zn Z3)∨x.zg.any (fun b=>decide (b.id≠but) && (decide (b.zB=zB) && decide (b.name=nl)))=true)↔((decide (zB=0) && decide (Zn nl=Zn Z3))||x.zg.any (fun b=>decide (b.id≠but) && (decide (b.zB=zB) && decide (b.name=nl))))=true:=by
  rw[Bool.or_eq_true_iff,Bool.and_eq_true_iff,decide_eq_true_iff,decide_eq_true_iff]
 simp only[a]
theorem uT (w:Oc)(g:Nat)(q:zW)(x:Acc)(h:zH w g q x)(hn:x.zg.length≤1099511627776)(nl:yx)(hnl:nl.length≤1099511627776)(zB but:Int) :
  C 106 #[Y g 0,Oa nl,I zB,I but] w fun e w'=>e=RR (I (xT x nl zB but))∧Od w w w':=by
 have H:=fun W (he:W.heap=w.heap)=>vE g q.vb [] x.zg zB W ((yD he _).trans h.yZ) ((h.zg.heap he).reads [] zv) hn
 have oo:=ua zB x.zg
 by_cases hA:zB≠0∧zZ x.zg zB=false
 ·have f:xT x nl zB but=6:=by
   unfold xT
   rw[OG hA]
  rw[f]
  rw[hA.2] at oo
  have hp:(zB !=0)=true:=by simpa using hA.1
  have af:xC zB x.zg < 0:=JC
  generalize xC zB x.zg=r at H af
  have U:=H w rfl
  clear H f oo hA h
  go_enter func106,ntmps106
  go_wp2_with (first
   |(go_at_call 119;refine U.mono ?_;rintro e w3 ⟨rfl,B⟩;have J:=V B;clear B)
   |fail)
  go_ret
  exact⟨rfl,J.o⟩
 have f:=CN x nl zB but hA
 obtain⟨t0,ag⟩:∃t0,Zz x nl zB but 0=t0:=⟨_,rfl⟩
 have a0:zB=0∨(¬zB=0∧0≤xC zB x.zg):=by
  by_cases hp:zB=0
  ·exact .inl hp
  ·have h2:zZ x.zg zB=true:=by
    exact pc
   rw[h2] at oo
   have h3:¬xC zB x.zg < 0:=JC
   exact .inr ⟨hp,O⟩
 have hf:=fun W=>Up ⟨nl.toArray⟩ W uP
 have ac:=fun W=>Up ⟨#[73,78,66,79,88]⟩ W zD
 generalize xT x nl zB but=rr at f ⊢
 generalize xC zB x.zg=r at H a0
 have U:=H w rfl
 obtain⟨n,a3⟩:∃n,x.zg.length=n:=⟨_,rfl⟩
 have a7:=V f
 have HW:=V h
 have S:=V ag
 have ai:=V a3
 have a8:=h.yZ
 have c3:w.cell? (Y g 3)=some (I x.N3.xl):=h.cells 3
 obtain⟨A,aw,a4,_,_⟩:=h.zg.form
 rw[a4,a3] at a8
 have ao:=V a4
 have ad:=h.blk.lt
 obtain⟨mb,a2⟩:∃mb,x.N3.xl=mb:=⟨_,rfl⟩
 rw[a2] at c3
 have am:=V a2
 clear H f oo hA h ag a3 a2 a4
 go_enter func106,ntmps106
 go_upto_region 1 with(fail)
 go_cut [20] (fun v wx=>v=.bool false∧Z (Od w w wx))
 case first=>
  rcases a0 with hp|⟨hp,hr⟩
  ·subst hp
   go_wp2_with fail
   go_meet
   exact⟨rfl,V (Ok _ _)⟩
  ·have aq:(zB !=0)=true:=YN
   have ar:¬r < 0:=O
   go_wp2_with (first
    |(go_at_call 119;refine U.mono ?_;rintro e w3 ⟨rfl,B⟩;have J:=V B;clear B)
    |fail)
   go_meet
   exact⟨by rw[OD (Int.not_lt.2 ar)],J⟩
 case rest=>
  obtain⟨rfl,a5⟩:=hcut
  obtain⟨w1,rfl⟩:∃w1:Oc,w1=wc:=⟨_,rfl⟩
  go_upto_region 3 with(fail)
  go_cut [9] (fun v wx=>v=.bool t0∧Z (Od w w wx))
  case first=>
   rcases a0 with hp|⟨hp,hr⟩
   ·subst hp
    obtain⟨fl,X⟩:∃fl,Zn nl=fl:=⟨_,rfl⟩
    have e1:bO ⟨nl.toArray⟩=⟨fl.toArray⟩:=by
     unfold bO
     rw[←X]
    have e2:bO ⟨#[73,78,66,79,88]⟩=⟨[105,110,98,111,120].toArray⟩:=zD
    simp only[e1] at hf
    simp only[e2] at ac
    have ht:t0=(fl==[105,110,98,111,120]):=by
     rw[←S.o,←X]
     unfold Zz
     rw[List.take_zero]
     rw[show Zn Z3=[105,110,98,111,120] from by decide]
     simp only[decide_true,Bool.true_and,List.any_nil,Bool.or_false]
     rw[Bool.eq_iff_iff]
     simp
    have an:=V ht
    clear ht X e1 e2
    go_wp2_with (first
     |(go_at_call 167;(with_reducible refine(hf _).mono ?_);rintro e w3 ⟨rfl,B⟩;have J:=V B;clear B hf)
     |(go_at_call 167;(with_reducible refine(ac _).mono ?_);rintro e w4 ⟨rfl,aa⟩;have al:=V aa;clear aa)
     |fail)
    go_meet
    exact⟨by rw[an.o],V (zj a5.o (zj J.o al.o))⟩
   ·have aq:(zB==0)=false:=YN
    have ht:t0=false:=by
     rw[←S.o]
     unfold Zz
     rw[List.take_zero,OD hp]
     rfl
    subst ht
    go_wp2_with fail
    go_meet
    exact⟨rfl,a5⟩
  case rest=>
   obtain⟨rfl,a6⟩:=hcut
   obtain⟨w2,rfl⟩:∃w2:Oc,w2=wc:=⟨_,rfl⟩
   have b0:=(a6.o.cell (p:=⟨g,10,none⟩) ad).trans a8
   go_wp2_with fail
   go_loopw [9,10,34] (fun t c i wr=>∃(k u:Nat) (R:Bool),k≤n∧u≤k∧i=I k∧t=.bool R∧c=I u∧Z (Od w w wr)∧Z (Zz x nl zB but k=R)∧Z (XW x but k=u)) (fun _ _ i _=>n - (intOf i).toNat)
   case atStart=>exact⟨0,0,t0,OE _,OE _,rfl,rfl,rfl,a6,S,V rfl⟩
   case round=>
    obtain⟨k,u,R,hk,az,rfl,rfl,rfl,T,HT,HC⟩:=hrel
    by_cases af:k < n
    ·have a1:k < x.zg.length:=vN
     obtain⟨b,D,av,hv,_,_,_,ab,a9⟩:=HW.o.Vn k a1
     have au:=hv.symm.trans ao.o
     injection au with hv3 _ hv4
     subst hv3 hv4
     have a:∀j,j < 6→wr.cell? (Y b (D+k * 6+j))=(uZ x.zg[k])[j]?:=fun j hj=>(T.o.cell ab).trans (a9 j hj).1
     have M:=jU x nl zB but k a1
     have L:=jT x but k a1
     rw[HT.o] at M
     rw[HC.o] at L
     obtain⟨y,hy⟩:∃y,x.zg[k]=y:=⟨_,rfl⟩
     rw[hy] at a M L
     obtain⟨E,s,l,P,F,N⟩:=y
     have e0:wr.cell? (Y b (D+k * 6))=some (I E):=a 0 O
     have e1:wr.cell? (Y b (D+k * 6+1))=some (RP ⟨s.toArray⟩):=a 1 O
     have e2:wr.cell? (Y b (D+k * 6+2))=some (I l):=a 2 O
     have e3:wr.cell? (Y b (D+k * 6+3))=some (I P):=a 3 O
     have e4:wr.cell? (Y b (D+k * 6+4))=some (I F):=a 4 O
     have e5:wr.cell? (Y b (D+k * 6+5))=some (I N):=a 5 O
     simp only at M L
     have z:=V M
     have G:=V L
     clear a9 a M L hy
     have a':Ov.wrap ((u:Int)+1)=(u:Int)+1:=Og _ O
     by_cases q1:E=but
     ·have h1:(E==but)=true:=JD
      have Q:=V (zj T.o (zt wr (.cells #[I E,Oa s,I l,I P,I F,I N] 73)))
      have d:Z (Zz x nl zB but (k+1)=R):=V (by rw[z.o];simp[q1])
      have m:Z (XW x but (k+1)=u):=V (by rw[G.o];simp[q1])
      clear q1 z G
      go_wp2_with fail
      refine⟨?_,zV⟩
      first|exact⟨k+1,u,R,O,O,zE,rfl,rfl,Q,d,m⟩|((repeat apply OA);exact⟨⟨k+1,u,R,O,O,zE,rfl,rfl,Q,d,m⟩,rfl⟩)
     ·have h1:(E==but)=false:=JD
      have Q:=V (zj T.o (zt wr (.cells #[I E,Oa s,I l,I P,I F,I N] 73)))
      have m:Z (XW x but (k+1)=u+1):=V (by rw[G.o];simp[q1])
      cases R with
      |true=>
       have d:Z (Zz x nl zB but (k+1)=true):=V (by rw[z.o,Bool.true_or])
       clear q1 z G
       go_wp2_with fail
       refine⟨?_,zV⟩
       first|exact⟨k+1,u+1,true,O,O,zE,rfl,zE,Q,d,m⟩|((repeat apply OA);exact⟨⟨k+1,u+1,true,O,O,zE,rfl,zE,Q,d,m⟩,rfl⟩)
      |false=>
       by_cases q2:l=zB
       ·have h2:(l==zB)=true:=bD
        have d:Z (Zz x nl zB but (k+1)=(s==nl)):=V (by
         rw[z.o]
         simp only[Bool.false_or,OS (show E≠but from q1),OS q2,Bool.true_and]
         rw[Bool.eq_iff_iff]
         simp)
        clear q1 q2 z G
        go_wp2_with fail
        refine⟨?_,zV⟩
        first|exact⟨k+1,u+1,_,O,O,zE,rfl,zE,Q,d,m⟩|((repeat apply OA);exact⟨⟨k+1,u+1,_,O,O,zE,rfl,zE,Q,d,m⟩,rfl⟩)
       ·have h2:(l==zB)=false:=bD
        have d:Z (Zz x nl zB but (k+1)=false):=V (by
         rw[z.o]
         simp[q2])
        clear q1 q2 z G
        go_wp2_with fail
        refine⟨?_,zV⟩
        first|exact⟨k+1,u+1,false,O,O,zE,rfl,zE,Q,d,m⟩|((repeat apply OA);exact⟨⟨k+1,u+1,false,O,O,zE,rfl,zE,Q,d,m⟩,rfl⟩)
    ·have ap:k=n:=O
     subst ap
     have k3:=(T.o.cell (p:=⟨g,3,none⟩) ad).trans c3
     have ae:rr=if R=true then 5 else if mb≤(u:Int) then 8 else 0:=by
      rw[a7.o,ai.o,HT.o,HC.o,am.o]
     have HR:=V ae
     clear ae
     cases R with
     |true=>
      have K:Z (rr=5):=V (by rw[HR.o];rfl)
      go_wp2_with fail
      go_ret
      exact⟨nV K.o.symm,T.o⟩
     |false=>
      by_cases q3:mb≤(u:Int)
      ·have K:Z (rr=8):=V (by rw[HR.o,Om zv,OG q3])
       go_wp2_with fail
       go_ret
       exact⟨nV K.o.symm,T.o⟩
      ·have K:Z (rr=0):=V (by rw[HR.o,Om zv,Om q3])
       go_wp2_with fail
       go_ret
       exact⟨nV K.o.symm,T.o⟩
theorem Yc {t:yx}(h:zY t=true):t.length≤64:=by
 unfold zY at h
 simp only[PP,decide_eq_true_eq] at h
 exact h.2.1
theorem eK (w:Oc)(e:E4):Sl (w.alloc (.cells #[I e.m,I e.k,I e.i,I e.h] 159)) 159 4 (RO (some (Y w.heap.size 0)) 1 1) (some w.heap.size) 1 (yR [e]):=
 ⟨by simp[yR,lU],.inr ⟨w.heap.size,0,1,_,rfl,rfl,NG.new _ _ _,Oq _,yV,zv,by simp[yR,lU]⟩⟩
theorem LG {W0 W:Oc}{g:Nat}{q:zW}{x:Acc}(h:zH W0 g q x)(hf:x.log.most=x.N3.uF∧(x.log.es.length:Int)≤x.N3.uF)(hl:1≤x.N3.uF∧x.N3.uF≤2147483647)(e:E4)(hb:Od (W0.alloc (.cells #[I e.m,I e.k,I e.i,I e.h] 159)).heap.size (W0.alloc (.cells #[I e.m,I e.k,I e.i,I e.h] 159)) W) :
  C 77 #[Y q.gl 0,RO (some (Y W0.heap.size 0)) 1 1] W fun e' w'=>e'=RR (.tuple #[])∧∃q'',zL W0 w' g q {x with log:=x.log.add [e]} q'':=by
 have a:zL W0 W g q x q:=zL.of_below h (zj (zt _ _) hb)
 have c:Sl W 159 4 (RO (some (Y W0.heap.size 0)) 1 1) (some W0.heap.size) 1 (yR [e]):=(eK W0 e).keep (fun b hb2=>hb.block b ((eK W0 e).lt b hb2))
 refine(dY a.at_ (by rw[hf.1];omega) (by rw[hf.1];omega) O c rfl O (fun b hb hm=>?_)).mono ?_
 ·injection hb with hb
  have:=h.lt b hm
  omega
 ·rintro e' w' ⟨rfl,f,d⟩
  exact⟨rfl,f,a.trans d⟩
theorem Lc (w:Oc)(g:Nat)(q:zW)(x:Acc)(nl:yx)(zB:Int)(h:zH w g q x)(hn:nl.length≤1099511627776)(hr:zY nl=false) :
  C 38 #[Y g 0,Oa nl,I zB] w (ZH w g q (ue zY x nl zB)):=by
 have a:ue zY x nl zB=(x,0,1):=by
  unfold ue
  rw[OG hr]
 rw[a]
 have c:=x8 ⟨nl.toArray⟩ uP w
 rw[show zY (⟨nl.toArray⟩:Oy).data.toList=false from hr] at c
 have f:=V h
 clear a h hr
 go_enter func38,ntmps38
 go_wp2_with (first
  |(go_at_call 105;refine c.mono ?_;rintro e i ⟨rfl,b⟩;have d:=V b;clear b)
  |fail)
 go_ret2
 exact⟨rfl,q,zL.of_below f.o d.o⟩
theorem tF (w:Oc)(g:Nat)(q:zW)(x:Acc)(nl:yx)(zB:Int)(h:zH w g q x)(hf:Fit x)(hr:zY nl=true)(hnm:xT x nl zB 0≠0) :
  C 38 #[Y g 0,Oa nl,I zB] w (ZH w g q (ue zY x nl zB)):=by
 have n:=Yc hr
 have a:ue zY x nl zB=(x,0,xT x nl zB 0):=by
  unfold ue
  rw[Om (by rw[hr];decide),OG hnm]
 rw[a]
 have i:=x8 ⟨nl.toArray⟩ uP w
 rw[show zY (⟨nl.toArray⟩:Oy).data.toList=true from hr] at i
 have c:=fun W (hb:Od w w W)=>uT W g q x (h.later hb) vr nl O zB 0
 generalize xT x nl zB 0=r at hnm c ⊢
 have s:(r !=0)=true:=by simpa using hnm
 have m:=V h
 have l:=V c
 clear a h hr c hnm
 go_enter func38,ntmps38
 go_wp2_with (first
  |(go_at_call 105;refine i.mono ?_;rintro e p ⟨rfl,b⟩;have f:=l.o p b;have j:=V b;clear b)
  |(go_at_call 106;refine f.mono ?_;rintro e t ⟨rfl,d⟩;have k:=V (zj j.o d);clear d f)
  |fail)
 go_ret2
 exact⟨rfl,q,zL.of_below m.o k.o⟩
theorem CI (w:Oc)(g:Nat)(q:zW)(x:Acc)(nl:yx)(zB:Int)(h:zH w g q x)(hf:Fit x)(hr:zY nl=true)(hnm:xT x nl zB 0=0)(hen:x.N3.ym≤x.zA) :
  C 38 #[Y g 0,Oa nl,I zB] w (ZH w g q (ue zY x nl zB)):=by
 have t:=Yc hr
 have b:ue zY x nl zB=(x,0,11):=by
  unfold ue
  rw[Om (by rw[hr];decide),Om Vc,OG Va]
 rw[b]
 have j:=x8 ⟨nl.toArray⟩ uP w
 rw[show zY (⟨nl.toArray⟩:Oy).data.toList=true from hr] at j
 have d:=fun W (hb:Od w w W)=>uT W g q x (h.later hb) vr nl O zB 0
 rw[hnm] at d
 have n:=V h
 have m:=V d
 clear b h hr d hnm
 go_enter func38,ntmps38
 go_wp2_with (first
  |(go_at_call 105;refine j.mono ?_;rintro e u ⟨rfl,c⟩;have i:=m.o u c;have k:=V c;clear c)
  |(go_at_call 106;refine i.mono ?_;rintro e p ⟨rfl,f⟩;have a:=zj k.o f;have r:p.cell? (Y g 6)=some (I x.N3.ym):=(n.o.later a).cells 6;have s:=(n.o.later a).vF;have l:=V a;clear f i a)
  |(go_at_call 71;refine(vQ g x.zA x.N3.ym _ ((yD (w:=p) zF _).trans s) ((yD (w:=p) zF _).trans r)).mono ?_;rintro e y ⟨rfl,v,rfl⟩)
  |fail)
 go_ret2
 exact⟨rfl,q,(zL.of_below n.o l.o).yO (zO (Ok _ _) _)⟩
theorem make_ok (w:Oc)(g:Nat)(q:zW)(x:Acc)(nl:yx)(zB:Int)(h:zH w g q x)(hf:Fit x)(hr:zY nl=true)(hnm:xT x nl zB 0=0)(hen:¬x.N3.ym≤x.zA) :
  C 38 #[Y g 0,Oa nl,I zB] w (ZH w g q (ue zY x nl zB)):=by
 have b0:=Yc hr
 have s:ue zY x nl zB=({x with zA:=x.zA+1,zS:=x.zS+1,zg:=x.zg++[⟨x.zS+1,nl,zB,x.zA+1,1,x.zA+1⟩],log:=x.log.add [⟨x.zA+1,1,x.zS+1,1⟩]},x.zS+1,0):=by
  unfold ue
  rw[Om (by rw[hr];decide),Om Vc,Om Jz]
 obtain⟨rr,F⟩:∃rr,ue zY x nl zB=rr:=⟨_,rfl⟩
 rw[F]
 have Q:=V (F.symm.trans s)
 have av:=hf.zA
 have a':=hf.N3.mod
 have aw:=hf.zS
 have a9:=x8 ⟨nl.toArray⟩ uP w
 rw[show zY (⟨nl.toArray⟩:Oy).data.toList=true from hr] at a9
 have D:=fun W (hb:Od w w W)=>uT W g q x (h.later hb) (by have:=hf.nb;omega) nl O zB 0
 rw[hnm] at D
 have az:Ov.wrap (x.zS+1)=x.zS+1:=Og _ O
 have HS:=V h
 have HF:=V hf
 have ag:=V D
 obtain⟨Ab,cb,H,_,_⟩:=h.zg.form
 obtain⟨nb,E⟩:∃nb,x.zg.length=nb:=⟨_,rfl⟩
 rw[E] at H
 have aq:nb≤4294967296:=by
  have:=hf.nb
  omega
 have U:=V H
 have P:=V E
 obtain⟨i0,hi,am,an,ao⟩:=info_parts Try.infoBox
 clear s h hr D hnm F H E hf
 go_enter func38,ntmps38
 go_upto_region 12 with(first
  |(go_at_call 105;refine a9.mono ?_;rintro e w2 ⟨rfl,z⟩;have a7:=ag.o w2 z;have ac:=V z;clear z)
  |(go_at_call 106;refine a7.mono ?_;rintro e w3 ⟨rfl,a5⟩;have l:=zj ac.o a5;have c6:w3.cell? (Y g 6)=some (I x.N3.ym):=(HS.o.later l).cells 6;have c9:=(HS.o.later l).vF;have ad:=V l;clear a5 a7 l)
  |(go_at_call 71;refine(vQ g x.zA x.N3.ym _ ((yD (w:=w3) zF _).trans c9) ((yD (w:=w3) zF _).trans c6)).mono ?_;rintro e w4 ⟨rfl,ne,rfl⟩;have A:=(zj ad.o (zO (Ok w3.heap.size w3) ne));have H5:=V (HS.o.later A);have t:=YA g x.zA _ H5.o.vF (H5.o.frozen 9) O;have ae:=V A;clear A)
  |(go_at_call 74;refine t.mono ?_;rintro e w6 ⟨rfl,aa⟩;have t6:=H5.o.vn 9 (I (x.zA+1)) {x with zA:=x.zA+1} rfl rfl rfl rfl;rw[←aa] at t6;have d:=t6.at_.Vs;have al:=t6.at_.frozen 13;have T6:=V t6;clear t aa t6)
  |fail)
 obtain⟨i,J⟩:∃i:Oc,i=w6.setCell (Y g 13) (I (x.zS+1)):=⟨_,rfl⟩
 rw[←J]
 have b:zL w i g q {x with zA:=x.zA+1,zS:=x.zS+1} q:=by
  rw[J]
  exact((zL.of_below HS.o ae.o).trans T6.o).trans (T6.o.at_.vn 13 (I (x.zS+1)) {x with zA:=x.zA+1,zS:=x.zS+1} rfl rfl rfl rfl)
 clear J d al
 have y:i.cell? (Y g 10)=some (RO Ab nb cb):=by rw[←U.o];exact b.at_.yZ
 have a4:i.frozen? (Y g 10)=false:=b.at_.frozen 10
 have d:i.cell? (Y g 13)=some (I (x.zS+1)):=b.at_.Vs
 have a:g < i.heap.size:=b.at_.blk.lt
 have B:g∉q.hb.toList:=fun hm=>b.at_.apart.hb yT
 have a6:Sl i 73 6 (RO Ab nb cb) q.hb nb (zU uZ x.zg):=by
  rw[←U.o,←P.o]
  exact b.at_.zg
 have S:=V b
 have M:=V a6
 have a1:=(Ox i (.cells #[I (x.zS+1),Oa nl,I zB,I (x.zA+1),I 1,I (x.zA+1)] 73) (Y g 10) a).trans y
 have j:=(Ox i (.cells #[I (x.zS+1),Oa nl,I zB,I (x.zA+1),I 1,I (x.zA+1)] 73) (Y g 13) a).trans d
 clear b a6 c6 c9
 go_cut [] (fun wx=>∃q',Z (zL w wx g q {x with zA:=x.zA+1,zS:=x.zS+1,zg:=x.zg++[⟨x.zS+1,nl,zB,x.zA+1,1,x.zA+1⟩]} q'))
 case first=>
  go_region_law (first
   |(refine ye _ zF (.tmp 39) (.tmp 49) _ zF underlying71 hi am an ao rfl O ((M.o.alloc _).heap zF) yl i.heap.size #[I (x.zS+1),Oa nl,I zB,I (x.zA+1),I 1,I (x.zA+1)] (e':=73) (fr:=(0,0)) (heap_alloc_new i _) 1 1 yl zF xt yV O ?_;intro v2 h2 w9 G c a8;obtain⟨ab,a0,rfl,_,_⟩:=G.form;have ar:w9.cell? (Y g 10)=some (RO Ab nb cb):=(c.cell (p:=⟨g,10,none⟩) zT B).trans ((Pw _ _ _ a).trans y);have au:w9.frozen? (Y g 10)=false:=(c.frozen (p:=⟨g,10,none⟩) zT B).trans ((Pn _ _ _ a).trans a4))
   |fail)
  all_goals
   have k:=(S.o.at_.alloc (.cells #[I (x.zS+1),Oa nl,I zB,I (x.zA+1),I 1,I (x.zA+1)] 73)).nL ⟨x.zS+1,nl,zB,x.zA+1,1,x.zA+1⟩ (v':=RO ab (nb+1) a0) (h':=h2) (w':=w9) (by
    show Sl w9 _ 6 _ h2 (x.zg.length+1) _
    rw[P.o]
    exact G) ⟨c.os,c.tape,c.output,c.size,c.block⟩ a8
   have v:=V k
   clear k G c a8
   go_wp2_with fail
   go_meet
   exact⟨_,V ((S.o.yO (zt i _)).trans v.o)⟩
 case rest=>
  obtain⟨q',f⟩:=hcut
  obtain⟨L,rfl⟩:∃L:Oc,L=wc:=⟨_,rfl⟩
  clear y a4 d a B M a1 j
  go_upto_region 13 with(fail)
  obtain⟨x3,qx⟩:∃x3:Acc,x3={x with zA:=x.zA+1,zS:=x.zS+1,zg:=x.zg++[⟨x.zS+1,nl,zB,x.zA+1,1,x.zA+1⟩]}:=⟨_,rfl⟩
  rw[←qx] at f
  have a2:L.cell? (Y g 12)=some (RQ (some (Y q'.gl 0))):=f.o.at_.xp
  have d:L.cell? (Y g 13)=some (I (x.zS+1)):=by
   have n:=f.o.at_.Vs
   rw[qx] at n
   exact n
  have a:g < L.heap.size:=f.o.at_.blk.lt
  have a3:=(Ox L (.cells #[I (x.zA+1),I 1,I (x.zS+1),I 1] 159) (Y g 12) a).trans a2
  have j:=(Ox L (.cells #[I (x.zA+1),I 1,I (x.zS+1),I 1] 159) (Y g 13) a).trans d
  have r:=fun W hb=>LG (W:=W) f.o.at_ fY fZ ⟨x.zA+1,1,x.zS+1,1⟩ hb
  have m:=V r
  have X:=V qx
  clear r qx
  go_cut [] (fun wx=>∃K,Z (zL w wx g q {x3 with log:=x3.log.add [⟨x.zA+1,1,x.zS+1,1⟩]} K))
  case first=>
   go_region_law (first
    |(refine yK zF zF (O9 func77 zQ rfl) yl (m.o _ ⟨rfl,rfl,rfl,Oq _,fun _ _=>rfl⟩) ?_;rintro e b1 ⟨rfl,ap,u⟩;refine⟨_,rfl,?_⟩;have R:=V u;clear u)
    |fail)
   all_goals
    go_wp2_with fail
    go_meet
    exact⟨ap,V (f.o.trans R.o)⟩
  case rest=>
   obtain⟨K,T⟩:=hcut
   obtain⟨wz,rfl⟩:∃wz:Oc,wz=wc:=⟨_,rfl⟩
   clear a2 d a a3 j m
   have b2:wz.cell? (Y g 13)=some (I (x.zS+1)):=by
    have n:=T.o.at_.Vs
    rw[X.o] at n
    exact n
   have N:Z (ZH w g q rr (RR (.tuple #[I (x.zS+1),I 0])) wz):=V (by
    rw[Q.o]
    refine⟨rfl,K,?_⟩
    have n:=T.o
    rw[X.o] at n
    exact n)
   go_wp2_with fail
   go_ret2
   exact N.o
theorem qY (w:Oc)(g:Nat)(q:zW)(x:Acc)(nl:yx)(zB:Int)(h:zH w g q x)(hf:Fit x)(hn:nl.length≤1099511627776) :
  C 38 #[Y g 0,Oa nl,I zB] w (ZH w g q (ue zY x nl zB)):=by
 cases a:zY nl with
 |false=>exact Lc w g q x nl zB h hn a
 |true=>
  by_cases b:xT x nl zB 0=0
  ·by_cases c:x.N3.ym≤x.zA
   ·exact CI w g q x nl zB h hf a b c
   ·exact make_ok w g q x nl zB h hf a b c
  ·exact tF w g q x nl zB h hf a b
end
end Go.Proofs.YtnofkliaofgiaaaGreatDoor
