/-
  What the program's texts of code points, and the names of mailboxes, are in plain words. The walks of the program's code points: how many bytes a first byte tells of, a code point's bytes. The walks of the program's code points, further: the one at a place, whether all are; and of a mailbox's name. The walk of what is wrong with a mailbox's name. The walk of the store's Make: what it hands back, a
-/
import Derived.Test.YtfhlhdmhgheonaaGreatDoorGB
import Derived.Test.YtfhlhdmhgheonaaGreatDoorGA
import Derived.Test.YtfhlhdmhgheonaaGreatDoorGD
import Derived.Test.YtfhlhdmhgheonaaGreatDoorGF
import Derived.Test.YtfhlhdmhgheonaaGreatDoorProg
import Derived.Laws.BitsLemmas
import Derived.Deep.QuietTactic
import Derived.BigQuiet
import Derived.Deep.RegionLaw
import Derived.Deep.DrawnRows
set_option maxRecDepth 100000
set_option maxHeartbeats 8000000
namespace Go.Proofs.YtfhlhdmhgheonaaGreatDoor
def yP (c:Nat):Nat×Nat:=
 if c < 128 then (1,c) else if 192≤c∧c < 224 then (2,c % 32) else if 224≤c∧c < 240 then (3,c % 16) else if 240≤c∧c < 248 then (4,c % 8) else (0,0)
def XQ (r:Nat):List UInt8:=
 if 1114111 < r∨(55296≤r∧r≤57343) then []
 else if r < 128 then [UInt8.ofNat r]
 else if r < 2048 then [UInt8.ofNat (192+r / 64),UInt8.ofNat (128+r % 64)]
 else if r < 65536 then [UInt8.ofNat (224+r / 4096),UInt8.ofNat (128+r / 64 % 64),UInt8.ofNat (128+r % 64)]
 else [UInt8.ofNat (240+r / 262144),UInt8.ofNat (128+r / 4096 % 64),UInt8.ofNat (128+r / 64 % 64),UInt8.ofNat (128+r % 64)]
def vO (r:Nat)(l:List UInt8):Nat:=l.foldl (fun r b=>r * 64+b.toNat % 64) r
def VU:List UInt8→Option (Nat×Nat)
 |[]=>none
 |c :: r=>if (yP c.toNat).1=0∨r.length+1 < (yP c.toNat).1 then none
  else if XQ (vO (yP c.toNat).2 (r.take ((yP c.toNat).1 - 1)))=c :: r.take ((yP c.toNat).1 - 1) then some (vO (yP c.toNat).2 (r.take ((yP c.toNat).1 - 1)),(yP c.toNat).1)
  else none
theorem za3 (c:Nat):(yP c).1≤4:=by
 unfold yP
 repeat' split
 all_goals simp
theorem VN {l:List UInt8}{v n:Nat}(h:VU l=some (v,n)):1≤n∧n≤l.length∧n≤4:=by
 cases l with
 |nil=>simp[VU] at h
 |cons c r=>
  rw[VU] at h
  by_cases a:(yP c.toNat).1=0∨r.length+1 < (yP c.toNat).1
  ·rw[if_pos a] at h
   cases h
  ·rw[if_neg a] at h
   by_cases b:XQ (vO (yP c.toNat).2 (r.take ((yP c.toNat).1 - 1)))=c :: r.take ((yP c.toNat).1 - 1)
   ·rw[if_pos b] at h
    simp only[Option.some.injEq,Prod.mk.injEq] at h
    have:=za3 c.toNat
    rw[List.length_cons]
    omega
   ·rw[if_neg b] at h
    cases h
def xY:Nat→List UInt8→Bool
 |0,_=>true
 |f+1,l=>match l with
  |[]=>true
  |_ :: _=>match VU l with
   |none=>false
   |some (_,n)=>xY f (l.drop n)
theorem Va:∀(f:Nat) (l:List UInt8),l.length≤f→xY (f+1) l=xY f l
 |0,l,h=>by
  obtain rfl:l=[]:=List.eq_nil_of_length_eq_zero (by omega)
  rfl
 |f+1,[],_=>rfl
 |f+1,c :: r,h=>by
  rw[xY,xY]
  cases hg:VU (c :: r) with
  |none=>rfl
  |some p=>
   obtain⟨v,n⟩:=p
   have h1:=VN hg
   simp only
   exact Va f _ (by rw[List.length_drop];omega)
def XF (c:Nat):Bool:=decide (c < 32)||(decide (c=127)||(decide (c=47)||(decide (c=42)||decide (c=37))))
def zo (t:List UInt8):Bool:=!decide (t=[]) && (decide (t.length≤64) && (xY t.length t && t.all fun c=>!XF c.toNat))
end Go.Proofs.YtfhlhdmhgheonaaGreatDoor
namespace Go.Proofs.YtfhlhdmhgheonaaGreatDoor
open Go.RowKit
theorem size_any (c n b:Int)(h0:0≤c)(h1:c < 256)(hn:(((yP c.toNat).1:Nat):Int)=n)(hb:(((yP c.toNat).2:Nat):Int)=b)(w:World) :
  Calls Tryz.prog 254 #[.int .u8 c] w fun e w'=>e=.returned (.tuple #[.int .i64 n,.int .i64 b])∧w=w':=by
 have i:=u8_and31 c h0 h1
 have j:=u8_and15 c h0 h1
 have p:=u8_and7 c h0 h1
 by_cases x:c < 128
 ·have e:yP c.toNat=(1,c.toNat):=by unfold yP;rw[if_pos (by omega)]
  rw[e] at hn hb
  simp only at hn hb
  have a:c=b:=by omega
  subst a hn
  have h:IntKind.i64.wrap c=c:=IntWalk.i64_in _ (by omega)
  clear hb e
  go_enter Tryz.func254,Tryz.ntmps254
  go_wp2
  go_ret2
  exact⟨rfl,rfl⟩
 by_cases d:192≤c∧c < 224
 ·obtain⟨d,f⟩:=d
  have e:yP c.toNat=(2,c.toNat % 32):=by unfold yP;rw[if_neg (by omega),if_pos (by omega)]
  rw[e] at hn hb
  simp only at hn hb
  have a:c % 32=b:=by omega
  subst a hn
  have h:IntKind.i64.wrap (c % 32)=c % 32:=IntWalk.i64_in _ (by omega)
  clear hb e
  go_enter Tryz.func254,Tryz.ntmps254
  go_wp2
  go_ret2
  exact⟨rfl,rfl⟩
 by_cases f:224≤c∧c < 240
 ·obtain⟨f,g⟩:=f
  have e:yP c.toNat=(3,c.toNat % 16):=by unfold yP;rw[if_neg (by omega),if_neg (by omega),if_pos (by omega)]
  rw[e] at hn hb
  simp only at hn hb
  have a:c % 16=b:=by omega
  subst a hn
  have h:IntKind.i64.wrap (c % 16)=c % 16:=IntWalk.i64_in _ (by omega)
  have k:192≤c:=by omega
  have l:¬c < 224:=by omega
  clear hb e d
  go_enter Tryz.func254,Tryz.ntmps254
  go_wp2
  go_ret2
  exact⟨rfl,rfl⟩
 by_cases g:240≤c∧c < 248
 ·obtain⟨g,k⟩:=g
  have e:yP c.toNat=(4,c.toNat % 8):=by unfold yP;rw[if_neg (by omega),if_neg (by omega),if_neg (by omega),if_pos (by omega)]
  rw[e] at hn hb
  simp only at hn hb
  have a:c % 8=b:=by omega
  subst a hn
  have h:IntKind.i64.wrap (c % 8)=c % 8:=IntWalk.i64_in _ (by omega)
  have l:192≤c:=by omega
  have q:¬c < 224:=by omega
  have r:224≤c:=by omega
  have s:¬c < 240:=by omega
  clear hb e d f
  go_enter Tryz.func254,Tryz.ntmps254
  go_wp2
  go_ret2
  exact⟨rfl,rfl⟩
 ·have e:yP c.toNat=(0,0):=by unfold yP;rw[if_neg (by omega),if_neg (by omega),if_neg (by omega),if_neg (by omega)]
  rw[e] at hn hb
  simp only at hn hb
  subst hb hn
  clear e
  by_cases y:192≤c
  ·have m:¬c < 224:=by omega
   have o:224≤c:=by omega
   have t:¬c < 240:=by omega
   have u:240≤c:=by omega
   have v:¬c < 248:=by omega
   clear d f g
   go_enter Tryz.func254,Tryz.ntmps254
   go_wp2
   go_ret2
   exact⟨rfl,rfl⟩
  ·have m:¬224≤c:=by omega
   have o:¬240≤c:=by omega
   clear d f g
   go_enter Tryz.func254,Tryz.ntmps254
   go_wp2
   go_ret2
   exact⟨rfl,rfl⟩
theorem more_any (r:Int)(h0:0≤r)(h1:r < 1073741824)(w:World) :
  Calls Tryz.prog 286 #[.int .i64 r] w fun e w'=>e=.returned (.int .u8 (128+r % 64))∧w=w':=by
 have a:bits .and .i64 r 63=r % 64:=bits_mask .i64 62 (by decide) (fun n h0 h1=>IntWalk.i64_in _ (by omega)) 6 (by decide) r h0 (by omega)
 have b:bits .or .i64 128 (r % 64)=128+r % 64:=bits_join .i64 62 (by decide) (fun n h0 h1=>IntWalk.i64_in _ (by omega)) 6 128 (r % 64) (by omega) (by omega) (by omega) (by omega) (by omega) (by omega)
 have c:IntKind.u8.wrap (128+r % 64)=128+r % 64:=by rw[IntKind.wrap_u8];omega
 go_enter Tryz.func286,Tryz.ntmps286
 go_wp2
 go_ret
 exact⟨rfl,rfl⟩
theorem Yx {w:World}{g i:Nat}{t:TypeId}{cs:Array Value}(h:w.heap[g]?=some (.cells cs t (0,0))):w.frozen? ⟨g,i,none⟩=false:=by
 unfold World.frozen?
 simp only[h]
 simp
theorem conv1 (a:Int)(ha:0≤a∧a < 256)(W:World):Sem.run Tryz.prog (convert 139 9 (.slice (some ⟨W.heap.size,0,none⟩) 1 1)) (W.alloc (.cells #[.int .u8 a] 5))=.ok (.string ⟨[UInt8.ofNat a.toNat].toArray⟩) (W.alloc (.cells #[.int .u8 a] 5)):=by
 refine vz Tryz.underlying139 Tryz.underlying5 (l:=[UInt8.ofNat a.toNat]) (fun j hj=>?_) 1 rfl 9 Tryz.underlying9
 have b:(W.alloc (.cells #[.int .u8 a] 5)).heap[W.heap.size]?=some (.cells #[.int .u8 a] 5 (0,0)):=heap_alloc_new W _
 refine⟨?_,Yx b⟩
 rw[cell_of_row _ _ _ _ _ (0,0) b]
 match j,hj with
 |0,_=>simp;omega
theorem conv2 (a b:Int)(ha:0≤a∧a < 256)(hb:0≤b∧b < 256)(W:World):Sem.run Tryz.prog (convert 139 9 (.slice (some ⟨W.heap.size,0,none⟩) 2 2)) (W.alloc (.cells #[.int .u8 a,.int .u8 b] 5))=.ok (.string ⟨[UInt8.ofNat a.toNat,UInt8.ofNat b.toNat].toArray⟩) (W.alloc (.cells #[.int .u8 a,.int .u8 b] 5)):=by
 refine vz Tryz.underlying139 Tryz.underlying5 (l:=[UInt8.ofNat a.toNat,UInt8.ofNat b.toNat]) (fun j hj=>?_) 2 rfl 9 Tryz.underlying9
 have c:(W.alloc (.cells #[.int .u8 a,.int .u8 b] 5)).heap[W.heap.size]?=some (.cells #[.int .u8 a,.int .u8 b] 5 (0,0)):=heap_alloc_new W _
 refine⟨?_,Yx c⟩
 rw[cell_of_row _ _ _ _ _ (0,0) c]
 match j,hj with
 |0,_=>simp;omega
 |1,_=>simp;omega
theorem conv3 (a b c:Int)(ha:0≤a∧a < 256)(hb:0≤b∧b < 256)(hc:0≤c∧c < 256)(W:World):Sem.run Tryz.prog (convert 139 9 (.slice (some ⟨W.heap.size,0,none⟩) 3 3)) (W.alloc (.cells #[.int .u8 a,.int .u8 b,.int .u8 c] 5))=.ok (.string ⟨[UInt8.ofNat a.toNat,UInt8.ofNat b.toNat,UInt8.ofNat c.toNat].toArray⟩) (W.alloc (.cells #[.int .u8 a,.int .u8 b,.int .u8 c] 5)):=by
 refine vz Tryz.underlying139 Tryz.underlying5 (l:=[UInt8.ofNat a.toNat,UInt8.ofNat b.toNat,UInt8.ofNat c.toNat]) (fun j hj=>?_) 3 rfl 9 Tryz.underlying9
 have d:(W.alloc (.cells #[.int .u8 a,.int .u8 b,.int .u8 c] 5)).heap[W.heap.size]?=some (.cells #[.int .u8 a,.int .u8 b,.int .u8 c] 5 (0,0)):=heap_alloc_new W _
 refine⟨?_,Yx d⟩
 rw[cell_of_row _ _ _ _ _ (0,0) d]
 match j,hj with
 |0,_=>simp;omega
 |1,_=>simp;omega
 |2,_=>simp;omega
theorem conv4 (a b c d:Int)(ha:0≤a∧a < 256)(hb:0≤b∧b < 256)(hc:0≤c∧c < 256)(hd:0≤d∧d < 256)(W:World):Sem.run Tryz.prog (convert 139 9 (.slice (some ⟨W.heap.size,0,none⟩) 4 4)) (W.alloc (.cells #[.int .u8 a,.int .u8 b,.int .u8 c,.int .u8 d] 5))=.ok (.string ⟨[UInt8.ofNat a.toNat,UInt8.ofNat b.toNat,UInt8.ofNat c.toNat,UInt8.ofNat d.toNat].toArray⟩) (W.alloc (.cells #[.int .u8 a,.int .u8 b,.int .u8 c,.int .u8 d] 5)):=by
 refine vz Tryz.underlying139 Tryz.underlying5 (l:=[UInt8.ofNat a.toNat,UInt8.ofNat b.toNat,UInt8.ofNat c.toNat,UInt8.ofNat d.toNat]) (fun j hj=>?_) 4 rfl 9 Tryz.underlying9
 have e:(W.alloc (.cells #[.int .u8 a,.int .u8 b,.int .u8 c,.int .u8 d] 5)).heap[W.heap.size]?=some (.cells #[.int .u8 a,.int .u8 b,.int .u8 c,.int .u8 d] 5 (0,0)):=heap_alloc_new W _
 refine⟨?_,Yx e⟩
 rw[cell_of_row _ _ _ _ _ (0,0) e]
 match j,hj with
 |0,_=>simp;omega
 |1,_=>simp;omega
 |2,_=>simp;omega
 |3,_=>simp;omega
theorem put_any (r:Int)(h0:0≤r)(h1:r < 1073741824)(p:List UInt8)(hp:XQ r.toNat=p)(w:World) :
  Calls Tryz.prog 255 #[.int .i64 r] w fun e w'=>e=.returned (.string ⟨p.toArray⟩)∧Below w.heap.size w w':=by
 by_cases s:1114111 < r
 ·have e:p=[]:=by rw[←hp];unfold XQ;rw[if_pos (by omega)]
  subst e
  clear hp
  go_enter Tryz.func255,Tryz.ntmps255
  go_wp2
  go_ret
  exact⟨rfl,Below.refl _ _⟩
 by_cases d:55296≤r∧r≤57343
 ·have e:p=[]:=by rw[←hp];unfold XQ;rw[if_pos (by omega)]
  obtain⟨d,o⟩:=d
  subst e
  clear hp
  go_enter Tryz.func255,Tryz.ntmps255
  go_wp2
  go_ret
  exact⟨rfl,Below.refl _ _⟩
 by_cases o:r < 128
 ·have e:p=[UInt8.ofNat r.toNat]:=by rw[←hp];unfold XQ;rw[if_neg (by omega),if_pos (by omega)]
  subst e
  have q:IntKind.u8.wrap r=r:=by rw[IntKind.wrap_u8];omega
  have g:=conv1 r (by omega) w
  have h:¬55296≤r:=by omega
  clear hp d
  go_enter Tryz.func255,Tryz.ntmps255
  go_wp2
  go_ret
  exact⟨rfl,(Below.refl _ w).alloc (Nat.le_refl _) _⟩
 have c:=more_any
 by_cases t:r < 2048
 ·have e:p=[UInt8.ofNat (192+r / 64).toNat,UInt8.ofNat (128+r % 64).toNat]:=by
   rw[←hp];unfold XQ;rw[if_neg (by omega),if_neg (by omega),if_pos (by omega)]
   rw[show (192+r / 64).toNat=192+r.toNat / 64 by omega,show (128+r % 64).toNat=128+r.toNat % 64 by omega]
  have j:bits .or .i64 192 (r / 64)=192+r / 64:=bits_join .i64 62 (by decide) (fun n h0 h1=>IntWalk.i64_in _ (by omega)) 6 192 (r / 64) (by omega) (by omega) (by omega) (by omega) (by omega) (by omega)
  have k:IntKind.u8.wrap (192+r / 64)=192+r / 64:=by rw[IntKind.wrap_u8];omega
  have g:=conv2 (192+r / 64) (128+r % 64) (by omega) (by omega) w
  rw[←e] at g
  have b:=c r h0 h1
  have h:¬55296≤r:=by omega
  clear hp d c e
  go_enter Tryz.func255,Tryz.ntmps255
  go_wp2_with (first
   |(go_at_call 286;refine(b _).mono ?_;rintro e f ⟨rfl,rfl⟩)
   |fail)
  go_ret
  exact⟨rfl,(Below.refl _ w).alloc (Nat.le_refl _) _⟩
 by_cases u:r < 65536
 ·have e:p=[UInt8.ofNat (224+r / 4096).toNat,UInt8.ofNat (128+r / 64 % 64).toNat,UInt8.ofNat (128+r % 64).toNat]:=by
   rw[←hp];unfold XQ;rw[if_neg (by omega),if_neg (by omega),if_neg (by omega),if_pos (by omega)]
   rw[show (224+r / 4096).toNat=224+r.toNat / 4096 by omega,show (128+r % 64).toNat=128+r.toNat % 64 by omega,show (128+r / 64 % 64).toNat=128+r.toNat / 64 % 64 by omega]
  have j:bits .or .i64 224 (r / 4096)=224+r / 4096:=bits_join .i64 62 (by decide) (fun n h0 h1=>IntWalk.i64_in _ (by omega)) 5 224 (r / 4096) (by omega) (by omega) (by omega) (by omega) (by omega) (by omega)
  have k:IntKind.u8.wrap (224+r / 4096)=224+r / 4096:=by rw[IntKind.wrap_u8];omega
  have g:=conv3 (224+r / 4096) (128+r / 64 % 64) (128+r % 64) (by omega) (by omega) (by omega) w
  rw[←e] at g
  have b:=c r h0 h1
  have a:=c (r / 64) (by omega) (by omega)
  have h:55296≤r→¬r≤57343:=fun h1 h2=>d ⟨h1,h2⟩
  clear hp d c e
  go_enter Tryz.func255,Tryz.ntmps255
  by_cases l:55296≤r
  ·have m:=h l
   clear h
   go_wp2_with (first
    |(go_at_call 286;(with_reducible refine(a _).mono ?_);rintro e f ⟨rfl,rfl⟩;clear a)
    |(go_at_call 286;refine(b _).mono ?_;rintro e f ⟨rfl,rfl⟩)
    |fail)
   go_ret
   exact⟨rfl,(Below.refl _ w).alloc (Nat.le_refl _) _⟩
  ·clear h
   go_wp2_with (first
    |(go_at_call 286;(with_reducible refine(a _).mono ?_);rintro e f ⟨rfl,rfl⟩;clear a)
    |(go_at_call 286;refine(b _).mono ?_;rintro e f ⟨rfl,rfl⟩)
    |fail)
   go_ret
   exact⟨rfl,(Below.refl _ w).alloc (Nat.le_refl _) _⟩
 ·have e:p=[UInt8.ofNat (240+r / 262144).toNat,UInt8.ofNat (128+r / 4096 % 64).toNat,UInt8.ofNat (128+r / 64 % 64).toNat,UInt8.ofNat (128+r % 64).toNat]:=by
   rw[←hp];unfold XQ;rw[if_neg (by omega),if_neg (by omega),if_neg (by omega),if_neg (by omega)]
   rw[show (240+r / 262144).toNat=240+r.toNat / 262144 by omega,show (128+r % 64).toNat=128+r.toNat % 64 by omega,show (128+r / 64 % 64).toNat=128+r.toNat / 64 % 64 by omega,show (128+r / 4096 % 64).toNat=128+r.toNat / 4096 % 64 by omega]
  have j:bits .or .i64 240 (r / 262144)=240+r / 262144:=bits_join .i64 62 (by decide) (fun n h0 h1=>IntWalk.i64_in _ (by omega)) 4 240 (r / 262144) (by omega) (by omega) (by omega) (by omega) (by omega) (by omega)
  have k:IntKind.u8.wrap (240+r / 262144)=240+r / 262144:=by rw[IntKind.wrap_u8];omega
  have g:=conv4 (240+r / 262144) (128+r / 4096 % 64) (128+r / 64 % 64) (128+r % 64) (by omega) (by omega) (by omega) (by omega) w
  rw[←e] at g
  have b:=c r h0 h1
  have a:=c (r / 64) (by omega) (by omega)
  have i:=c (r / 4096) (by omega) (by omega)
  have l:55296≤r:=by omega
  have m:¬r≤57343:=by omega
  clear hp d c e
  go_enter Tryz.func255,Tryz.ntmps255
  go_wp2_with (first
   |(go_at_call 286;(with_reducible refine(i _).mono ?_);rintro e f ⟨rfl,rfl⟩;clear i)
   |(go_at_call 286;(with_reducible refine(a _).mono ?_);rintro e f ⟨rfl,rfl⟩;clear a)
   |(go_at_call 286;refine(b _).mono ?_;rintro e f ⟨rfl,rfl⟩)
   |fail)
  go_ret
  exact⟨rfl,(Below.refl _ w).alloc (Nat.le_refl _) _⟩
theorem Uj (b:Nat)(l:List UInt8)(c:UInt8):vO b (l++[c])=vO b l * 64+c.toNat % 64:=by simp[vO]
theorem zaV (b:Nat):∀l:List UInt8,vO b l < (b+1) * 64 ^ l.length:=by
 intro l
 induction l generalizing b with
 |nil=>simp[vO]
 |cons c r ih=>
  have h:=ih (b * 64+c.toNat % 64)
  have a:vO b (c :: r)=vO (b * 64+c.toNat % 64) r:=rfl
  rw[a,List.length_cons,Nat.pow_succ]
  have d:b * 64+c.toNat % 64+1≤(b+1) * 64:=by omega
  calc vO (b * 64+c.toNat % 64) r < (b * 64+c.toNat % 64+1) * 64 ^ r.length:=h
   _≤((b+1) * 64) * 64 ^ r.length:=Nat.mul_le_mul_right _ d
   _=(b+1) * (64 ^ r.length * 64):=by rw[Nat.mul_assoc,Nat.mul_comm 64]
theorem zbn (c:Nat):(yP c).2 < 128:=by
 unfold yP
 repeat' split
 all_goals (simp only;omega)
theorem zac (c:Nat)(l:List UInt8)(hl:l.length≤3):vO (yP c).2 l < 33554432:=by
 have a:=zaV (yP c).2 l
 have d:=zbn c
 have b:64 ^ l.length≤64 ^ 3:=Nat.pow_le_pow_right (by omega) hl
 calc vO (yP c).2 l < ((yP c).2+1) * 64 ^ l.length:=a
  _≤128 * 64 ^ 3:=Nat.mul_le_mul (by omega) b
theorem bdrop {B:Nat}{w w':World}(h:Below B w.drew w'):Below B w w':=⟨h.os,h.tape,h.output,h.size,h.block⟩
def zbJ (s:ByteArray)(k:Nat):Int×Int:=match VU (s.data.toList.drop k) with
 |none=>(-1,k)
 |some (a,n)=>(a,((k+n:Nat):Int))
theorem drop_at (s:ByteArray)(k:Nat)(hk:k < s.size):s.data.toList.drop k=s[k] :: s.data.toList.drop (k+1):=by
 rw[List.drop_eq_getElem_cons (by simpa using hk)]
 rfl
theorem Qv (s:ByteArray)(k j:Nat)(hk:k+j < s.size):(s.data.toList.drop k).take (j+1)=(s.data.toList.drop k).take j++[s[k+j]]:=by
 rw[List.take_succ_eq_append_getElem (by simp;omega)]
 simp
 rfl
theorem cut_at (s:ByteArray)(k n:Nat):s.extract k (k+n)=⟨((s.data.toList.drop k).take n).toArray⟩:=by
 apply X3
 rw[ByteArray.data_extract,Array.toList_extract]
 simp[List.extract_eq_take_drop]
theorem zcr (s:ByteArray)(k:Nat)(hk:k < s.size)(hs:s.size≤4294967296)(v x:Int)(hv:zbJ s k=(v,x))(w:World) :
  Calls Tryz.prog 206 #[.string s,.int .i64 k] w fun e w'=>e=.returned (.tuple #[.int .i64 v,.int .i64 x])∧Below w.heap.size w w':=by
 have hc:=s[k].toNat_lt
 obtain⟨n,D⟩:∃n,(yP s[k].toNat).1=n:=⟨_,rfl⟩
 obtain⟨b,E⟩:∃b,(yP s[k].toNat).2=b:=⟨_,rfl⟩
 have o:=size_any (s[k].toNat:Int) n b (by omega) (by omega) (by simp[D]) (by simp[E])
 have S:n≤4:=by rw[←D];exact za3 _
 have N:IntKind.i64.wrap ((s.size:Int) - k)=(s.size:Int) - k:=IntWalk.i64_in _ (by omega)
 have c:(s.data.toList.drop (k+1)).length+1=s.size - k:=by simp;omega
 by_cases P:n=0
 ·have e:zbJ s k=(-1,(k:Int)):=by
   unfold zbJ
   rw[drop_at s k hk,VU,if_pos (by omega)]
  rw[e] at hv
  injection hv with m y
  subst m y
  subst P
  clear e c
  go_enter Tryz.func206,Tryz.ntmps206
  go_wp2_with (first
   |(go_at_call 254;refine(o _).mono ?_;rintro e Q ⟨rfl,rfl⟩)
   |fail)
  go_ret2
  exact⟨rfl,Below.refl _ _⟩
 have T:((n:Int)==0)=false:=by simpa using P
 by_cases p1:s.size - k < n
 ·have e:zbJ s k=(-1,(k:Int)):=by
   unfold zbJ
   rw[drop_at s k hk,VU,if_pos (by omega)]
  rw[e] at hv
  injection hv with m y
  subst m y
  have I:(s.size:Int) - k < n:=by omega
  clear e c
  go_enter Tryz.func206,Tryz.ntmps206
  go_wp2_with (first
   |(go_at_call 254;refine(o _).mono ?_;rintro e Q ⟨rfl,rfl⟩)
   |fail)
  go_ret2
  exact⟨rfl,Below.refl _ _⟩
 ·have O:VU (s.data.toList.drop k)=if XQ (vO b ((s.data.toList.drop (k+1)).take (n - 1)))=(s.data.toList.drop k).take n then some (vO b ((s.data.toList.drop (k+1)).take (n - 1)),n) else none:=by
   obtain⟨R,rfl⟩:∃R,n=R+1:=⟨n - 1,by omega⟩
   rw[drop_at s k hk,VU,if_neg (by omega),D,E,List.take_succ_cons,Nat.add_sub_cancel]
  have z:∀j,j≤n→vO b ((s.data.toList.drop (k+1)).take (j - 1)) < 33554432:=fun j hj=>by
   rw[←E]
   exact zac _ _ (by rw[List.length_take];omega)
  have I:¬(s.size:Int) - k < n:=by omega
  have J:=zdG O
  have K:=zdG hv
  have C:=zdG z
  clear O hv z c D E
  go_enter Tryz.func206,Tryz.ntmps206
  go_wp2_with (first
   |(go_at_call 254;refine(o _).mono ?_;rintro e Q ⟨rfl,rfl⟩)
   |fail)
  go_loop [4,7] (fun r i=>∃j f:Nat,1≤j∧j≤n∧i=.int .i64 j∧r=.int .i64 f∧f < 33554432∧Hid (f=vO b ((s.data.toList.drop (k+1)).take (j - 1)))) (fun _ i=>n - (intOf i).toNat)
  case atStart=>
   have L:=C.out 1 (by omega)
   exact⟨1,b,Nat.le_refl _,by omega,rfl,rfl,L,zdG rfl⟩
  case round=>
   obtain⟨j,f,a1,a2,rfl,rfl,hf,F⟩:=hrel
   by_cases a0:j < n
   ·have U:k+j < s.size:=by omega
    have V:=s[k+j].toNat_lt
    have e1:=u8_and63 (s[k+j].toNat:Int) (by omega) (by omega)
    have e2:IntKind.i64.wrap ((s[k+j].toNat:Int) % 64)=(s[k+j].toNat:Int) % 64:=IntWalk.i64_in _ (by omega)
    have e3:IntKind.i64.wrap ((f:Int) * 64)=(f:Int) * 64:=IntWalk.i64_in _ (by omega)
    have e4:bits .or .i64 ((f:Int) * 64) ((s[k+j].toNat:Int) % 64)=(f:Int) * 64+(s[k+j].toNat:Int) % 64:=bits_join .i64 62 (by decide) (fun n h0 m=>IntWalk.i64_in _ (by omega)) 6 _ _ (by omega) (by omega) (by omega) (by omega) (by omega) (by omega)
    have X:IntKind.i64.wrap ((k:Int)+j)=(k:Int)+j:=IntWalk.i64_in _ (by omega)
    have q:f * 64+s[k+j].toNat % 64=vO b ((s.data.toList.drop (k+1)).take (j+1 - 1)):=by
     obtain⟨B,rfl⟩:∃B,j=B+1:=⟨j - 1,by omega⟩
     rw[Nat.add_sub_cancel,Qv s (k+1) B (by omega),Uj,F.out,Nat.add_sub_cancel]
     simp only[show k+1+B=k+(B+1) by omega]
    have A:=C.out (j+1) (by omega)
    rw[←q] at A
    have Y:=zdG q
    clear q
    go_wp2_with fail
    refine⟨⟨j+1,f * 64+s[k+j].toNat % 64,by omega,by omega,by go_num,by go_num,A,Y⟩,by simp[intOf];omega⟩
   ·have M:j=n:=by omega
    subst M
    obtain⟨p,G⟩:∃p,XQ f=p:=⟨_,rfl⟩
    obtain⟨t,H⟩:∃t,(s.data.toList.drop k).take j=t:=⟨_,rfl⟩
    have l:=fun W=>put_any (f:Int) (by omega) (by omega) p (by simpa using G) W
    have hcut:s.extract k (k+j)=⟨t.toArray⟩:=by rw[cut_at,H]
    have X:IntKind.i64.wrap ((k:Int)+j)=(k:Int)+j:=IntWalk.i64_in _ (by omega)
    have g:=J.out
    rw[←F.out,G,H] at g
    have a:=K.out
    unfold zbJ at a
    rw[g] at a
    by_cases h:p=t
    ·rw[if_pos h] at a
     subst h
     simp only[Prod.mk.injEq] at a
     obtain⟨m,y⟩:=a
     subst m y
     clear G H g J K C F
     go_wp2_with fail
     go_region_with (first
      |(go_at_call 255;refine(l _).mono ?_;rintro e w4 ⟨rfl,d⟩;have u:=zdG (bdrop d);clear d)
      |fail)
     all_goals
      go_wp2_with fail
      go_ret2
      exact⟨rfl,u.out⟩
    ·rw[if_neg h] at a
     simp only[Prod.mk.injEq] at a
     obtain⟨m,y⟩:=a
     subst m y
     have Z:(p==t)=false:=by simpa using h
     clear G H g J K C F
     go_wp2_with fail
     go_region_with (first
      |(go_at_call 255;refine(l _).mono ?_;rintro e w4 ⟨rfl,d⟩;have u:=zdG (bdrop d);clear d)
      |fail)
     all_goals
      go_wp2_with fail
      go_ret2
      exact⟨rfl,u.out⟩
theorem Qg:∀(d:Nat) (l:List UInt8),xY (l.length+d) l=xY l.length l
 |0,l=>rfl
 |d+1,l=>by
  rw[←Nat.add_assoc,Va _ _ (by omega)]
  exact Qg d l
theorem zbx {c:UInt8}{r:List UInt8}(h:VU (c :: r)=none):xY (c :: r).length (c :: r)=false:=by
 rw[List.length_cons,xY,h]
theorem zdb {c:UInt8}{r:List UInt8}{v n:Nat}(h:VU (c :: r)=some (v,n)):xY (c :: r).length (c :: r)=xY ((c :: r).drop n).length ((c :: r).drop n):=by
 have a:=VN h
 rw[List.length_cons,xY,h]
 simp only
 have b:r.length=((c :: r).drop n).length+(n - 1):=by
  rw[List.length_drop,List.length_cons]
  rw[List.length_cons] at a
  omega
 rw[b]
 exact Qg _ _
def Ya (s:ByteArray)(k:Nat):Bool:=xY (s.data.toList.drop k).length (s.data.toList.drop k)
theorem Xy (s:ByteArray)(k:Nat)(hk:k < s.size):(zbJ s k=(-1,(k:Int))∧Ya s k=false)∨∃v n:Nat,zbJ s k=((v:Int),((k+n:Nat):Int))∧1≤n∧k+n≤s.size∧Ya s k=Ya s (k+n):=by
 unfold zbJ Ya
 rw[drop_at s k hk]
 cases a:VU (s[k] :: s.data.toList.drop (k+1)) with
 |none=>exact .inl ⟨rfl,zbx a⟩
 |some p=>
  obtain⟨v,n⟩:=p
  have b:=VN a
  have c:=zdb a
  refine .inr ⟨v,n,rfl,b.1,?_,?_⟩
  ·have d:=b.2.1
   rw[←drop_at s k hk,List.length_drop,V4] at d
   omega
  ·rw[c,←drop_at s k hk,List.drop_drop]
theorem zcH (s:ByteArray)(hs:s.size≤4294967296)(w:World) :
  Calls Tryz.prog 174 #[.string s] w fun e w'=>e=.returned (.bool (xY s.size s.data.toList))∧Below w.heap.size w w':=by
 obtain⟨b,l⟩:∃b,xY s.size s.data.toList=b:=⟨_,rfl⟩
 rw[l]
 have p:Ya s 0=b:=by
  unfold Ya
  rw[List.drop_zero,V4]
  exact l
 have h:=zdG p
 clear l p
 go_enter Tryz.func174,Tryz.ntmps174
 go_wp2_with fail
 go_loopw [3] (fun i wr=>∃k:Nat,k≤s.size∧i=.int .i64 k∧Hid (Below w.heap.size w wr)∧Hid (Ya s k=b)) (fun i _=>s.size - (intOf i).toNat)
 case atStart=>exact⟨0,Nat.zero_le _,rfl,zdG (Below.refl _ _),h⟩
 case round=>
  obtain⟨k,u,rfl,m,o⟩:=hrel
  by_cases f:k < s.size
  ·rcases Xy s k f with⟨hg,hf⟩|⟨v,n,hg,hn1,hn2,hf⟩
   ·have a:=zcr s k f hs _ _ hg wr
    have g:=zdG (o.out.symm.trans hf)
    clear hg hf
    go_wp2_with (first
     |(go_at_call 206;refine a.mono ?_;rintro e t ⟨rfl,c⟩;have d:=zdG c;clear c)
     |fail)
    go_ret
    exact⟨zH g.out.symm,V8 m.out d.out⟩
   ·have a:=zcr s k f hs _ _ hg wr
    have g:=zdG (hf.symm.trans o.out)
    have r:¬(v:Int) < 0:=by omega
    clear hg hf
    go_wp2_with (first
     |(go_at_call 206;refine a.mono ?_;rintro e t ⟨rfl,c⟩;have d:=zdG c;clear c)
     |fail)
    have q:=zdG (V8 m.out d.out)
    refine⟨?_,by simp[intOf];omega⟩
    first|exact⟨k+n,hn2,by go_num,q,g⟩|((repeat apply Exists.intro);exact⟨⟨k+n,hn2,by go_num,q,g⟩,rfl⟩)
  ·have j:k=s.size:=by omega
   subst j
   have g:Hid (b=true):=zdG (by
    rw[←o.out]
    unfold Ya
    rw[List.drop_of_length_le (by rw[V4];exact Nat.le_refl _)]
    rfl)
   go_wp2_with fail
   go_ret
   exact⟨zH g.out.symm,m.out⟩
theorem zaX (s:ByteArray)(k:Nat)(h:k < s.size)(hc:XF s[k].toNat=true):zo s.data.toList=false:=by
 unfold zo
 have:(s.data.toList.all fun c=>!XF c.toNat)=false:=by
  rw[List.all_eq_false]
  exact⟨s[k],by show s.data[k]∈_;simp,by simp[hc]⟩
 simp[this]
theorem Ul (s:ByteArray)(k:Nat)(h:k < s.size)(h0:((s.data.toList.take k).all fun c=>!XF c.toNat)=true)(hc:XF s[k].toNat=false):((s.data.toList.take (k+1)).all fun c=>!XF c.toNat)=true:=by
 rw[Yw s k h]
 simp only[List.all_append,h0,Bool.true_and]
 simp[hc]
theorem yJ (s:ByteArray)(hs:s.size≤140737488351232)(w:World) :
  Calls Tryz.prog 103 #[.string s] w fun e w'=>e=.returned (.bool (zo s.data.toList))∧Below w.heap.size w w':=by
 obtain⟨b,G⟩:∃b,zo s.data.toList=b:=⟨_,rfl⟩
 rw[G]
 have f:=zdG G
 clear G
 by_cases q:s.size=0
 ·have r:s=⟨#[]⟩:=by
   apply X3
   exact List.eq_nil_of_length_eq_zero (by rw[V4];exact q)
  subst r
  have m:b=false:=by
   rw[←f.out]
   rfl
  subst m
  clear f q
  go_enter Tryz.func103,Tryz.ntmps103
  go_wp2_with fail
  go_ret
  exact⟨rfl,Below.refl _ _⟩
 have J:(s.toList==[])=false:=UD s [] (fun e=>q (by rw[e];rfl))
 by_cases B:64 < s.size
 ·have m:b=false:=by
   rw[←f.out]
   unfold zo
   rw[decide_eq_false (show ¬s.data.toList.length≤64 by rw[V4];omega),Bool.false_and,Bool.and_false]
  subst m
  have t:(64:Int) < s.size:=by omega
  go_enter Tryz.func103,Tryz.ntmps103
  go_wp2_with fail
  go_ret
  exact⟨rfl,Below.refl _ _⟩
 have t:¬(64:Int) < s.size:=by omega
 have g:=zcH s (by omega) w
 have p:Hid (∀v,xY s.size s.data.toList=v→b=(v && s.data.toList.all fun c=>!XF c.toNat)):=zdG (fun v hv=>by
  rw[←f.out]
  unfold zo
  rw[V4,hv,decide_eq_true (show s.size≤64 by omega),decide_eq_false (show ¬s.data.toList=[] from fun e=>q (by rw[←V4 s,e];rfl))]
  rfl)
 generalize xY s.size s.data.toList=v at g p
 cases v with
 |false=>
  have m:b=false:=by rw[p.out false rfl];simp
  subst m
  clear p
  go_enter Tryz.func103,Tryz.ntmps103
  go_wp2_with (first
   |(go_at_call 174;refine g.mono ?_;rintro e L ⟨rfl,j⟩;have a:=zdG j;clear j)
   |fail)
  go_ret
  exact⟨rfl,a.out⟩
 |true=>
  go_enter Tryz.func103,Tryz.ntmps103
  go_wp2_with (first
   |(go_at_call 174;refine g.mono ?_;rintro e L ⟨rfl,j⟩;have a:=zdG j;clear j)
   |fail)
  go_loop [19] (fun i=>∃k:Nat,k≤s.size∧i=.int .i64 k∧Hid (((s.data.toList.take k).all fun c=>!XF c.toNat)=true)) (fun i=>s.size - (intOf i).toNat)
  case atStart=>exact⟨0,Nat.zero_le _,rfl,zdG rfl⟩
  case round=>
   obtain⟨k,N,rfl,H⟩:=hrel
   by_cases n:k < s.size
   ·obtain⟨c,I⟩:∃c:Int,c=(s[k].toNat:Int):=⟨_,rfl⟩
    have o:=zdG I
    have m:∀(hbad:XF s[k].toNat=true),b=false:=fun hbad=>f.out.symm.trans (zaX s k n hbad)
    have d:=zdG m
    clear I m
    by_cases M:(s[k].toNat:Int) < 32
    ·have l:=zdG (d.out (by unfold XF;rw[decide_eq_true (by omega)];rfl))
     clear d o
     go_wp2_with fail
     go_ret
     exact⟨zH l.out.symm,a.out⟩
    by_cases C:s[k].toNat=127
    ·have l:=zdG (d.out (by unfold XF;rw[C];rfl))
     have u:(s[k].toNat:Int)=127:=by omega
     clear d o
     go_wp2_with fail
     go_ret
     exact⟨zH l.out.symm,a.out⟩
    by_cases D:s[k].toNat=47
    ·have l:=zdG (d.out (by unfold XF;rw[D];rfl))
     have x:(s[k].toNat:Int)=47:=by omega
     clear d o
     go_wp2_with fail
     go_ret
     exact⟨zH l.out.symm,a.out⟩
    by_cases E:s[k].toNat=42
    ·have l:=zdG (d.out (by unfold XF;rw[E];rfl))
     have y:(s[k].toNat:Int)=42:=by omega
     clear d o
     go_wp2_with fail
     go_ret
     exact⟨zH l.out.symm,a.out⟩
    by_cases F:s[k].toNat=37
    ·have l:=zdG (d.out (by unfold XF;rw[F];rfl))
     have z:(s[k].toNat:Int)=37:=by omega
     clear d o
     go_wp2_with fail
     go_ret
     exact⟨zH l.out.symm,a.out⟩
    ·have h:XF s[k].toNat=false:=by
      unfold XF
      rw[decide_eq_false (by omega),decide_eq_false C,decide_eq_false D,decide_eq_false E,decide_eq_false F]
      rfl
     have K:=zdG (Ul s k n H.out h)
     have u:((s[k].toNat:Int)==127)=false:=by simpa using (show ¬(s[k].toNat:Int)=127 by omega)
     have x:((s[k].toNat:Int)==47)=false:=by simpa using (show ¬(s[k].toNat:Int)=47 by omega)
     have y:((s[k].toNat:Int)==42)=false:=by simpa using (show ¬(s[k].toNat:Int)=42 by omega)
     have z:((s[k].toNat:Int)==37)=false:=by simpa using (show ¬(s[k].toNat:Int)=37 by omega)
     clear d o h C D E F
     go_wp2_with fail
     exact⟨⟨k+1,n,by go_num,K⟩,by simp[intOf];omega⟩
   ·have A:k=s.size:=by omega
    subst A
    have d:Hid (b=true):=zdG (by
     rw[p.out true rfl]
     have B:=H.out
     rw[Xa s _ (Nat.le_refl _)] at B
     rw[B]
     rfl)
    go_wp2_with fail
    go_ret
    exact⟨zH d.out.symm,a.out⟩
end Go.Proofs.YtfhlhdmhgheonaaGreatDoor
namespace Go.Proofs.YtfhlhdmhgheonaaGreatDoor
open Go.Shelf Go.RowKit
attribute [local go_sem ↓] Go.wp_at_zero Go.wp_at_succ
def vZ (x:Acc)(nl:Text)(parent but:Int)(k:Nat):Bool:=(decide (parent=0) && decide (vP nl=vP uH))||(x.boxes.take k).any (fun b=>decide (b.id≠but) && (decide (b.parent=parent) && decide (b.name=nl)))
def Yn (x:Acc)(but:Int)(k:Nat):Nat:=((x.boxes.take k).filter fun b=>decide (b.id≠but)).length
theorem JF (x:Acc)(nl:Text)(parent but:Int)(k:Nat)(hk:k < x.boxes.length):vZ x nl parent but (k+1)=(vZ x nl parent but k||(decide (x.boxes[k].id≠but) && (decide (x.boxes[k].parent=parent) && decide (x.boxes[k].name=nl)))):=by
 unfold vZ
 rw[List.take_succ_eq_append_getElem hk,List.any_append,List.any_cons,List.any_nil,Bool.or_false,Bool.or_assoc]
theorem Qe (x:Acc)(but:Int)(k:Nat)(hk:k < x.boxes.length):Yn x but (k+1)=Yn x but k+(if x.boxes[k].id≠but then 1 else 0):=by
 unfold Yn
 rw[List.take_succ_eq_append_getElem hk,List.filter_append,List.length_append]
 by_cases h:x.boxes[k].id=but <;> simp[h]
theorem zcX (x:Acc)(nl:Text)(parent but:Int)(h:¬(parent≠0∧zu x.boxes parent=false)) :
  yG x nl parent but=if vZ x nl parent but x.boxes.length=true then 5 else if x.cfg.maxBoxes≤(Yn x but x.boxes.length:Int) then 8 else 0:=by
 unfold yG vZ Yn
 rw[if_neg h,List.take_of_length_le (Nat.le_refl _)]
 have a:((parent=0∧vP nl=vP uH)∨x.boxes.any (fun b=>decide (b.id≠but) && (decide (b.parent=parent) && decide (b.name=nl)))=true)↔((decide (parent=0) && decide (vP nl=vP uH))||x.boxes.any (fun b=>decide (b.id≠but) && (decide (b.parent=parent) && decide (b.name=nl))))=true:=by
  rw[Bool.or_eq_true_iff,Bool.and_eq_true_iff,decide_eq_true_iff,decide_eq_true_iff]
 simp only[a]
theorem vv (w:World)(g:Nat)(q:zl)(x:Acc)(h:zh w g q x)(hn:x.boxes.length≤1099511627776)(nl:Text)(hnl:nl.length≤1099511627776)(parent but:Int) :
  Calls Tryz.prog 104 #[.pointer (some ⟨g,0,none⟩),.string ⟨nl.toArray⟩,.int .i64 parent,.int .i64 but] w fun e w'=>e=.returned (.int .i64 (yG x nl parent but))∧Below w.heap.size w w':=by
 have E:=fun W (he:W.heap=w.heap)=>y9 g q.vb [] x.boxes parent W ((zB he _).trans h.zQ) ((h.boxes.heap he).reads [] (by simp)) hn
 have F:=xR parent x.boxes
 by_cases X:parent≠0∧zu x.boxes parent=false
 ·have f:yG x nl parent but=6:=by
   unfold yG
   rw[if_pos X]
  rw[f]
  rw[X.2] at F
  have G:(parent !=0)=true:=by simpa using X.1
  have R:yx parent x.boxes < 0:=by simpa using F
  generalize yx parent x.boxes=r at E R
  have S:=E w rfl
  clear E f F X h
  go_enter Tryz.func104,Tryz.ntmps104
  go_wp2_with (first
   |(go_at_call 110;refine S.mono ?_;rintro e w3 ⟨rfl,z⟩;have I:=zdG z;clear z)
   |fail)
  go_ret
  exact⟨rfl,I.out⟩
 have f:=zcX x nl parent but X
 obtain⟨t0,a8⟩:∃t0,vZ x nl parent but 0=t0:=⟨_,rfl⟩
 have T:parent=0∨(¬parent=0∧0≤yx parent x.boxes):=by
  by_cases G:parent=0
  ·exact .inl G
  ·have h2:zu x.boxes parent=true:=by
    cases hh:zu x.boxes parent with
    |true=>rfl
    |false=>exact absurd ⟨G,hh⟩ X
   rw[h2] at F
   have h3:¬yx parent x.boxes < 0:=by simpa using F
   exact .inr ⟨G,by omega⟩
 have hf:=fun W=>YZ ⟨nl.toArray⟩ W (by show nl.toArray.size≤_;simp;omega)
 have a2:=fun W=>YZ ⟨#[73,78,66,79,88]⟩ W (by decide)
 generalize yG x nl parent but=rr at f ⊢
 generalize yx parent x.boxes=r at E T
 have S:=E w rfl
 obtain⟨n,Y⟩:∃n,x.boxes.length=n:=⟨_,rfl⟩
 have a3:=zdG f
 have HW:=zdG h
 have U:=zdG a8
 have a4:=zdG Y
 have a5:=h.zQ
 have c3:w.cell? ⟨g,3,none⟩=some (.int .i64 x.cfg.maxBoxes):=h.cells 3
 obtain⟨A,ap,Z,_,_⟩:=h.boxes.form
 rw[Z,Y] at a5
 have ae:=zdG Z
 have a6:=h.blk.lt
 obtain⟨mb,a0⟩:∃mb,x.cfg.maxBoxes=mb:=⟨_,rfl⟩
 rw[a0] at c3
 have af:=zdG a0
 clear E f F X h a8 Y a0 Z
 go_enter Tryz.func104,Tryz.ntmps104
 go_upto_region 1 with(fail)
 go_cut [20] (fun v wx=>v=.bool false∧Hid (Below w.heap.size w wx))
 case first=>
  rcases T with G|⟨G,hr⟩
  ·subst G
   go_wp2_with fail
   go_meet
   exact⟨rfl,zdG (Below.refl _ _)⟩
  ·have ag:(parent !=0)=true:=by simpa using G
   have ah:¬r < 0:=by omega
   go_wp2_with (first
    |(go_at_call 110;refine S.mono ?_;rintro e w3 ⟨rfl,z⟩;have I:=zdG z;clear z)
    |fail)
   go_meet
   exact⟨by rw[decide_eq_false (Int.not_lt.2 ah)],I⟩
 case rest=>
  obtain⟨rfl,a9⟩:=hcut
  obtain⟨w1,rfl⟩:∃w1:World,w1=wc:=⟨_,rfl⟩
  go_upto_region 3 with(fail)
  go_cut [9] (fun v wx=>v=.bool t0∧Hid (Below w.heap.size w wx))
  case first=>
   rcases T with G|⟨G,hr⟩
   ·subst G
    obtain⟨fl,a1⟩:∃fl,vP nl=fl:=⟨_,rfl⟩
    have e1:VX ⟨nl.toArray⟩=⟨fl.toArray⟩:=by
     unfold VX
     rw[←a1]
    have e2:VX ⟨#[73,78,66,79,88]⟩=⟨[105,110,98,111,120].toArray⟩:=by decide
    simp only[e1] at hf
    simp only[e2] at a2
    have ht:t0=(fl==[105,110,98,111,120]):=by
     rw[←U.out,←a1]
     unfold vZ
     rw[List.take_zero]
     rw[show vP uH=[105,110,98,111,120] from by decide]
     simp only[decide_true,Bool.true_and,List.any_nil,Bool.or_false]
     rw[Bool.eq_iff_iff]
     simp
    have ai:=zdG ht
    clear ht a1 e1 e2
    go_wp2_with (first
     |(go_at_call 175;(with_reducible refine(hf _).mono ?_);rintro e w3 ⟨rfl,z⟩;have I:=zdG z;clear z hf)
     |(go_at_call 175;(with_reducible refine(a2 _).mono ?_);rintro e w4 ⟨rfl,aa⟩;have aj:=zdG aa;clear aa)
     |fail)
    go_meet
    exact⟨by rw[ai.out],zdG (za a9.out (za I.out aj.out))⟩
   ·have ag:(parent==0)=false:=by simpa using G
    have ht:t0=false:=by
     rw[←U.out]
     unfold vZ
     rw[List.take_zero,decide_eq_false G]
     rfl
    subst ht
    go_wp2_with fail
    go_meet
    exact⟨rfl,a9⟩
  case rest=>
   obtain⟨rfl,ab⟩:=hcut
   obtain⟨w2,rfl⟩:∃w2:World,w2=wc:=⟨_,rfl⟩
   have an:=(ab.out.cell (p:=⟨g,10,none⟩) a6).trans a5
   go_wp2_with fail
   go_loopw [9,10,34] (fun t c i wr=>∃(k s:Nat) (Q:Bool),k≤n∧s≤k∧i=.int .i64 k∧t=.bool Q∧c=.int .i64 s∧Hid (Below w.heap.size w wr)∧Hid (vZ x nl parent but k=Q)∧Hid (Yn x but k=s)) (fun _ _ i _=>n - (intOf i).toNat)
   case atStart=>exact⟨0,0,t0,Nat.zero_le _,Nat.zero_le _,rfl,rfl,rfl,ab,U,zdG rfl⟩
   case round=>
    obtain⟨k,s,Q,hk,aq,rfl,rfl,rfl,HU,HT,HC⟩:=hrel
    by_cases R:k < n
    ·have V:k < x.boxes.length:=by rw[a4.out];exact R
     obtain⟨b,B,am,hv,_,_,_,ac,ad⟩:=HW.out.Zp k V
     have ak:=hv.symm.trans ae.out
     injection ak with hv3 _ hv4
     subst hv3 hv4
     have a:∀j,j < 6→wr.cell? ⟨b,B+k * 6+j,none⟩=(xQ x.boxes[k])[j]?:=fun j hj=>(HU.out.cell ac).trans (ad j hj).1
     have J:=JF x nl parent but k V
     have K:=Qe x but k V
     rw[HT.out] at J
     rw[HC.out] at K
     obtain⟨y,hy⟩:∃y,x.boxes[k]=y:=⟨_,rfl⟩
     rw[hy] at a J K
     obtain⟨C,o,l,M,D,N⟩:=y
     have e0:wr.cell? ⟨b,B+k * 6,none⟩=some (.int .i64 C):=a 0 (by omega)
     have e1:wr.cell? ⟨b,B+k * 6+1,none⟩=some (.string ⟨o.toArray⟩):=a 1 (by omega)
     have e2:wr.cell? ⟨b,B+k * 6+2,none⟩=some (.int .i64 l):=a 2 (by omega)
     have e3:wr.cell? ⟨b,B+k * 6+3,none⟩=some (.int .i64 M):=a 3 (by omega)
     have e4:wr.cell? ⟨b,B+k * 6+4,none⟩=some (.int .i64 D):=a 4 (by omega)
     have e5:wr.cell? ⟨b,B+k * 6+5,none⟩=some (.int .i64 N):=a 5 (by omega)
     simp only at J K
     have u:=zdG J
     have H:=zdG K
     clear ad a J K hy
     have ao:IntKind.i64.wrap ((s:Int)+1)=(s:Int)+1:=IntWalk.i64_in _ (by omega)
     by_cases O:C=but
     ·have h1:(C==but)=true:=by simpa using O
      have P:=zdG (za HU.out (below_alloc1 wr (.cells #[.int .i64 C,.string ⟨o.toArray⟩,.int .i64 l,.int .i64 M,.int .i64 D,.int .i64 N] 89)))
      have d:Hid (vZ x nl parent but (k+1)=Q):=zdG (by rw[u.out];simp[O])
      have m:Hid (Yn x but (k+1)=s):=zdG (by rw[H.out];simp[O])
      clear O u H
      go_wp2_with fail
      refine⟨?_,by simp[intOf];omega⟩
      first|exact⟨k+1,s,Q,by omega,by omega,by go_num,rfl,rfl,P,d,m⟩|((repeat apply Exists.intro);exact⟨⟨k+1,s,Q,by omega,by omega,by go_num,rfl,rfl,P,d,m⟩,rfl⟩)
     ·have h1:(C==but)=false:=by simpa using O
      have P:=zdG (za HU.out (below_alloc1 wr (.cells #[.int .i64 C,.string ⟨o.toArray⟩,.int .i64 l,.int .i64 M,.int .i64 D,.int .i64 N] 89)))
      have m:Hid (Yn x but (k+1)=s+1):=zdG (by rw[H.out];simp[O])
      cases Q with
      |true=>
       have d:Hid (vZ x nl parent but (k+1)=true):=zdG (by rw[u.out,Bool.true_or])
       clear O u H
       go_wp2_with fail
       refine⟨?_,by simp[intOf];omega⟩
       first|exact⟨k+1,s+1,true,by omega,by omega,by go_num,rfl,by go_num,P,d,m⟩|((repeat apply Exists.intro);exact⟨⟨k+1,s+1,true,by omega,by omega,by go_num,rfl,by go_num,P,d,m⟩,rfl⟩)
      |false=>
       by_cases q2:l=parent
       ·have h2:(l==parent)=true:=by simpa using q2
        have d:Hid (vZ x nl parent but (k+1)=(o==nl)):=zdG (by
         rw[u.out]
         simp only[Bool.false_or,decide_eq_true (show C≠but from O),decide_eq_true q2,Bool.true_and]
         rw[Bool.eq_iff_iff]
         simp)
        clear O q2 u H
        go_wp2_with fail
        refine⟨?_,by simp[intOf];omega⟩
        first|exact⟨k+1,s+1,_,by omega,by omega,by go_num,rfl,by go_num,P,d,m⟩|((repeat apply Exists.intro);exact⟨⟨k+1,s+1,_,by omega,by omega,by go_num,rfl,by go_num,P,d,m⟩,rfl⟩)
       ·have h2:(l==parent)=false:=by simpa using q2
        have d:Hid (vZ x nl parent but (k+1)=false):=zdG (by
         rw[u.out]
         simp[q2])
        clear O q2 u H
        go_wp2_with fail
        refine⟨?_,by simp[intOf];omega⟩
        first|exact⟨k+1,s+1,false,by omega,by omega,by go_num,rfl,by go_num,P,d,m⟩|((repeat apply Exists.intro);exact⟨⟨k+1,s+1,false,by omega,by omega,by go_num,rfl,by go_num,P,d,m⟩,rfl⟩)
    ·have al:k=n:=by omega
     subst al
     have k3:=(HU.out.cell (p:=⟨g,3,none⟩) a6).trans c3
     have a7:rr=if Q=true then 5 else if mb≤(s:Int) then 8 else 0:=by
      rw[a3.out,a4.out,HT.out,HC.out,af.out]
     have HR:=zdG a7
     clear a7
     cases Q with
     |true=>
      have L:Hid (rr=5):=zdG (by rw[HR.out];rfl)
      go_wp2_with fail
      go_ret
      exact⟨zaI L.out.symm,HU.out⟩
     |false=>
      by_cases q3:mb≤(s:Int)
      ·have L:Hid (rr=8):=zdG (by rw[HR.out,if_neg (by simp),if_pos q3])
       go_wp2_with fail
       go_ret
       exact⟨zaI L.out.symm,HU.out⟩
      ·have L:Hid (rr=0):=zdG (by rw[HR.out,if_neg (by simp),if_neg q3])
       go_wp2_with fail
       go_ret
       exact⟨zaI L.out.symm,HU.out⟩
theorem ZE {t:Text}(h:zo t=true):t.length≤64:=by
 unfold zo at h
 simp only[Bool.and_eq_true,decide_eq_true_eq] at h
 exact h.2.1
theorem U6 (w:World)(e:E4):Sl (w.alloc (.cells #[.int .i64 e.m,.int .i64 e.k,.int .i64 e.i,.int .i64 e.h] 177)) 177 4 (.slice (some ⟨w.heap.size,0,none⟩) 1 1) (some w.heap.size) 1 (zM [e]):=
 ⟨by simp[zM,QH],.inr ⟨w.heap.size,0,1,_,rfl,rfl,Blk.new _ _ _,Nat.le_refl _,by unfold maxLen;omega,by simp,by simp[zM,QH]⟩⟩
theorem addOne {W0 W:World}{g:Nat}{q:zl}{x:Acc}(h:zh W0 g q x)(hf:x.log.most=x.cfg.maxLog∧(x.log.es.length:Int)≤x.cfg.maxLog)(hl:1≤x.cfg.maxLog∧x.cfg.maxLog≤2147483647)(e:E4)(hb:Below (W0.alloc (.cells #[.int .i64 e.m,.int .i64 e.k,.int .i64 e.i,.int .i64 e.h] 177)).heap.size (W0.alloc (.cells #[.int .i64 e.m,.int .i64 e.k,.int .i64 e.i,.int .i64 e.h] 177)) W) :
  Calls Tryz.prog 98 #[.pointer (some ⟨q.gl,0,none⟩),.slice (some ⟨W0.heap.size,0,none⟩) 1 1] W fun e' w'=>e'=.returned (.tuple #[])∧∃q'',Turned W0 w' g q {x with log:=x.log.add [e]} q'':=by
 have a:Turned W0 W g q x q:=Turned.of_below h (za (below_alloc1 _ _) hb)
 have c:Sl W 177 4 (.slice (some ⟨W0.heap.size,0,none⟩) 1 1) (some W0.heap.size) 1 (zM [e]):=(U6 W0 e).keep (fun b hb2=>hb.block b ((U6 W0 e).lt b hb2))
 refine(XU a.at_ (by rw[hf.1];omega) (by rw[hf.1];omega) (by omega) c rfl (by omega) (fun b hb hm=>?_)).mono ?_
 ·injection hb with hb
  have:=h.lt b hm
  omega
 ·rintro e' w' ⟨rfl,d,f⟩
  exact⟨rfl,d,a.trans f⟩
theorem make_bad (w:World)(g:Nat)(q:zl)(x:Acc)(nl:Text)(parent:Int)(h:zh w g q x)(hn:nl.length≤1099511627776)(hr:zo nl=false) :
  Calls Tryz.prog 44 #[.pointer (some ⟨g,0,none⟩),.string ⟨nl.toArray⟩,.int .i64 parent] w (vX w g q (vE zo x nl parent)):=by
 have a:vE zo x nl parent=(x,0,1):=by
  unfold vE
  rw[if_pos hr]
 rw[a]
 have b:=yJ ⟨nl.toArray⟩ (by show nl.toArray.size≤_;simp;omega) w
 rw[show zo (⟨nl.toArray⟩:ByteArray).data.toList=false from hr] at b
 have f:=zdG h
 clear a h hr
 go_enter Tryz.func44,Tryz.ntmps44
 go_wp2_with (first
  |(go_at_call 103;refine b.mono ?_;rintro e i ⟨rfl,c⟩;have d:=zdG c;clear c)
  |fail)
 go_ret2
 exact⟨rfl,q,Turned.of_below f.out d.out⟩
theorem zbq (w:World)(g:Nat)(q:zl)(x:Acc)(nl:Text)(parent:Int)(h:zh w g q x)(hf:Fit x)(hr:zo nl=true)(hnm:yG x nl parent 0≠0) :
  Calls Tryz.prog 44 #[.pointer (some ⟨g,0,none⟩),.string ⟨nl.toArray⟩,.int .i64 parent] w (vX w g q (vE zo x nl parent)):=by
 have m:=ZE hr
 have a:vE zo x nl parent=(x,0,yG x nl parent 0):=by
  unfold vE
  rw[if_neg (by rw[hr];decide),if_pos hnm]
 rw[a]
 have d:=yJ ⟨nl.toArray⟩ (by show nl.toArray.size≤_;simp;omega) w
 rw[show zo (⟨nl.toArray⟩:ByteArray).data.toList=true from hr] at d
 have b:=fun W (hb:Below w.heap.size w W)=>vv W g q x (h.later hb) (by have:=hf.nb;have:=hf.clock;have:=hf.cfg.mod;omega) nl (by omega) parent 0
 generalize yG x nl parent 0=r at hnm b ⊢
 have p:(r !=0)=true:=by simpa using hnm
 have n:=zdG h
 have j:=zdG b
 clear a h hr b hnm
 go_enter Tryz.func44,Tryz.ntmps44
 go_wp2_with (first
  |(go_at_call 103;refine d.mono ?_;rintro e o ⟨rfl,c⟩;have f:=j.out o c;have k:=zdG c;clear c)
  |(go_at_call 104;refine f.mono ?_;rintro e s ⟨rfl,i⟩;have l:=zdG (za k.out i);clear i f)
  |fail)
 go_ret2
 exact⟨rfl,q,Turned.of_below n.out l.out⟩
theorem zch (w:World)(g:Nat)(q:zl)(x:Acc)(nl:Text)(parent:Int)(h:zh w g q x)(hf:Fit x)(hr:zo nl=true)(hnm:yG x nl parent 0=0)(hen:x.cfg.maxMod≤x.clock) :
  Calls Tryz.prog 44 #[.pointer (some ⟨g,0,none⟩),.string ⟨nl.toArray⟩,.int .i64 parent] w (vX w g q (vE zo x nl parent)):=by
 have p:=ZE hr
 have b:vE zo x nl parent=(x,0,11):=by
  unfold vE
  rw[if_neg (by rw[hr];decide),if_neg (by rw[hnm];decide),if_pos (by simp[Acc.ends,hen])]
 rw[b]
 have f:=yJ ⟨nl.toArray⟩ (by show nl.toArray.size≤_;simp;omega) w
 rw[show zo (⟨nl.toArray⟩:ByteArray).data.toList=true from hr] at f
 have c:=fun W (hb:Below w.heap.size w W)=>vv W g q x (h.later hb) (by have:=hf.nb;have:=hf.clock;have:=hf.cfg.mod;omega) nl (by omega) parent 0
 rw[hnm] at c
 have k:=zdG h
 have l:=zdG c
 clear b h hr c hnm
 go_enter Tryz.func44,Tryz.ntmps44
 go_wp2_with (first
  |(go_at_call 103;refine f.mono ?_;rintro e t ⟨rfl,d⟩;have i:=l.out t d;have m:=zdG d;clear d)
  |(go_at_call 104;refine i.mono ?_;rintro e o ⟨rfl,j⟩;have a:=za m.out j;have r:o.cell? ⟨g,6,none⟩=some (.int .i64 x.cfg.maxMod):=(k.out.later a).cells 6;have s:=(k.out.later a).yo;have n:=zdG a;clear j i a)
  |(go_at_call 92;refine(yQ g x.clock x.cfg.maxMod _ ((zB (w:=o) (by rfl) _).trans s) ((zB (w:=o) (by rfl) _).trans r)).mono ?_;rintro e u ⟨rfl,v,rfl⟩)
  |fail)
 go_ret2
 exact⟨rfl,q,(Turned.of_below k.out n.out).zL (below_drewN' (Below.refl _ _) _)⟩
theorem make_ok (w:World)(g:Nat)(q:zl)(x:Acc)(nl:Text)(parent:Int)(h:zh w g q x)(hf:Fit x)(hr:zo nl=true)(hnm:yG x nl parent 0=0)(hen:¬x.cfg.maxMod≤x.clock) :
  Calls Tryz.prog 44 #[.pointer (some ⟨g,0,none⟩),.string ⟨nl.toArray⟩,.int .i64 parent] w (vX w g q (vE zo x nl parent)):=by
 have ah:=ZE hr
 have n:vE zo x nl parent=({x with clock:=x.clock+1,lastBox:=x.lastBox+1,boxes:=x.boxes++[⟨x.lastBox+1,nl,parent,x.clock+1,1,x.clock+1⟩],log:=x.log.add [⟨x.clock+1,1,x.lastBox+1,1⟩]},x.lastBox+1,0):=by
  unfold vE
  rw[if_neg (by rw[hr];decide),if_neg (by rw[hnm];decide),if_neg (by simp[Acc.ends];omega)]
 obtain⟨rr,C⟩:∃rr,vE zo x nl parent=rr:=⟨_,rfl⟩
 rw[C]
 have K:=zdG (C.symm.trans n)
 have ai:=hf.clock
 have aj:=hf.cfg.mod
 have ak:=hf.lastBox
 have L:=yJ ⟨nl.toArray⟩ (by show nl.toArray.size≤_;simp;omega) w
 rw[show zo (⟨nl.toArray⟩:ByteArray).data.toList=true from hr] at L
 have v:=fun W (hb:Below w.heap.size w W)=>vv W g q x (h.later hb) (by have:=hf.nb;omega) nl (by omega) parent 0
 rw[hnm] at v
 have al:IntKind.i64.wrap (x.lastBox+1)=x.lastBox+1:=IntWalk.i64_in _ (by omega)
 have HS:=zdG h
 have HF:=zdG hf
 have a6:=zdG v
 obtain⟨Ab,cb,D,_,_⟩:=h.boxes.form
 obtain⟨nb,E⟩:∃nb,x.boxes.length=nb:=⟨_,rfl⟩
 rw[E] at D
 have ag:nb≤4294967296:=by
  have:=hf.nb
  omega
 have M:=zdG D
 have N:=zdG E
 obtain⟨i0,hi,ab,ac,ad⟩:=info_parts Try.infoBox
 clear n h hr v hnm C D E hf
 go_enter Tryz.func44,Tryz.ntmps44
 go_upto_region 12 with(first
  |(go_at_call 103;refine L.mono ?_;rintro e w2 ⟨rfl,F⟩;have O:=a6.out w2 F;have a7:=zdG F;clear F)
  |(go_at_call 104;refine O.mono ?_;rintro e w3 ⟨rfl,a1⟩;have m:=za a7.out a1;have c6:w3.cell? ⟨g,6,none⟩=some (.int .i64 x.cfg.maxMod):=(HS.out.later m).cells 6;have c9:=(HS.out.later m).yo;have a8:=zdG m;clear a1 O m)
  |(go_at_call 92;refine(yQ g x.clock x.cfg.maxMod _ ((zB (w:=w3) (by rfl) _).trans c9) ((zB (w:=w3) (by rfl) _).trans c6)).mono ?_;rintro e w4 ⟨rfl,ne,rfl⟩;have y:=(za a8.out (below_drewN' (Below.refl w3.heap.size w3) ne));have H5:=zdG (HS.out.later y);have o:=uo g x.clock _ H5.out.yo (H5.out.frozen 9) (by omega);have a9:=zdG y;clear y)
  |(go_at_call 95;refine o.mono ?_;rintro e w6 ⟨rfl,a2⟩;have P:=H5.out.yj 9 (.int .i64 (x.clock+1)) {x with clock:=x.clock+1} rfl rfl rfl rfl;rw[←a2] at P;have d:=P.at_.YD;have aa:=P.at_.frozen 13;have T6:=zdG P;clear o a2 P)
  |fail)
 obtain⟨f,G⟩:∃f:World,f=w6.setCell ⟨g,13,none⟩ (.int .i64 (x.lastBox+1)):=⟨_,rfl⟩
 rw[←G]
 have b:Turned w f g q {x with clock:=x.clock+1,lastBox:=x.lastBox+1} q:=by
  rw[G]
  exact((Turned.of_below HS.out a9.out).trans T6.out).trans (T6.out.at_.yj 13 (.int .i64 (x.lastBox+1)) {x with clock:=x.clock+1,lastBox:=x.lastBox+1} rfl rfl rfl rfl)
 clear G d aa
 have z:f.cell? ⟨g,10,none⟩=some (.slice Ab nb cb):=by rw[←M.out];exact b.at_.zQ
 have Q:f.frozen? ⟨g,10,none⟩=false:=b.at_.frozen 10
 have d:f.cell? ⟨g,13,none⟩=some (.int .i64 (x.lastBox+1)):=b.at_.YD
 have a:g < f.heap.size:=b.at_.blk.lt
 have A:g∉q.hb.toList:=fun hm=>b.at_.apart.hb (by simpa using hm)
 have R:Sl f 89 6 (.slice Ab nb cb) q.hb nb (zk xQ x.boxes):=by
  rw[←M.out,←N.out]
  exact b.at_.boxes
 have S:=zdG b
 have T:=zdG R
 have U:=(World.cell?_alloc_lt f (.cells #[.int .i64 (x.lastBox+1),.string ⟨nl.toArray⟩,.int .i64 parent,.int .i64 (x.clock+1),.int .i64 1,.int .i64 (x.clock+1)] 89) ⟨g,10,none⟩ a).trans z
 have k:=(World.cell?_alloc_lt f (.cells #[.int .i64 (x.lastBox+1),.string ⟨nl.toArray⟩,.int .i64 parent,.int .i64 (x.clock+1),.int .i64 1,.int .i64 (x.clock+1)] 89) ⟨g,13,none⟩ a).trans d
 clear b R c6 c9
 go_cut [] (fun wx=>∃q',Hid (Turned w wx g q {x with clock:=x.clock+1,lastBox:=x.lastBox+1,boxes:=x.boxes++[⟨x.lastBox+1,nl,parent,x.clock+1,1,x.clock+1⟩]} q'))
 case first=>
  go_region_law (first
   |(refine zx _ (by rfl) (.tmp 39) (.tmp 49) _ (by rfl) Tryz.underlying42 hi ab ac ad rfl (by omega) ((T.out.alloc _).heap (by rfl)) (by first|(simp[Act.eval];done)|simp[Act.eval,Act.put]) f.heap.size #[.int .i64 (x.lastBox+1),.string ⟨nl.toArray⟩,.int .i64 parent,.int .i64 (x.clock+1),.int .i64 1,.int .i64 (x.clock+1)] (e':=89) (fr:=(0,0)) (heap_alloc_new f _) 1 1 (by first|(simp[Act.eval];done)|simp[Act.eval,Act.put]) (by rfl) (by simp[Value.oneCell']) (by unfold maxLen;omega) (by omega) ?_;intro v2 h2 w9 H c a3;obtain⟨ae,a4,rfl,_,_⟩:=H.form;have am:w9.cell? ⟨g,10,none⟩=some (.slice Ab nb cb):=(c.cell (p:=⟨g,10,none⟩) (by simp;omega) A).trans ((World.cell?_alloc_past _ _ _ a).trans z);have an:w9.frozen? ⟨g,10,none⟩=false:=(c.frozen (p:=⟨g,10,none⟩) (by simp;omega) A).trans ((World.frozen?_alloc_past _ _ _ a).trans Q))
   |fail)
  all_goals
   have l:=(S.out.at_.alloc (.cells #[.int .i64 (x.lastBox+1),.string ⟨nl.toArray⟩,.int .i64 parent,.int .i64 (x.clock+1),.int .i64 1,.int .i64 (x.clock+1)] 89)).zaG ⟨x.lastBox+1,nl,parent,x.clock+1,1,x.clock+1⟩ (v':=.slice ae (nb+1) a4) (h':=h2) (w':=w9) (by
    show Sl w9 _ 6 _ h2 (x.boxes.length+1) _
    rw[N.out]
    exact H) ⟨c.os,c.tape,c.output,c.size,c.block⟩ a3
   have B:=zdG l
   clear l H c a3
   go_wp2_with fail
   go_meet
   exact⟨_,zdG ((S.out.zL (below_alloc1 f _)).trans B.out)⟩
 case rest=>
  obtain⟨q',i⟩:=hcut
  obtain⟨I,rfl⟩:∃I:World,I=wc:=⟨_,rfl⟩
  clear z Q d a A T U k
  go_upto_region 13 with(fail)
  obtain⟨x3,j⟩:∃x3:Acc,x3={x with clock:=x.clock+1,lastBox:=x.lastBox+1,boxes:=x.boxes++[⟨x.lastBox+1,nl,parent,x.clock+1,1,x.clock+1⟩]}:=⟨_,rfl⟩
  rw[←j] at i
  have V:I.cell? ⟨g,12,none⟩=some (.pointer (some ⟨q'.gl,0,none⟩)):=i.out.at_.zV
  have d:I.cell? ⟨g,13,none⟩=some (.int .i64 (x.lastBox+1)):=by
   have r:=i.out.at_.YD
   rw[j] at r
   exact r
  have a:g < I.heap.size:=i.out.at_.blk.lt
  have X:=(World.cell?_alloc_lt I (.cells #[.int .i64 (x.clock+1),.int .i64 1,.int .i64 (x.lastBox+1),.int .i64 1] 177) ⟨g,12,none⟩ a).trans V
  have k:=(World.cell?_alloc_lt I (.cells #[.int .i64 (x.clock+1),.int .i64 1,.int .i64 (x.lastBox+1),.int .i64 1] 177) ⟨g,13,none⟩ a).trans d
  have s:=fun W hb=>addOne (W:=W) i.out.at_ (by rw[j];exact HF.out.log) (by rw[j];exact HF.out.cfg.log) ⟨x.clock+1,1,x.lastBox+1,1⟩ hb
  have t:=zdG s
  have Y:=zdG j
  clear s j
  go_cut [] (fun wx=>∃J,Hid (Turned w wx g q {x3 with log:=x3.log.add [⟨x.clock+1,1,x.lastBox+1,1⟩]} J))
  case first=>
   go_region_law (first
    |(refine zF (by rfl) (by rfl) (enters_of Tryz.func98 (by kernel_rfl) rfl) (by first|(simp[Act.eval];done)|simp[Act.eval,Act.put]) (t.out _ ⟨rfl,rfl,rfl,Nat.le_refl _,fun _ _=>rfl⟩) ?_;rintro e ap ⟨rfl,af,u⟩;refine⟨_,rfl,?_⟩;have Z:=zdG u;clear u)
    |fail)
   all_goals
    go_wp2_with fail
    go_meet
    exact⟨af,zdG (i.out.trans Z.out)⟩
  case rest=>
   obtain⟨J,a5⟩:=hcut
   obtain⟨wz,rfl⟩:∃wz:World,wz=wc:=⟨_,rfl⟩
   clear V d a X k t
   have ao:wz.cell? ⟨g,13,none⟩=some (.int .i64 (x.lastBox+1)):=by
    have r:=a5.out.at_.YD
    rw[Y.out] at r
    exact r
   have a0:Hid (vX w g q rr (.returned (.tuple #[.int .i64 (x.lastBox+1),.int .i64 0])) wz):=zdG (by
    rw[K.out]
    refine⟨rfl,J,?_⟩
    have r:=a5.out
    rw[Y.out] at r
    exact r)
   go_wp2_with fail
   go_ret2
   exact a0.out
theorem make_any (w:World)(g:Nat)(q:zl)(x:Acc)(nl:Text)(parent:Int)(h:zh w g q x)(hf:Fit x)(hn:nl.length≤1099511627776) :
  Calls Tryz.prog 44 #[.pointer (some ⟨g,0,none⟩),.string ⟨nl.toArray⟩,.int .i64 parent] w (vX w g q (vE zo x nl parent)):=by
 cases a:zo nl with
 |false=>exact make_bad w g q x nl parent h hn a
 |true=>
  by_cases b:yG x nl parent 0=0
  ·by_cases c:x.cfg.maxMod≤x.clock
   ·exact zch w g q x nl parent h hf a b c
   ·exact make_ok w g q x nl parent h hf a b c
  ·exact zbq w g q x nl parent h hf a b
end Go.Proofs.YtfhlhdmhgheonaaGreatDoor
