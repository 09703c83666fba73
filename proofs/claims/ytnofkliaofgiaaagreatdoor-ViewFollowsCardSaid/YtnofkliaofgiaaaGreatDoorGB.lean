/-
  Plain facts on bytes and lists, with no program in sight: letters made small, and what is kept by it. Rows of bytes in memory; a string turned into bytes; the walk of pillarboxref1.Fold. The walk of text.Atom: whether a text is an atom; the world is as it was. The walk of text.Fold: letters A to Z made small; nothing that was there turns. The walk of flag.Right alone (for seats without flag.Key). 
-/
import Derived.Test.YtnofkliaofgiaaaGreatDoorGA
import Derived.Test.YtnofkliaofgiaaaGreatDoorShelf
import Derived.Below
import Derived.Laws.BytesArg
import Derived.Laws.Strings
import Derived.Test.YtnofkliaofgiaaaGreatDoorProg
import Derived.Lib.ConvBytes
import Derived.Deep.QuietTactic
import Derived.BigQuiet
import Derived.Sort.OwnSorted
import Derived.Lib.RowBridge
import Derived.Lib.SlTrimSet
import Derived.Lib.IndexMore
import Derived.Shelf.Strings.Cut
import Derived.Lib.IndexBytes
import Derived.Shelf.Strings.SlTrimAscii
import Derived.Shelf.Lay
import Derived.Ground.NamesProg
set_option maxRecDepth 100000
set_option maxHeartbeats 8000000
open Go.Proofs.Tryz
open Exists renaming intro→OA
open Go renaming Program→Pv,TypeId→Pa,Value→Oe,World→Oc
open Go.ByteArray renaming toList_eq→Pu
open Go.Ending renaming returned→RR
open Go.IntKind renaming i64→Ov
open Go.IntWalk renaming i64_in→Og
open Go.Lib renaming compact→Po,cut→PY,indexByte→O0,run_eql_slice_nil→P2,trimS→Ry,trimSuffix→PB
open Go.Proofs renaming enters_of→O9,run_isAgg_plain→P1
open Go.RowKit renaming Below→Od
open Go.RowKit.Below renaming refl→Ok
open Go.Sort renaming ahead→Rf
open Go.Value renaming slice→RO,string→RP,int→P5
open Go.Value.slice renaming injEq→PH
open Go.World renaming block_lt_of_cell?→OH,cell?_alloc_lt→Ox
open List renaming append_assoc→O4,drop_eq_getElem_cons→O7,eq_nil_of_length_eq_zero→Oi,getElem?_eq_getElem→Ot,getElem?_map→O5,getElem_mem→Oj,length_set→Pd,length_take→OU,map_append→OQ,map_congr_left→PQ,map_map→PS,mem_append→OO,mem_map→OL,mem_singleton→OI,replicate→Pi,take_of_length_le→Ou,take_succ_eq_append_getElem→Oh
open Nat renaming le_refl→Oq,le_trans→Ol,mul_le_mul_right→PG,zero_le→OE
open Option.some renaming injEq→Pk
open UInt8 renaming le_iff_toNat_le→RF
open _root_ renaming ByteArray→Oy,List→Ob,Option→OC,UInt8→Oz,decide_eq_false→OD,decide_eq_true→OS,if_neg→Om,if_pos→OG
namespace Go.Proofs.YtnofkliaofgiaaaGreatDoor
theorem zzm7q{p:Prop}(h:p:=by
 have xu:∀(W:Oc),Od w w W→∀j,j < zs.length→W.cell? (Y b (off+j))=some (I zs[j]!):=fun W hW j hj=>(hW.cell (p:=⟨b,off+j,none⟩) hb).trans (hc j hj)
 clear hc
 go_enter func150,ntmps150
 go_wp2
 go_loopg [5,8] n (fun gg _ s8 wr=>∃kk:Nat,kk≤n∧n - kk≤gg∧s8=I kk∧Aside (Od w w wr)∧Aside (∀j,j < kk→p zs[j]! =false))
 case atStart=>exact⟨0,OE _,O,rfl,Ok _ w,fun j hj=>absurd hj (Nat.not_lt_zero _)⟩
 case round=>
  obtain⟨kk,Ez,hg,rfl,BW,A⟩:=hrel
  by_cases af:kk < n
  ·have iw:(kk:Int) < (n:Int):=O
   have l2:=xu wr BW.out kk O
   have dm:=hp wr BW.out zs[kk]! (Uy O)
   clear xu hp
   generalize hy:zs[kk]! =y at l2 dm
   have B:Aside (zs[kk]! =y):=hy
   clear hy
   cases hq:p y with
   |true=>
    rw[hq] at dm
    go_wp2_with (go_at_fn g;refine dm.mono ?_;rintro e w' ⟨rfl,dn⟩)
    go_ret
    refine⟨?_,dn⟩
    rw[QU p zs kk O (by rw[B.out];exact hq) A.out]
    rfl
   |false=>
    rw[hq] at dm
    go_wp2_with (go_at_fn g;refine dm.mono ?_;rintro e w' ⟨rfl,dn⟩)
    go_roundg (n - (kk+1))
    case measure=>omega
    case rel=>
     refine⟨kk+1,O,O,zE,dn,(show Aside _ from fun j hj=>?_)⟩
     by_cases e:j=kk
     ·subst e
      rw[B.out];exact hq
     ·exact A.out j O
  ·have iw:¬(kk:Int) < (n:Int):=O
   have:kk=n:=O
   subst this
   go_wp2
   go_ret
   refine⟨?_,BW.out⟩
   rw[dE p zs (fun j hj=>A.out j O)]
   rfl):p:=h
theorem rJ{p:Prop}(h:p:=by
 have HV:=V hv
 clear l2 hv
 cases hq:p y with
 |true=>
  rw[hq] at dm
  go_wp2_with (go_at_fn g;refine dm.mono ?_;rintro e w' ⟨rfl,dn⟩)
  go_ret
  refine⟨?_,dn⟩
  rw[QU p zs kk O (by rw[B.out];exact hq) A.out]
  rfl
 |false=>
  rw[hq] at dm
  go_wp2_with (go_at_fn g;refine dm.mono ?_;rintro e w' ⟨rfl,dn⟩)
  go_roundg (n - (kk+1))
  case measure=>omega
  case rel=>
   refine⟨kk+1,O,O,zE,dn,(show Aside _ from fun j hj=>?_)⟩
   by_cases e:j=kk
   ·subst e
    rw[B.out];exact hq
   ·exact A.out j O):p:=h
section
open Go.RowKit
def Kj (c:Oz):Oz:=if 65≤c∧c≤90 then c+32 else c
def Zn (l:Ob Oz):Ob Oz:=l.map Kj
def bO (s:Oy):Oy:=⟨(Zn s.data.toList).toArray⟩
def LR (c:Oz):Int:=(Kj c).toNat
theorem qX (c:Oz)(h1:65≤(c.toNat:Int))(h2:(c.toNat:Int)≤90):LR c=(c.toNat:Int)+32:=by
 unfold LR Kj
 have a:65≤c:=by rw[RF];show 65≤c.toNat;omega
 have b:c≤90:=by rw[RF];show c.toNat≤90;omega
 rw[OG ⟨a,b⟩,UInt8.toNat_add]
 show ((c.toNat+32) % 256:Nat)=(c.toNat:Int)+32
 omega
theorem cN (c:Oz)(h:¬(65≤(c.toNat:Int)∧(c.toNat:Int)≤90)):LR c=(c.toNat:Int):=by
 unfold LR Kj
 rw[Om]
 rintro⟨a,b⟩
 rw[RF] at a b
 exact h ⟨by exact_mod_cast a,by exact_mod_cast b⟩
def jM (l:Ob Oz):Ob Int:=l.map LR
theorem Vi (s:Oy)(k:Nat)(h:k < s.size):s.data.toList.take (k+1)=s.data.toList.take k++[s[k]]:=by
 rw[Oh vZ];rfl
theorem aC (s:Oy)(k:Nat)(h:s.size≤k):s.data.toList.take k=s.data.toList:=Ou vZ
theorem tC (s:Oy)(k:Nat)(h:k < s.size)(x:Int)(hx:LR s[k]=x) :
  (jM (s.data.toList.take k)).map (P5 .u8)++[P5 .u8 x]=(jM (s.data.toList.take (k+1))).map (P5 .u8):=by
 rw[Vi s k h]
 simp[jM,hx]
theorem oH (s:Oy):strOfNums (jM s.data.toList)=bO s:=by
 unfold strOfNums bO Zn jM
 rw[PS]
 congr 2
 refine PQ fun c _=>?_
 simp[LR]
theorem oI (a b:Oy):(a.toList==b.toList)=(a.data.toList==b.data.toList):=by rw[Pu,Pu]
theorem jJ (s:Oy):s.data.toList.length=s.size:=zv
theorem Z8 (t:Oy)(l:Ob Oz)(h:t.data.toList=l):t=⟨l.toArray⟩:=by
 subst h
 rfl
theorem ZA (t:Oy)(l:Ob Oz)(h:t≠⟨l.toArray⟩):(t.toList==l)=false:=by
 rw[Pu,beq_eq_false_iff_ne]
 exact fun e=>h (Z8 t l e)
theorem Uj {a w w':Oc}(hb:Od a a w)(h:Od w w w'):Od a a w':=hb.trans (h.mono hb.size)
def rL (w:Oc)(g:Nat)(l:Ob Oz):Prop:=∀j (hj:j < l.length),w.cell? (Y g j)=some (.int .u8 (l[j].toNat:Int))∧w.frozen? (Y g j)=false
theorem rL.set {w:Oc}{g:Nat}{l:Ob Oz}(h:rL w g l)(k:Nat)(hk:k < l.length)(c:Oz):rL (w.setCell (Y g k) (.int .u8 (c.toNat:Int))) g (l.set k c):=by
 intro j a
 rw[Pd] at a
 refine⟨?_,by rw[World.frozen?_setCell];exact(h j a).2⟩
 by_cases e:k=j
 ·subst e
  rw[World.cell?_setCell_same _ _ _ (h k hk).1]
  simp
 ·rw[World.cell?_setCell_other _ _ _ _ zv,(h j a).1]
  simp[e]
theorem rL.below {w w':Oc}{g:Nat}{l:Ob Oz}(h:rL w g l)(hb:Od w w w')(hg:g < w.heap.size):rL w' g l:=by
 intro j a
 rw[hb.cell (p:=⟨g,j,none⟩) hg,hb.frozen (p:=⟨g,j,none⟩) hg]
 exact h j a
theorem Do (w:Oc)(e:Pa)(s:Oy):rL (Lib.bytesWorld w e s) w.heap.size s.data.toList∧Od w w (Lib.bytesWorld w e s):=by
 constructor
 ·intro j hj
  have a:j < s.size:=vL
  constructor
  ·rw[Lib.bytesWorld_cell w e s j a]
   simp[List.getD,Ot hj]
  ·simp only[World.frozen?,Lib.bytesWorld_at_new]
   have b:(Lib.bytesCells w e s).size=s.data.size+(grownCap w s.size 0 e - s.size):=by
    unfold Lib.bytesCells
    rw[Array.size_append,Array.size_map,Array.size_replicate]
   have c:s.data.size=s.size:=rfl
   rw[OD O]
   rfl
 ·refine⟨?_,?_,?_,by rw[Lib.bytesWorld_size];omega,fun k hk=>Lib.bytesWorld_at_old w e s k hk⟩
  all_goals simp[Lib.bytesWorld,World.freeze,World.alloc,World.drew, -World.alloc_eq, -World.drew_eq]
theorem aM {P:Pv}{w:Oc}{ops:Array Oper}{rest:Ob Oper}{o:Oper}{a:Act}{Q:Exit→Act→Oc→Prop}(hgd:o.guard=none)(src dst e:Pa)(x:Operand)(ho:o.op=.convert src dst x)(hs:P.underlying src=some .string)(hd:P.underlying dst=some (.slice e))(he:P.underlying e=some (.int .u8))(s:Oy)(hx:a.eval x=.string s)(h:∀cap w',s.size≤cap→cap≤maxLen∨maxLen < s.size→rL w' w.heap.size s.data.toList→Od w w w'→w.heap.size < w'.heap.size→wpList P ops Q rest (a.put o.dst (RO (some (Y w.heap.size 0)) s.size cap)) w') :
  wpList P ops Q (o :: rest) a w:=by
 refine wpList_plain hgd fun K hK=>?_
 have f:=Lib.run_convert_string_bytes (P:=P) w src dst e s hs hd he
 obtain⟨b,c⟩:=Do w e s
 unfold Oper.wp
 simp[execOp,ho,hx,f,Result.andThen]
 refine hK _ _ (h _ _ (grownCap_ge _ _ _ _) ?_ b c (by rw[Lib.bytesWorld_size];omega))
 by_cases d:s.size≤maxLen
 ·exact .inl (grownCap_le_maxLen w s.size 0 e d)
 ·exact .inr O
theorem uA {P:Pv}{w:Oc}{src e g cap:Nat}{l:Ob Oz}(hs:P.underlying src=some (.slice e))(he:P.underlying e=some (.int .u8))(h:rL w g l)(n:Nat)(hn:l.length=n)(dst:Pa)(hd:P.underlying dst=some .string) :
  (convert src dst (RO (some (Y g 0)) n cap)).run P w=.ok (RP ⟨l.toArray⟩) w:=by
 subst hn
 refine run_convert_bytes_back w src dst e (Y g 0) cap l hs he hd fun j hj=>?_
 rw[Addr.ZI]
 exact(h j hj).1
def vK (l:Ob Oz)(k:Nat):Ob Oz:=(l.take k).map Kj++l.drop k
theorem YH (l:Ob Oz)(k:Nat):(vK l k).length=l.length:=by
 simp[vK]
 omega
theorem jO (l:Ob Oz):vK l 0=l:=by simp[vK]
theorem nh (l:Ob Oz):vK l l.length=Zn l:=by simp[vK,Zn]
theorem cO (l:Ob Oz)(k:Nat)(h:k < l.length)(h2:k < (vK l k).length):(vK l k)[k]=l[k]:=by
 simp only[vK]
 rw[List.getElem_append_right zT]
 simp
 congr 1
 omega
theorem QP (l:Ob Oz)(k:Nat)(h:k < l.length):(vK l k).set k (Kj l[k])=vK l (k+1):=by
 unfold vK
 have a:l.drop k=l[k] :: l.drop (k+1):=by rw[O7 h]
 have b:l.take (k+1)=l.take k++[l[k]]:=by rw[Oh h]
 rw[b,List.set_append_right _ _ zT]
 have:k - ((l.take k).map Kj).length=0:=zT
 rw[this,a,OQ,O4]
 rfl
theorem jN (l:Ob Oz)(k:Nat)(h:k < l.length)(hc:Kj l[k]=l[k]):vK l k=vK l (k+1):=by
 rw[←QP l k h,hc]
 have a:k < (vK l k).length:=by rw[YH];exact h
 have:=cO l k h a
 rw[←this,List.set_getElem_self]
def fE:Oy:=⟨#[40,41,123,125,37,42,34,92,93]⟩
def rC (c:Oz):Int:=O0 fE.data.toList c
def Ui (c:Oz):Bool:=decide (33≤(c.toNat:Int)) && decide ((c.toNat:Int)≤126) && decide (rC c < 0)
def Y8 (l:Ob Oz):Bool:=l.all Ui && !l.isEmpty
theorem DK (c:Oz)(w:Oc):C 155 #[.string fE,.int .u8 (c.toNat:Int)] w fun e w'=>e=RR (I (rC c))∧w=w':=by
 have h:=Tryz.strings_IndexByte fE (c.toNat:Int) w
 have e:((c.toNat:Int).toNat).toUInt8=c:=zv
 rw[e] at h
 exact h.mono fun _ _ ⟨h1,h2⟩=>⟨h1,h2.symm⟩
theorem mF (s:Oy)(k:Nat)(h:k < s.size)(hc:Ui s[k]=false):Y8 s.data.toList=false:=by
 unfold Y8
 have:s.data.toList.all Ui=false:=by
  rw[List.all_eq_false]
  exact⟨s[k],by show s.data[k]∈_;simp,by simp[hc]⟩
 simp[this]
theorem iD (s:Oy)(k:Nat)(h:k < s.size)(h0:(s.data.toList.take k).all Ui=true)(hc:Ui s[k]=true):(s.data.toList.take (k+1)).all Ui=true:=by
 rw[Vi s k h]
 simp only[List.all_append,h0,Bool.true_and]
 simp[hc]
theorem dZ (s:Oy)(w:Oc)(hs:s.size≤140737488351232) :
  C 79 #[.string s] w fun e w'=>e=RR (.bool (Y8 s.data.toList))∧w=w':=by
 obtain⟨b,g⟩:∃b,Y8 s.data.toList=b:=⟨_,rfl⟩
 rw[g]
 have dz:=V g
 clear g
 go_enter func79,ntmps79
 go_wp2_with fail
 go_loop [6] (fun i=>∃k:Nat,k≤s.size∧i=I k∧Z ((s.data.toList.take k).all Ui=true)) (fun i=>s.size - (intOf i).toNat)
 case atStart=>exact⟨0,OE _,rfl,rfl⟩
 case round=>
  obtain⟨k,p,rfl,a⟩:=hrel
  by_cases af:k < s.size
  ·have H:=V a
   clear a
   by_cases m:(s[k].toNat:Int) < 33
   ·exact FK
   ·by_cases n:126 < (s[k].toNat:Int)
    ·exact FK
    ·have c:=DK s[k]
     have l:Ui s[k]=decide (rC s[k] < 0):=by
      unfold Ui
      rw[OS O,OS O]
      rfl
     have f:=V l
     clear l
     generalize rC s[k]=r at c f
     by_cases j:r < 0
     ·go_wp2_with (go_at_call 155;refine(c _).mono ?_;rintro e w' ⟨rfl,rfl⟩)
      go_round
      case rel=>exact⟨k+1,O,zE,iD s k af H.o (by rw[f.o];exact OS j)⟩
      case measure=>simp[intOf];omega
     ·have hn:=V (dz.o.symm.trans (mF s k af (by rw[f.o];exact OD j)))
      go_wp2_with (go_at_call 155;refine(c _).mono ?_;rintro e w' ⟨rfl,rfl⟩)
      go_ret
      exact⟨xy hn.o.symm,rfl⟩
  ·have h:k=s.size:=O
   subst h
   have d:b=!s.data.toList.isEmpty:=by
    rw[←dz.o]
    unfold Y8
    rw[aC s _ (Oq _)] at a
    rw[a.o]
    rfl
   have H:=V d
   clear d a
   go_wp2_with fail
   go_ret
   exact⟨xy (by rw[H.o,←Pu]),rfl⟩
theorem Try.info5:(prog.info? 5).map (fun i=>(i.zero,i.size,i.bytes))=some (some (.int .u8 0),1,1):=zQ
theorem Up (s:Oy)(w:Oc)(hs:s.size≤140737488351232) :
  C 167 #[.string s] w fun e w'=>e=RR (RP (bO s))∧Od w w w':=by
 obtain⟨B,z,q,r,t⟩:=info_parts Try.info5
 go_enter func167,ntmps167
 go_wp2_with (at_make;refine wpList_make_own _ rfl _ _ 95 rfl w.heap.size 5 B (.int .u8 0) 1 underlying95 z q r _ _ _ s.size rfl rfl rfl ?c1 ?c2 ?c3 ?_)
 case c1=>rw[t];omega
 case c2=>unfold maxLen;omega
 case c3=>exact Oq _
 intro F l n
 go_wp2
 go_loopw [3,11] (fun b i wr=>∃k:Nat,k≤s.size∧i=I k∧wr.ownsRow w.heap.size 5 1 b k ((jM (s.data.toList.take k)).map (P5 .u8))∧w.heap.size≤wr.heap.size∧Od w w wr) (fun _ i _=>s.size - (intOf i).toNat)
 case atStart=>exact⟨0,OE _,rfl,by simpa[jM] using l,n.size,(Ok _ _).grown n (Oq _) (fun _ h=>by cases h)⟩
 case round=>
  obtain⟨k,E,rfl,a,p,y⟩:=hrel
  by_cases v:k < s.size
  ·go_wp2_with (at_builtin;refine Jo rfl _ _ 95 rfl underlying95 z q r t rfl zD a rfl 1 1 rfl rfl ?_ ?_ ?_ ?_ ?_)
   all_goals first|rfl|omega|(unfold maxLen;omega)|skip
   all_goals
    intro D x c o _
    have A:=tC s k v _ (by first|exact qX _ ‹_› ‹_›|exact cN _ O)
    have d:x.ownsRow w.heap.size 5 1 D (k+1) ((jM (s.data.toList.take (k+1))).map (P5 .u8)):=by rw[←A];exact c
    have f:w.heap.size≤x.heap.size:=Ol p o.size
    have m:Od w w x:=y.grown o p (fun j hj=>(a.lt j hj).1)
    clear A c
    go_wp2
    refine⟨?_,zV⟩
    first|exact⟨k+1,O,zE,d,f,m⟩|((repeat apply OA);exact⟨⟨k+1,O,zE,d,f,m⟩,rfl⟩)
  ·have u:k=s.size:=O
   subst u
   rw[aC s _ (Oq _)] at a
   have g:=bR (P:=prog) underlying95 underlying5 a 9 underlying9
   rw[oH] at g
   go_wp2
   go_ret
   exact⟨rfl,y⟩
def xD (l:Ob Oz):Bool:=Y8 l && decide (l.length≤64) && (Zn l==l)
theorem C2 (s:Oy)(w:Oc)(hs:s.size≤140737488351232) :
  C 142 #[.string s] w fun e w'=>e=RR (.bool (xD s.data.toList))∧Od w w w':=by
 obtain⟨b,hb⟩:∃b,xD s.data.toList=b:=⟨_,rfl⟩
 rw[hb]
 have dz:=V hb
 clear hb
 obtain⟨a,d⟩:∃a,Y8 s.data.toList=a:=⟨_,rfl⟩
 have c:=dZ s
 rw[d] at c
 have HA:=V d
 clear d
 go_enter func142,ntmps142
 cases a
 ·go_wp2_with (first|(go_at_call 79;refine(c _ hs).mono ?_;rintro e w' ⟨rfl,rfl⟩)|(go_at_call 167;refine(Up _ _ hs).mono ?_;rintro e w' ⟨rfl,hb⟩))
  go_ret
  exact⟨xy (by rw[←dz.o,xD,HA.o];rfl),Ok _ _⟩
 ·go_wp2_with (first|(go_at_call 79;refine(c _ hs).mono ?_;rintro e w' ⟨rfl,rfl⟩)|(go_at_call 167;refine(Up _ _ hs).mono ?_;rintro e w' ⟨rfl,hb⟩))
  ·exact GH
  ·exact GL
end
section
open Go.RowKit Go.Sort
attribute [local go_sem ↓] Go.wp_at_zero Go.wp_at_succ
theorem Try.infoString:(prog.info? 9).map (fun i=>(i.zero,i.size,i.bytes))=some (some (RP ⟨#[]⟩),1,16):=zQ
section
variable {w w':Oc} {e:Pa} {b off n cap:Nat} {h:OC Nat} {xs:Ob Oe}
theorem qK (w:Oc)(q:Nat)(d:Array (Ob Oz))(b off:Nat)(os:Array Obj):NH [b] w (grow (putRow encStr (Rf w q) b off d) os):=by
 exact oO
theorem KN {cur:Array Oe}(hB:NG w b e cur)(q:Nat)(d:Array (Ob Oz))(os:Array Obj):NG (grow (putRow encStr (Rf w q) b off d) os) b e (putCells encStr off d cur):=by
 exact oQ
theorem nM (cur:Array Oe)(d:Array (Ob Oz))(h:off+d.size≤cur.size):((putCells encStr off d cur).toList.drop off).take d.size=d.toList.map encStr:=by
 exact Mm
theorem Sl.putRow (hs:Sl w e 1 (RO (some (Y b off)) n cap) h n xs)(q:Nat)(d:Array (Ob Oz))(hd:d.size=n)(os:Array Obj) :
  Sl (grow (Sort.putRow encStr (Rf w q) b off d) os) e 1 (RO (some (Y b off)) n cap) h n (d.toList.map encStr):=by
 refine⟨by simp[hd],?_⟩
 rcases hs.2 with⟨_,hv,_⟩|⟨b',off',cap',cur,hh,hv,hB,hnc,hcm,hcs,ht⟩
 ·cases hv
 ·simp only[PH,Pk,Addr.mk.injEq,and_true,true_and] at hv
  obtain⟨⟨rfl,rfl⟩,rfl⟩:=hv
  refine .inr ⟨b,off,cap,_,hh,rfl,KN hB q d os,hnc,hcm,by simpa[putCells] using hcs,?_⟩
  rw[Nat.mul_one,←hd]
  exact nM cur d O
theorem Sl.owner (hs:Sl w e 1 (RO (some (Y b off)) n cap) h n xs):h=some b:=by
 rcases hs.2 with⟨_,hv,_⟩|⟨b',off',cap',cur,hh,hv,_⟩
 ·cases hv
 ·simp only[PH,Pk,Addr.mk.injEq,and_true,true_and] at hv
  rw[hh,hv.1.1]
theorem Sl.holds {ss:Ob (Ob Oz)}(hs:Sl w e 1 (RO (some (Y b off)) n cap) h n (ss.map encStr)):Holds encStr w b off ss.toArray:=by
 exact Mr
theorem Sl.shrink {size:Nat}{A:OC Addr}(hs:Sl w e size (RO A n cap) h n xs)(k:Nat)(hk:k≤n):Sl w e size (RO A k cap) h k (xs.take (k * size)):=by
 have a:(xs.take (k * size)).length=k * size:=by
  rw[OU,hs.1]
  exact Nat.min_eq_left (PG _ hk)
 refine⟨a,?_⟩
 rcases hs.2 with⟨h1,hv,h2⟩|⟨b',off',cap',cur,hh,hv,hB,hnc,hcm,hcs,ht⟩
 ·injection hv with hv1 _ hv3
  subst h2 hv1 hv3
  obtain rfl:k=0:=O
  exact .inl ⟨h1,rfl,rfl⟩
 ·injection hv with hv1 _ hv3
  subst hv1 hv3
  refine .inr ⟨b',off',cap,cur,hh,rfl,hB,O,hcm,hcs,?_⟩
  rw[←ht,List.take_take,Nat.min_eq_left (PG _ hk)]
end
def YJ (l:Ob (Ob Oz)):Ob (Ob Oz):=l.mergeSort fun x y=>decide (x≤y)
theorem X3 (l:Ob (Ob Oz)):(YJ l).length=l.length:=by simp[YJ]
theorem DI (w:Oc)(v:Oe)(h:OC Nat)(n:Nat)(l:Ob (Ob Oz))(hs:Sl w 9 1 v h n (l.map encStr))(hn:n≤1099511627776) :
  C 144 #[v] w fun e w'=>e=RR (.tuple #[])∧Sl w' 9 1 v h n ((YJ l).map encStr)∧NH h.toList w w':=by
 have a:l.length=n:=Jr
 rcases hs.2 with⟨rfl,rfl,rfl⟩|⟨b,off,cap,cur,rfl,rfl,hB,hnc,hcm,hcs,ht⟩
 ·obtain rfl:l=[]:=Oi a
  refine(Tryz.slices_Sort_string_none none 0 w).mono ?_
  rintro e w' ⟨rfl,rfl⟩
  exact⟨rfl,by simpa[YJ] using hs,NH.refl _ _⟩
 ·have c:=Tryz.slices_Sort_string b off cap l w hs.holds hB.lt O
  rw[a] at c
  refine c.mono ?_
  rintro e w' ⟨rfl,q,f,rfl⟩
  refine⟨rfl,?_,qK _ _ _ _ _ _⟩
  have d:=hs.putRow q (YJ l).toArray (by simp[X3,a]) f
  exact d
theorem jA (w:Oc):grow w #[]=w:=by simp[grow]
theorem iH (w:Oc)(v:Oe)(h:OC Nat)(n:Nat)(l:Ob (Ob Oz))(hs:Sl w 9 1 v h n (l.map encStr))(hn:n≤1099511627776) :
  C 145 #[v] w fun e w'=>∃v',e=RR v'∧Sl w' 9 1 v' h (Po l).length ((Po l).map encStr)∧NH h.toList w w':=by
 have g:l.length=n:=Jr
 rcases hs.2 with⟨rfl,rfl,rfl⟩|⟨b,off,cap,cur,rfl,rfl,hB,hnc,hcm,hcs,ht⟩
 ·obtain rfl:l=[]:=Oi g
  refine(Tryz.slices_Compact_string_empty none 0 w).mono ?_
  rintro e w' ⟨rfl,rfl⟩
  exact⟨_,rfl,hs,NH.refl _ _⟩
 ·have f:=Tryz.slices_Compact_string b off cap l w hs.holds O O
  rw[g] at f
  have j:=Lib.compact_length_le l
  refine f.mono ?_
  rintro e w' ⟨rfl,q,rfl⟩
  have a:=hs.putRow q (Po l++Pi (n - (Po l).length) []).toArray zT #[]
  have c:=qK w q (Po l++Pi (n - (Po l).length) []).toArray b off #[]
  rw[jA] at a c
  refine⟨_,rfl,?_,c⟩
  have d:=a.shrink (Po l).length O
  have i:((Po l++Pi (n - (Po l).length) []).toArray.toList.map encStr).take ((Po l).length * 1)=(Po l).map encStr:=by
   exact FZ
  rw[i] at d
  exact d
theorem sA (l:Ob (Ob Oz)):∀u∈l.map encStr,u.oneCell'=true:=by
 intro u a
 obtain⟨x,_,rfl⟩:=OL.1 a
 rfl
theorem cD (w:Oc)(v:Oe)(n:Nat)(xs:Ob Oe)(hr:NN w [] 1 v n xs)(h1:∀u∈xs,u.oneCell'=true)(hn:n≤2199023255552) :
  C 143 #[v] w fun e w'=>∃v' h',e=RR v'∧Sl w' 9 1 v' h' n xs∧Od w w w'∧∀b,h'=some b→w.heap.size≤b:=by
 obtain⟨j,h,d,f,g⟩:=info_parts Try.infoString
 rcases hr with⟨hlen,⟨rfl,rfl⟩|⟨a,cap,rfl,hnc,hcm,hcell⟩⟩
 ·have i:xs=[]:=Oi aQ
  subst i
  have c:=fun W=>P2 (P:=prog) W 38 9 none 0 0 0 0 underlying38
  go_enter func143,ntmps143
  exact oZ
 ·have c:=fun W=>P2 (P:=prog) W 38 9 (some a) n cap 0 0 underlying38
  have xg:=Yu a hlen hcell
  go_enter func143,ntmps143
  go_wp2_with (at_builtin;refine xH _ rfl _ _ 38 rfl underlying38 h d f g rfl zD (ZB w 9 1) rfl a n cap xs rfl hlen ?_ h1 ?_ ?_ ?_)
  ·exact oU
  ·unfold maxLen
   omega
  ·omega
  ·exact IL
abbrev yF:=Ob (Ob Oz)
def dX (l:yF):Prop:=∀s∈l,s.length≤140737488351232
theorem BZ (s:Oy)(w:Oc)(hs:s.size≤140737488351232) :
  C 141 #[.string s] w fun e w'=>e=RR (.bool (!xD s.data.toList))∧Od w w w':=by
 have h:=C2 s w hs
 go_enter func141,ntmps141
 go_wp2_with (go_at_call 142;refine h.mono ?_;rintro e b ⟨rfl,a⟩)
 go_ret
 exact⟨rfl,a⟩
def VI:yF→Nat→Int
 |[],_=>-1
 |s :: r,k=>if xD s=true then VI r (k+1) else k
theorem rS (l:yF)(k:Nat)(hk:k < l.length)(h:xD l[k]=true):VI (l.drop k) k=VI (l.drop (k+1)) (k+1):=by
 rw[O7 hk,VI,OG h]
theorem rT (l:yF)(k:Nat)(hk:k < l.length)(h:xD l[k]=false):VI (l.drop k) k=k:=by
 rw[O7 hk,VI,Om ZE]
theorem iE:∀(l:yF) (k:Nat),(0≤VI l k)↔l.any (fun s=>!xD s)=true
 |[],k=>by simp[VI]
 |s :: r,k=>by
  rw[VI,List.any_cons]
  by_cases h:xD s=true
  ·rw[OG h,h,iE r (k+1)]
   simp
  ·rw[Om h]
   simp[h]
theorem NN.str {w:Oc}{S:Ob Nat}{v:Oe}{n:Nat}{l:yF}(h:NN w S 1 v n (l.map encStr))(k:Nat)(hk:k < l.length):∃b off cap,v=RO (some (Y b off)) n cap∧b < w.heap.size∧b∉S∧w.cell? (Y b (off+k))=some (encStr l[k]):=by
 have f:l.length=n:=by have:=h.1;simpa using this
 obtain⟨b,off,cap,e,_,_,c,d,a⟩:=h.at_ O
 refine⟨b,off,cap,e,c,d,?_⟩
 rw[a k O]
 simp[hk]
theorem s5 (w:Oc)(v:Oe)(n:Nat)(l:yF)(hn:l.length=n)(hr:NN w [] 1 v n (l.map encStr))(hs:dX l) :
  C 181 #[v,.func (.func 141) #[] #[]] w fun e w'=>e=RR (I (VI l 0))∧Od w w w':=by
 obtain⟨A,N,rfl,_,z⟩:=hr.form
 have Q:n≤9223372036854775807:=by
  unfold maxLen at z
  omega
 obtain⟨d,g⟩:∃d,VI l 0=d:=⟨_,rfl⟩
 rw[g]
 have L:=V hr
 have HN:=V hn
 have M:=V hs
 have r:Z (VI (l.drop 0) 0=d):=V (by simpa using g)
 clear hr hn hs g
 go_enter func181,ntmps181
 go_wp2
 go_loopw [8] (fun i wr=>∃k:Nat,k≤n∧i=I k∧Z (VI (l.drop k) k=d)∧Z (Od w w wr)) (fun i _=>n - (intOf i).toNat)
 case atStart=>exact⟨0,OE _,rfl,r,V (Ok _ _)⟩
 case round=>
  obtain⟨k,S,rfl,E,D⟩:=hrel
  by_cases af:k < n
  ·have m:k < l.length:=Zg
   obtain⟨b,B,K,J,F,_,y⟩:=L.o.str k m
   injection J with hva1 _ hva3
   subst hva1
   subst hva3
   have P:wr.cell? (Y b (B+k))=some (encStr l[k]):=(D.o.cell (p:=⟨b,B+k,none⟩) F).trans y
   clear y
   have q:=M.o l[k] (Oj m)
   have c:=rS l k m
   have a:=rT l k m
   generalize l[k]=s at P q c a
   have u:=BZ ⟨s.toArray⟩ wr (by show s.toArray.size≤_;simpa using q)
   simp only at u
   cases f:xD s
   ·rw[f] at u
    have G:d=(k:Int):=by rw[←E.o,a f]
    subst G
    have t:=V D.o
    clear f c a q r
    go_wp2_with (go_at_call 141;refine u.mono ?_;rintro e R ⟨rfl,h⟩;have j:=V (Uj t.o h);clear h u)
    go_ret
    exact⟨rfl,j.o⟩
   ·rw[f] at u
    have x:=V ((c f).symm.trans E.o)
    have t:=V D.o
    clear f c a q
    go_wp2_with (go_at_call 141;refine u.mono ?_;rintro e R ⟨rfl,h⟩;have j:=V (Uj t.o h);clear h u)
    refine⟨?_,zV⟩
    first|exact⟨k+1,O,zE,x,j⟩|((repeat apply OA);exact⟨⟨k+1,O,zE,x,j⟩,rfl⟩)
  ·have H:k=n:=O
   subst H
   have G:d= -1:=by
    rw[←E.o,List.drop_of_length_le V0]
    rfl
   subst G
   go_wp2
   go_ret
   exact⟨rfl,D.o⟩
theorem eB (w:Oc)(v:Oe)(n:Nat)(l:yF)(hn:l.length=n)(hr:NN w [] 1 v n (l.map encStr))(hs:dX l) :
  C 140 #[v,.func (.func 141) #[] #[]] w fun e w'=>e=RR (.bool (l.any fun s=>!xD s))∧Od w w w':=by
 have h:=s5 w v n l hn hr hs
 obtain⟨A,f,rfl,_,_⟩:=hr.form
 have a:=iE l 0
 have b:decide (0≤VI l 0)=l.any (fun s=>!xD s):=by
  rw[Bool.eq_iff_iff,decide_eq_true_iff]
  exact a
 generalize VI l 0=x at h b
 generalize (l.any fun s=>!xD s)=bb at b
 have d:=V b
 clear a b hr hs hn
 go_enter func140,ntmps140
 go_wp2_with (go_at_call 181;refine h.mono ?_;rintro e g ⟨rfl,c⟩)
 go_ret
 exact⟨xy d.o,c⟩
def yz (l:yF):yF×Int:=
 if l.any (fun s=>!xD s)=true then ([],1)
 else if 16 < (Po (YJ l)).length then ([],13) else (Po (YJ l),0)
theorem qV (w:Oc)(v:Oe)(n:Nat)(l:yF)(hn:l.length=n)(hnb:n≤1099511627776)(hr:NN w [] 1 v n (l.map encStr))(hs:dX l) :
  C 69 #[v] w fun e w'=>∃A cap hh,e=RR (.tuple #[RO A (yz l).1.length cap,I (yz l).2])∧Sl w' 9 1 (RO A (yz l).1.length cap) hh (yz l).1.length ((yz l).1.map encStr)∧Od w w w'∧∀b,hh=some b→w.heap.size≤b:=by
 have y:=eB w v n l hn hr hs
 have z:=fun W (hb:Od w w W)=>cD W v n (l.map encStr) (hr.below hb) (sA l) O
 obtain⟨A,cap,rfl,_,_⟩:=hr.form
 unfold yz
 cases g:l.any (fun s=>!xD s)
 ·rw[g] at y
  rw[Om zD]
  have D:=V z
  have G:=fun W v h hs=>DI W v h n l hs hnb
  have u:=fun W v h hs=>iH W v h n (YJ l) hs hnb
  have F:(Po (YJ l)).length≤n:=by
   have:=Lib.compact_length_le (YJ l)
   rw[X3] at this
   omega
  generalize Po (YJ l)=ks at u F
  obtain⟨K,B⟩:∃K,ks.length=K:=⟨_,rfl⟩
  rw[B] at u F
  have N:=V B
  clear g z hn hr hs
  by_cases J:16 < K
  ·rw[OG (by rw[B];exact J)]
   clear B
   go_enter func69,ntmps69
   go_wp2_with (first
    |(go_at_call 140;refine y.mono ?_;rintro e L ⟨rfl,a⟩;have c:=D.o _ a;have ay:=V a;clear a y)
    |(go_at_call 143;refine c.mono ?_;rintro e S ⟨Q,P,rfl,r,k,q⟩;have bn:=V (Uj ay.o k);have f:=G _ _ _ r;have Hz:=V q;clear r k q c)
    |(go_at_call 144;refine f.mono ?_;rintro e T ⟨rfl,t,m⟩;have d:=u _ _ _ t;have x:=V m;clear t m f)
    |(go_at_call 145;refine d.mono ?_;rintro e U ⟨R,rfl,j,p⟩;obtain⟨M,E,rfl,_,_⟩:=j.form;have I4:=V (x.o.trans p (fun i hi=>.inl hi));clear j p d)
    |fail)
   go_ret2
   refine⟨none,0,none,rfl,Sl.nil _ _ _,?_,fun b hb=>by cases hb⟩
   exact GG
  ·rw[Om (by rw[B];exact J)]
   clear B
   go_enter func69,ntmps69
   go_wp2_with (first
    |(go_at_call 140;refine y.mono ?_;rintro e L ⟨rfl,a⟩;have c:=D.o _ a;have ay:=V a;clear a y)
    |(go_at_call 143;refine c.mono ?_;rintro e S ⟨Q,P,rfl,r,k,q⟩;have bn:=V (Uj ay.o k);have f:=G _ _ _ r;have Hz:=V q;clear r k q c)
    |(go_at_call 144;refine f.mono ?_;rintro e T ⟨rfl,t,m⟩;have d:=u _ _ _ t;have x:=V m;clear t m f)
    |(go_at_call 145;refine d.mono ?_;rintro e U ⟨R,rfl,j,p⟩;obtain⟨M,E,rfl,_,_⟩:=j.form;have I4:=V (x.o.trans p (fun i hi=>.inl hi));have H:=V j;clear j p d)
    |fail)
   go_ret2
   have hk:=N.o
   simp only[hk]
   refine⟨_,_,_,rfl,H.o,?_,fun b hb=>Ol ay.o.size (Hz.o b hb)⟩
   exact GG
 ·rw[g] at y
  rw[OG rfl]
  clear g z hn hr hs
  go_enter func69,ntmps69
  go_wp2_with (go_at_call 140;refine y.mono ?_;rintro e L ⟨rfl,a⟩)
  go_ret2
  exact⟨none,0,none,rfl,Sl.nil _ _ _,a,fun b hb=>by cases hb⟩
end
section
open Go.Lib
def xX:Nat→Ob Oz→Nat→Ob (Ob Oz×Nat)
 |0,_,_=>[]
 |f+1,s,p=>
  if s=[] then []
  else if O0 s 10 < 0 then [(s,p+s.length)]
  else (PB (s.take (O0 s 10).toNat) [13],p+((O0 s 10).toNat+1)) :: xX f (s.drop ((O0 s 10).toNat+1)) (p+((O0 s 10).toNat+1))
def vd (t:Ob Oz):Bool:=decide (t[0]?=some 32)||decide (t[0]?=some 9)
def uC (g:Ob (Ob Oz))(t:Ob Oz):Ob (Ob Oz):=if g≠[]∧vd t=true then g.dropLast++[(g.getLast?.getD [])++t] else g++[t]
def vJ:Ob (Ob Oz×Nat)→Ob (Ob Oz)→Nat→Ob (Ob Oz)×Nat
 |[],g,b=>(g,b)
 |(t,p) :: r,g,b=>if t=[] then (g,p) else vJ r (uC g t) b
def Ub (s:Ob Oz):(Ob Oz×Ob Oz)×Bool:=
 (((PY s [58]).1,Ry (PY s [58]).2.1 [32,9]),(PY s [58]).2.2 && ((PY s [58]).1.all (fun b=>decide (33≤b.toNat) && decide (b.toNat≤126)) && !decide ((PY s [58]).1=[])))
def yX (g:Ob (Ob Oz)):Ob (Ob Oz×Ob Oz):=g.filterMap fun s=>if (Ub s).2 then some (Ub s).1 else none
def yS:Ob (Ob Oz)→Ob (Ob Oz×Ob Oz)
 |[]=>[]
 |s :: r=>yX (if vd s=true then r else s :: r)
def vP (s:Ob Oz):Ob (Ob Oz×Ob Oz)×Nat:=(yS (vJ (xX s.length s 0) [] s.length).1,(vJ (xX s.length s 0) [] s.length).2)
def uR (l:Ob (Ob Oz×Ob Oz))(name:Ob Oz):Ob Oz×Bool:=match l.find? (fun f=>decide (Zn f.1=Zn name)) with
 |some f=>(f.2,true)
 |none=>([],false)
def yL (t name:Ob Oz):Ob Oz:=(uR (vP t).1 name).1
theorem UY {g:Ob (Ob Oz)}{t:Ob Oz}(hg:∀x∈g,x≠[])(ht:t≠[]):∀x∈uC g t,x≠[]:=by
 intro x a
 unfold uC at a
 split at a
 ·rename_i h
  rw[OO,OI] at a
  rcases a with a|rfl
  ·exact hg x (List.dropLast_subset g a)
  ·simp[ht]
 ·rw[OO,OI] at a
  rcases a with a|rfl
  ·exact hg x a
  ·exact ht
def VB (g:Ob (Ob Oz)):Nat:=(g.map List.length).sum
theorem aA (a b:Ob (Ob Oz)):VB (a++b)=VB a+VB b:=by simp[VB]
theorem Y7 (g:Ob (Ob Oz))(t:Ob Oz):VB (uC g t)=VB g+t.length:=by
 unfold uC
 split
 ·rename_i h
  obtain⟨a,z,rfl⟩:∃a z,g=a++[z]:=⟨g.dropLast,g.getLast h.1,(List.dropLast_concat_getLast _).symm⟩
  simp[VB]
  omega
 ·simp[VB]
theorem Vr (g:Ob (Ob Oz))(t:Ob Oz):(uC g t).length≤g.length+1:=by
 unfold uC
 split
 ·simp
 ·simp
end
section
open Go Go.Proofs Go.Shelf Go.RowKit Go.Lib
variable {P:Pv} {ρ:Ren}
theorem jL (L:Lays.n220 P ρ)(s:Oy)(c:Oz)(w:Oc)(hs:s.size < 4294967281) :
  Calls P (ρ.f 220) #[.string s,RP ⟨#[c]⟩] w fun e w'=>e=RR (.tuple #[Oa ((PY s.data.toList [c]).1),Oa ((PY s.data.toList [c]).2.1),.bool (PY s.data.toList [c]).2.2])∧∃n,w'=w.drewN n:=by
 have a:(⟨#[c]⟩:Oy).data.toList=[c]:=rfl
 rcases Lib.indexB_cases s ⟨#[c]⟩ with hix|⟨i,hix,hroom⟩
 ·obtain⟨b,d,h⟩:=Lib.cutB_miss s ⟨#[c]⟩ hix
  rw[a] at b d h
  rw[b,d,h]
  have t3:=L.t3;have t4:=L.t4;have t9:=L.t9
  have j:∀w,(isAgg (ρ.t 3)).run P w=.ok false w:=P1 L.t3 rfl;have k:∀w,(isAgg (ρ.t 4)).run P w=.ok false w:=P1 L.t4 rfl;have l:∀w,(isAgg (ρ.t 9)).run P w=.ok false w:=P1 L.t9 rfl
  have g:∀args w,(callFunc (ρ.f 219) args).run P w=.ok (.enter (ρ.f 219) args) w:=O9 L.f219 zQ rfl
  have mixed:=L.mixed;have z3:=L.z3;have v3:=L.v3;have z4:=L.z4;have v4:=L.v4;have z9:=L.z9;have v9:=L.v9
  go_enter L.f220,Body.n220_ntmps ρ
  go_wp2_with (go_at_fn (ρ.f 219);refine(Any.stringslite_Index_one {L with} _ _ _).mono ?_;rintro e w' ⟨rfl,rfl⟩;rw[show O0 s.data.toList c=_ from (Lib.index_one _ _).symm.trans hix])
  go_ret3
  exact⟨rfl,0,rfl⟩
 ·obtain⟨b,d,h⟩:=Lib.cutB_hit s ⟨#[c]⟩ i hix
  rw[a] at b d h
  rw[b,d,h]
  have m:(⟨#[c]⟩:Oy).size=1:=rfl
  have o:(0:Int)≤↑i:=O
  have p:(↑i:Int)≤↑s.size:=O
  have q:(0:Int)≤↑i+1:=O
  have r:(↑i+1:Int)≤↑s.size:=O
  have u:Ov.wrap ((i:Int)+1)=(i:Int)+1:=Og _ O
  have t3:=L.t3;have t4:=L.t4;have t9:=L.t9
  have j:∀w,(isAgg (ρ.t 3)).run P w=.ok false w:=P1 L.t3 rfl;have k:∀w,(isAgg (ρ.t 4)).run P w=.ok false w:=P1 L.t4 rfl;have l:∀w,(isAgg (ρ.t 9)).run P w=.ok false w:=P1 L.t9 rfl
  have g:∀args w,(callFunc (ρ.f 219) args).run P w=.ok (.enter (ρ.f 219) args) w:=O9 L.f219 zQ rfl
  have mixed:=L.mixed;have z3:=L.z3;have v3:=L.v3;have z4:=L.z4;have v4:=L.v4;have z9:=L.z9;have v9:=L.v9
  go_enter L.f220,Body.n220_ntmps ρ
  go_wp2_with (go_at_fn (ρ.f 219);refine(Any.stringslite_Index_one {L with} _ _ _).mono ?_;rintro e w' ⟨rfl,rfl⟩;rw[show O0 s.data.toList c=_ from (Lib.index_one _ _).symm.trans hix])
  go_region_o
  go_wp2
  go_ret3
  exact⟨rfl,1,rfl⟩
theorem cut_one (L:Lays.n145 P ρ)(s:Oy)(c:Oz)(w:Oc)(hs:s.size < 4294967281) :
  Calls P (ρ.f 145) #[.string s,RP ⟨#[c]⟩] w fun e w'=>e=RR (.tuple #[Oa ((PY s.data.toList [c]).1),Oa ((PY s.data.toList [c]).2.1),.bool (PY s.data.toList [c]).2.2])∧∃n,w'=w.drewN n:=by
 have t4:=L.t4;have t9:=L.t9;have t59:=L.t59
 have d:∀w,(isAgg (ρ.t 4)).run P w=.ok false w:=P1 L.t4 rfl;have g:∀w,(isAgg (ρ.t 9)).run P w=.ok false w:=P1 L.t9 rfl;have b:∀w,(isAgg (ρ.t 59)).run P w=.ok false w:=P1 L.t59 rfl
 have a:∀args w,(callFunc (ρ.f 220) args).run P w=.ok (.enter (ρ.f 220) args) w:=O9 L.f220 zQ rfl
 have mixed:=L.mixed;have z4:=L.z4;have v4:=L.v4;have z9:=L.z9;have v9:=L.v9;have z59:=L.z59;have v59:=L.v59
 go_enter L.f145,Body.n145_ntmps ρ
 go_wp2_with (go_at_fn (ρ.f 220);refine(jL {L with} _ _ _ hs).mono ?_;rintro e w' ⟨rfl,n,rfl⟩)
 go_ret3
 exact⟨rfl,n,rfl⟩
end
section
open Go.Shelf Go.RowKit
shelf_lay Lays.n160 Nm 160 at Tryz as Tryz.lays160
theorem Lx (s:Ob Oz)(w:Oc)(hs:s.length≤4294967281) :
  C 235 #[Oa s,RP ⟨#[32,9]⟩] w fun e w'=>e=RR (RP ⟨(Ry s [32,9]).toArray⟩)∧Od w w w':=
 Any.strings_Trim_laid Tryz.lays160 zQ ⟨s.toArray⟩ ⟨#[32,9]⟩ w pC zD (ascii_of_all zD)
theorem cut_any (s:Ob Oz)(w:Oc)(hs:s.length < 4294967281) :
  C 234 #[Oa s,RP ⟨#[58]⟩] w fun e w'=>e=RR (.tuple #[Oa ((PY s [58]).1),Oa ((PY s [58]).2.1),.bool (PY s [58]).2.2])∧∃n,w'=w.drewN n:=
 cut_one Tryz.lays145 ⟨s.toArray⟩ 58 w (by show s.toArray.size < _;simp;omega)
end
end Go.Proofs.YtnofkliaofgiaaaGreatDoor
