/-
  Plain facts on bytes and lists, with no program in sight: letters made small, and what is kept by it. Rows of bytes in memory; a string turned into bytes; the walk of pillarboxref1.Fold. The walk of text.Atom: whether a text is an atom; the world is as it was. The walk of text.Fold: letters A to Z made small; nothing that was there turns. The walk of flag.Right alone (for seats without flag.Key). 
-/
import Derived.Test.YtfhlhdmhgheonaaGreatDoorGA
import Derived.Test.YtfhlhdmhgheonaaGreatDoorShelf
import Derived.Below
import Derived.Laws.BytesArg
import Derived.Laws.Strings
import Derived.Test.YtfhlhdmhgheonaaGreatDoorProg
import Derived.Lib.ConvBytes
import Derived.Deep.QuietTactic
import Derived.BigQuiet
import Derived.Sort.OwnSorted
import Derived.Lib.RowBridge
import Derived.Lib.SlTrimSet
import Derived.Lib.IndexMore
import Derived.Shelf.Strings.Cut
import Derived.Lib.IndexBytes
import Derived.Shelf.Strings.SlTrimAscii
import Derived.Shelf.Lay
import Derived.Ground.NamesProg
set_option maxRecDepth 100000
set_option maxHeartbeats 8000000
namespace Go.Proofs.YtfhlhdmhgheonaaGreatDoor
open Go.RowKit
def lowB (c:UInt8):UInt8:=if 65≤c∧c≤90 then c+32 else c
def vP (l:List UInt8):List UInt8:=l.map lowB
def VX (s:ByteArray):ByteArray:=⟨(vP s.data.toList).toArray⟩
def lowN (c:UInt8):Int:=(lowB c).toNat
theorem za0 (c:UInt8)(h1:65≤(c.toNat:Int))(h2:(c.toNat:Int)≤90):lowN c=(c.toNat:Int)+32:=by
 unfold lowN lowB
 have a:65≤c:=by rw[UInt8.le_iff_toNat_le];show 65≤c.toNat;omega
 have b:c≤90:=by rw[UInt8.le_iff_toNat_le];show c.toNat≤90;omega
 rw[if_pos ⟨a,b⟩,UInt8.toNat_add]
 show ((c.toNat+32) % 256:Nat)=(c.toNat:Int)+32
 omega
theorem V9 (c:UInt8)(h:¬(65≤(c.toNat:Int)∧(c.toNat:Int)≤90)):lowN c=(c.toNat:Int):=by
 unfold lowN lowB
 rw[if_neg]
 rintro⟨a,b⟩
 rw[UInt8.le_iff_toNat_le] at a b
 exact h ⟨by exact_mod_cast a,by exact_mod_cast b⟩
def JP (l:List UInt8):List Int:=l.map lowN
theorem Yw (s:ByteArray)(k:Nat)(h:k < s.size):s.data.toList.take (k+1)=s.data.toList.take k++[s[k]]:=by
 rw[List.take_succ_eq_append_getElem (by simpa using h)];rfl
theorem Xa (s:ByteArray)(k:Nat)(h:s.size≤k):s.data.toList.take k=s.data.toList:=List.take_of_length_le (by simpa using h)
theorem zbf (s:ByteArray)(k:Nat)(h:k < s.size)(x:Int)(hx:lowN s[k]=x) :
  (JP (s.data.toList.take k)).map (Value.int .u8)++[Value.int .u8 x]=(JP (s.data.toList.take (k+1))).map (Value.int .u8):=by
 rw[Yw s k h]
 simp[JP,hx]
theorem QV (s:ByteArray):strOfNums (JP s.data.toList)=VX s:=by
 unfold strOfNums VX vP JP
 rw[List.map_map]
 congr 2
 refine List.map_congr_left fun c _=>?_
 simp[lowN]
theorem VJ (a b:ByteArray):(a.toList==b.toList)=(a.data.toList==b.data.toList):=by rw[ByteArray.toList_eq,ByteArray.toList_eq]
theorem V4 (s:ByteArray):s.data.toList.length=s.size:=by simp
theorem X3 (t:ByteArray)(l:List UInt8)(h:t.data.toList=l):t=⟨l.toArray⟩:=by
 subst h
 rfl
theorem UD (t:ByteArray)(l:List UInt8)(h:t≠⟨l.toArray⟩):(t.toList==l)=false:=by
 rw[ByteArray.toList_eq,beq_eq_false_iff_ne]
 exact fun e=>h (X3 t l e)
theorem V8 {a w w':World}(hb:Below a.heap.size a w)(h:Below w.heap.size w w'):Below a.heap.size a w':=hb.trans (h.mono hb.size)
def RowB (w:World)(g:Nat)(l:List UInt8):Prop:=∀j (hj:j < l.length),w.cell? ⟨g,j,none⟩=some (.int .u8 (l[j].toNat:Int))∧w.frozen? ⟨g,j,none⟩=false
theorem RowB.set {w:World}{g:Nat}{l:List UInt8}(h:RowB w g l)(k:Nat)(hk:k < l.length)(c:UInt8):RowB (w.setCell ⟨g,k,none⟩ (.int .u8 (c.toNat:Int))) g (l.set k c):=by
 intro j a
 rw[List.length_set] at a
 refine⟨?_,by rw[World.frozen?_setCell];exact(h j a).2⟩
 by_cases e:k=j
 ·subst e
  rw[World.cell?_setCell_same _ _ _ (h k hk).1]
  simp
 ·rw[World.cell?_setCell_other _ _ _ _ (by simp),(h j a).1]
  simp[e]
theorem zdh (w:World)(e:TypeId)(s:ByteArray):RowB (Lib.bytesWorld w e s) w.heap.size s.data.toList∧Below w.heap.size w (Lib.bytesWorld w e s):=by
 constructor
 ·intro j b
  have a:j < s.size:=by simpa using b
  constructor
  ·rw[Lib.bytesWorld_cell w e s j a]
   simp[List.getD,List.getElem?_eq_getElem b]
  ·simp only[World.frozen?,Lib.bytesWorld_at_new]
   have c:(Lib.bytesCells w e s).size=s.data.size+(grownCap w s.size 0 e - s.size):=by
    unfold Lib.bytesCells
    rw[Array.size_append,Array.size_map,Array.size_replicate]
   have d:s.data.size=s.size:=rfl
   rw[decide_eq_false (by omega)]
   rfl
 ·refine⟨?_,?_,?_,by rw[Lib.bytesWorld_size];omega,fun k hk=>Lib.bytesWorld_at_old w e s k hk⟩
  all_goals simp[Lib.bytesWorld,World.freeze,World.alloc,World.drew, -World.alloc_eq, -World.drew_eq]
theorem Vv {P:Program}{w:World}{ops:Array Oper}{rest:List Oper}{o:Oper}{a:Act}{Q:Exit→Act→World→Prop}(hgd:o.guard=none)(src dst e:TypeId)(x:Operand)(ho:o.op=.convert src dst x)(hs:P.underlying src=some .string)(hd:P.underlying dst=some (.slice e))(he:P.underlying e=some (.int .u8))(s:ByteArray)(hx:a.eval x=.string s)(h:∀cap w',s.size≤cap→cap≤maxLen∨maxLen < s.size→RowB w' w.heap.size s.data.toList→Below w.heap.size w w'→w.heap.size < w'.heap.size→wpList P ops Q rest (a.put o.dst (.slice (some ⟨w.heap.size,0,none⟩) s.size cap)) w') :
  wpList P ops Q (o :: rest) a w:=by
 refine wpList_plain hgd fun K hK=>?_
 have b:=Lib.run_convert_string_bytes (P:=P) w src dst e s hs hd he
 obtain⟨d,f⟩:=zdh w e s
 unfold Oper.wp
 simp[execOp,ho,hx,b,Result.andThen]
 refine hK _ _ (h _ _ (grownCap_ge _ _ _ _) ?_ d f (by rw[Lib.bytesWorld_size];omega))
 by_cases c:s.size≤maxLen
 ·exact .inl (grownCap_le_maxLen w s.size 0 e c)
 ·exact .inr (by omega)
theorem vz {P:Program}{w:World}{src e g cap:Nat}{l:List UInt8}(hs:P.underlying src=some (.slice e))(he:P.underlying e=some (.int .u8))(h:RowB w g l)(n:Nat)(hn:l.length=n)(dst:TypeId)(hd:P.underlying dst=some .string) :
  (convert src dst (.slice (some ⟨g,0,none⟩) n cap)).run P w=.ok (.string ⟨l.toArray⟩) w:=by
 subst hn
 refine run_convert_bytes_back w src dst e ⟨g,0,none⟩ cap l hs he hd fun j hj=>?_
 rw[Addr.uy]
 exact(h j hj).1
def xq (l:List UInt8)(k:Nat):List UInt8:=(l.take k).map lowB++l.drop k
theorem Zk (l:List UInt8)(k:Nat):(xq l k).length=l.length:=by
 simp[xq]
 omega
theorem Qd (l:List UInt8):xq l 0=l:=by simp[xq]
theorem zaJ (l:List UInt8):xq l l.length=vP l:=by simp[xq,vP]
theorem Ub (l:List UInt8)(k:Nat)(h:k < l.length)(h2:k < (xq l k).length):(xq l k)[k]=l[k]:=by
 simp only[xq]
 rw[List.getElem_append_right (by simp;omega)]
 simp
 congr 1
 omega
theorem Vq (l:List UInt8)(k:Nat)(h:k < l.length):(xq l k).set k (lowB l[k])=xq l (k+1):=by
 unfold xq
 have a:l.drop k=l[k] :: l.drop (k+1):=by rw[List.drop_eq_getElem_cons h]
 have b:l.take (k+1)=l.take k++[l[k]]:=by rw[List.take_succ_eq_append_getElem h]
 rw[b,List.set_append_right _ _ (by simp;omega)]
 have:k - ((l.take k).map lowB).length=0:=by simp;omega
 rw[this,a,List.map_append,List.append_assoc]
 rfl
theorem Js (l:List UInt8)(k:Nat)(h:k < l.length)(hc:lowB l[k]=l[k]):xq l k=xq l (k+1):=by
 rw[←Vq l k h,hc]
 have a:k < (xq l k).length:=by rw[Zk];exact h
 have:=Ub l k h a
 rw[←this,List.set_getElem_self]
def UO:ByteArray:=⟨#[40,41,123,125,37,42,34,92,93]⟩
def za5 (c:UInt8):Int:=Lib.indexByte UO.data.toList c
def Y6 (c:UInt8):Bool:=decide (33≤(c.toNat:Int)) && decide ((c.toNat:Int)≤126) && decide (za5 c < 0)
def Zn (l:List UInt8):Bool:=l.all Y6 && !l.isEmpty
theorem zcZ (c:UInt8)(w:World):Calls Tryz.prog 101 #[.string UO,.int .u8 (c.toNat:Int)] w fun e w'=>e=.returned (.int .i64 (za5 c))∧w=w':=by
 have h:=Tryz.strings_IndexByte UO (c.toNat:Int) w
 have e:((c.toNat:Int).toNat).toUInt8=c:=by simp
 rw[e] at h
 exact h.mono fun _ _ ⟨h1,h2⟩=>⟨h1,h2.symm⟩
theorem Ja (s:ByteArray)(k:Nat)(h:k < s.size)(hc:Y6 s[k]=false):Zn s.data.toList=false:=by
 unfold Zn
 have:s.data.toList.all Y6=false:=by
  rw[List.all_eq_false]
  exact⟨s[k],by show s.data[k]∈_;simp,by simp[hc]⟩
 simp[this]
theorem Jq (s:ByteArray)(k:Nat)(h:k < s.size)(h0:(s.data.toList.take k).all Y6=true)(hc:Y6 s[k]=true):(s.data.toList.take (k+1)).all Y6=true:=by
 rw[Yw s k h]
 simp only[List.all_append,h0,Bool.true_and]
 simp[hc]
theorem XZ (s:ByteArray)(w:World)(hs:s.size≤140737488351232) :
  Calls Tryz.prog 40 #[.string s] w fun e w'=>e=.returned (.bool (Zn s.data.toList))∧w=w':=by
 obtain⟨b,m⟩:∃b,Zn s.data.toList=b:=⟨_,rfl⟩
 rw[m]
 have d:=zdG m
 clear m
 go_enter Tryz.func40,Tryz.ntmps40
 go_wp2_with fail
 go_loop [6] (fun i=>∃k:Nat,k≤s.size∧i=.int .i64 k∧Hid ((s.data.toList.take k).all Y6=true)) (fun i=>s.size - (intOf i).toNat)
 case atStart=>exact⟨0,Nat.zero_le _,rfl,rfl⟩
 case round=>
  obtain⟨k,t,rfl,a⟩:=hrel
  by_cases f:k < s.size
  ·have H:=zdG a
   clear a
   by_cases p:(s[k].toNat:Int) < 33
   ·have h:=zdG (d.out.symm.trans (Ja s k f (by simp[Y6];omega)))
    go_wp2_with fail
    go_ret
    exact⟨zH h.out.symm,rfl⟩
   ·by_cases q:126 < (s[k].toNat:Int)
    ·have h:=zdG (d.out.symm.trans (Ja s k f (by simp[Y6];omega)))
     go_wp2_with fail
     go_ret
     exact⟨zH h.out.symm,rfl⟩
    ·have c:=zcZ s[k]
     have n:Y6 s[k]=decide (za5 s[k] < 0):=by
      unfold Y6
      rw[decide_eq_true (by omega),decide_eq_true (by omega)]
      rfl
     have j:=zdG n
     clear n
     generalize za5 s[k]=r at c j
     by_cases o:r < 0
     ·go_wp2_with (go_at_call 101;refine(c _).mono ?_;rintro e w' ⟨rfl,rfl⟩)
      go_round
      case rel=>exact⟨k+1,by omega,by go_num,Jq s k f H.out (by rw[j.out];exact decide_eq_true o)⟩
      case measure=>simp[intOf];omega
     ·have h:=zdG (d.out.symm.trans (Ja s k f (by rw[j.out];exact decide_eq_false o)))
      go_wp2_with (go_at_call 101;refine(c _).mono ?_;rintro e w' ⟨rfl,rfl⟩)
      go_ret
      exact⟨zH h.out.symm,rfl⟩
  ·have l:k=s.size:=by omega
   subst l
   have g:b=!s.data.toList.isEmpty:=by
    rw[←d.out]
    unfold Zn
    rw[Xa s _ (Nat.le_refl _)] at a
    rw[a.out]
    rfl
   have H:=zdG g
   clear g a
   go_wp2_with fail
   go_ret
   exact⟨zH (by rw[H.out,←ByteArray.toList_eq]),rfl⟩
theorem Try.info5:(Tryz.prog.info? 5).map (fun i=>(i.zero,i.size,i.bytes))=some (some (.int .u8 0),1,1):=by kernel_rfl
theorem YZ (s:ByteArray)(w:World)(hs:s.size≤140737488351232) :
  Calls Tryz.prog 175 #[.string s] w fun e w'=>e=.returned (.string (VX s))∧Below w.heap.size w w':=by
 obtain⟨B,z,n,o,p⟩:=info_parts Try.info5
 go_enter Tryz.func175,Tryz.ntmps175
 go_wp2_with (at_make;refine wpList_make_own _ rfl _ _ 139 rfl w.heap.size 5 B (.int .u8 0) 1 Tryz.underlying139 z n o _ _ _ s.size rfl rfl rfl ?c1 ?c2 ?c3 ?_)
 case c1=>rw[p];omega
 case c2=>unfold maxLen;omega
 case c3=>exact Nat.le_refl _
 intro D l q
 go_wp2
 go_loopw [3,11] (fun b i wr=>∃k:Nat,k≤s.size∧i=.int .i64 k∧wr.ownsRow w.heap.size 5 1 b k ((JP (s.data.toList.take k)).map (Value.int .u8))∧w.heap.size≤wr.heap.size∧Below w.heap.size w wr) (fun _ i _=>s.size - (intOf i).toNat)
 case atStart=>exact⟨0,Nat.zero_le _,rfl,by simpa[JP] using l,q.size,(Below.refl _ _).grown q (Nat.le_refl _) (fun _ h=>by cases h)⟩
 case round=>
  obtain⟨k,E,rfl,a,r,A⟩:=hrel
  by_cases v:k < s.size
  ·go_wp2_with (at_builtin;refine Xl rfl _ _ 139 rfl Tryz.underlying139 z n o p rfl (by decide) a rfl 1 1 rfl rfl ?_ ?_ ?_ ?_ ?_)
   all_goals first|rfl|omega|(unfold maxLen;omega)|skip
   all_goals
    intro C x d t _
    have y:=zbf s k v _ (by first|exact za0 _ ‹_› ‹_›|exact V9 _ (by omega))
    have c:x.ownsRow w.heap.size 5 1 C (k+1) ((JP (s.data.toList.take (k+1))).map (Value.int .u8)):=by rw[←y];exact d
    have f:w.heap.size≤x.heap.size:=Nat.le_trans r t.size
    have m:Below w.heap.size w x:=A.grown t r (fun j hj=>(a.lt j hj).1)
    clear y d
    go_wp2
    refine⟨?_,by simp[intOf];omega⟩
    first|exact⟨k+1,by omega,by go_num,c,f,m⟩|((repeat apply Exists.intro);exact⟨⟨k+1,by omega,by go_num,c,f,m⟩,rfl⟩)
  ·have u:k=s.size:=by omega
   subst u
   rw[Xa s _ (Nat.le_refl _)] at a
   have g:=V5 (P:=Tryz.prog) Tryz.underlying139 Tryz.underlying5 a 9 Tryz.underlying9
   rw[QV] at g
   go_wp2
   go_ret
   exact⟨rfl,A⟩
def yM (l:List UInt8):Bool:=Zn l && decide (l.length≤64) && (vP l==l)
theorem zcQ (s:ByteArray)(w:World)(hs:s.size≤140737488351232) :
  Calls Tryz.prog 162 #[.string s] w fun e w'=>e=.returned (.bool (yM s.data.toList))∧Below w.heap.size w w':=by
 obtain⟨b,f⟩:∃b,yM s.data.toList=b:=⟨_,rfl⟩
 rw[f]
 have c:=zdG f
 clear f
 obtain⟨a,g⟩:∃a,Zn s.data.toList=a:=⟨_,rfl⟩
 have d:=XZ s
 rw[g] at d
 have h:=zdG g
 clear g
 go_enter Tryz.func162,Tryz.ntmps162
 cases a
 ·go_wp2_with (first|(go_at_call 40;refine(d _ hs).mono ?_;rintro e w' ⟨rfl,rfl⟩)|(go_at_call 175;refine(YZ _ _ hs).mono ?_;rintro e w' ⟨rfl,f⟩))
  go_ret
  exact⟨zH (by rw[←c.out,yM,h.out];rfl),Below.refl _ _⟩
 ·go_wp2_with (first|(go_at_call 40;refine(d _ hs).mono ?_;rintro e w' ⟨rfl,rfl⟩)|(go_at_call 175;refine(YZ _ _ hs).mono ?_;rintro e w' ⟨rfl,f⟩))
  ·go_ret
   refine⟨zH ?_,f⟩
   rw[←c.out,yM,h.out,VJ,decide_eq_true (by rw[V4];omega)]
   rfl
  ·go_ret
   refine⟨zH ?_,Below.refl _ _⟩
   rw[←c.out,yM,decide_eq_false (by rw[V4];omega)]
   simp
end Go.Proofs.YtfhlhdmhgheonaaGreatDoor
namespace Go.Proofs.YtfhlhdmhgheonaaGreatDoor
open Go.RowKit Go.Sort
attribute [local go_sem ↓] Go.wp_at_zero Go.wp_at_succ
theorem Try.infoString:(Tryz.prog.info? 9).map (fun i=>(i.zero,i.size,i.bytes))=some (some (.string ⟨#[]⟩),1,16):=by kernel_rfl
section
variable {w w':World} {e:TypeId} {b off n cap:Nat} {h:Option Nat} {xs:List Value}
theorem za7 (w:World)(q:Nat)(d:Array (List UInt8))(b off:Nat)(os:Array Obj):Chg [b] w (grow (putRow encStr (Sort.ahead w q) b off d) os):=by
 refine⟨rfl,rfl,rfl,by simp,fun k hk hne=>?_⟩
 rw[heap_grow_old _ _ (by simpa using hk)]
 have:b≠k:=fun e=>hne (by simp[e])
 simp[putRow,mapBlock,Sort.ahead,Array.getElem?_modify,this]
theorem grow_blk {cur:Array Value}(hB:Blk w b e cur)(q:Nat)(d:Array (List UInt8))(os:Array Obj):Blk (grow (putRow encStr (Sort.ahead w q) b off d) os) b e (putCells encStr off d cur):=by
 have a:=hB.lt
 unfold Blk at hB ⊢
 rw[heap_grow_old _ _ (by simpa using a)]
 simp[putRow,mapBlock,Sort.ahead,Array.getElem?_modify,hB]
 rfl
theorem QU (cur:Array Value)(d:Array (List UInt8))(h:off+d.size≤cur.size):((putCells encStr off d cur).toList.drop off).take d.size=d.toList.map encStr:=by
 apply List.ext_getElem?
 intro k
 rw[List.getElem?_take]
 by_cases a:k < d.size
 ·rw[if_pos a,List.getElem?_drop,List.getElem?_map]
  simp only[putCells,Array.getElem?_toList,Array.getElem?_mapIdx]
  rw[Array.getElem?_eq_getElem (show off+k < cur.size by omega),Option.map_some,if_pos ⟨by omega,by omega⟩,Nat.add_sub_cancel_left]
  simp[a]
 ·rw[if_neg a,List.getElem?_eq_none]
  simp
  omega
theorem Sl.putRow (hs:Sl w e 1 (.slice (some ⟨b,off,none⟩) n cap) h n xs)(q:Nat)(d:Array (List UInt8))(hd:d.size=n)(os:Array Obj) :
  Sl (grow (Sort.putRow encStr (Sort.ahead w q) b off d) os) e 1 (.slice (some ⟨b,off,none⟩) n cap) h n (d.toList.map encStr):=by
 refine⟨by simp[hd],?_⟩
 rcases hs.2 with⟨_,hv,_⟩|⟨b',off',cap',cur,hh,hv,hB,hnc,hcm,hcs,ht⟩
 ·cases hv
 ·simp only[Value.slice.injEq,Option.some.injEq,Addr.mk.injEq,and_true,true_and] at hv
  obtain⟨⟨rfl,rfl⟩,rfl⟩:=hv
  refine .inr ⟨b,off,cap,_,hh,rfl,grow_blk hB q d os,hnc,hcm,by simpa[putCells] using hcs,?_⟩
  rw[Nat.mul_one,←hd]
  exact QU cur d (by omega)
theorem Sl.owner (hs:Sl w e 1 (.slice (some ⟨b,off,none⟩) n cap) h n xs):h=some b:=by
 rcases hs.2 with⟨_,hv,_⟩|⟨b',off',cap',cur,hh,hv,_⟩
 ·cases hv
 ·simp only[Value.slice.injEq,Option.some.injEq,Addr.mk.injEq,and_true,true_and] at hv
  rw[hh,hv.1.1]
theorem Sl.holds {ss:List (List UInt8)}(hs:Sl w e 1 (.slice (some ⟨b,off,none⟩) n cap) h n (ss.map encStr)):Holds encStr w b off ss.toArray:=by
 have m:ss.length=n:=by have:=hs.1;simpa using this
 intro j i
 have a:j < ss.length:=by simpa using i
 obtain⟨o,d,f,p,g,_,_,_,c⟩:=hs.at_ (by omega)
 simp only[Value.slice.injEq,Option.some.injEq,Addr.mk.injEq,and_true,true_and] at g
 obtain⟨⟨rfl,rfl⟩,rfl⟩:=g
 obtain⟨k,l⟩:=c j (by omega)
 refine⟨?_,l⟩
 rw[k]
 simp[a]
theorem Sl.shrink {size:Nat}{A:Option Addr}(hs:Sl w e size (.slice A n cap) h n xs)(k:Nat)(hk:k≤n):Sl w e size (.slice A k cap) h k (xs.take (k * size)):=by
 have a:(xs.take (k * size)).length=k * size:=by
  rw[List.length_take,hs.1]
  exact Nat.min_eq_left (Nat.mul_le_mul_right _ hk)
 refine⟨a,?_⟩
 rcases hs.2 with⟨h1,hv,h2⟩|⟨b',off',cap',cur,hh,hv,hB,hnc,hcm,hcs,ht⟩
 ·injection hv with hv1 _ hv3
  subst h2 hv1 hv3
  obtain rfl:k=0:=by omega
  exact .inl ⟨h1,rfl,rfl⟩
 ·injection hv with hv1 _ hv3
  subst hv1 hv3
  refine .inr ⟨b',off',cap,cur,hh,rfl,hB,by omega,hcm,hcs,?_⟩
  rw[←ht,List.take_take,Nat.min_eq_left (Nat.mul_le_mul_right _ hk)]
end
def Zj (l:List (List UInt8)):List (List UInt8):=l.mergeSort fun x y=>decide (x≤y)
theorem Yk (l:List (List UInt8)):(Zj l).length=l.length:=by simp[Zj]
theorem zdC (w:World)(v:Value)(h:Option Nat)(n:Nat)(l:List (List UInt8))(hs:Sl w 9 1 v h n (l.map encStr))(hn:n≤1099511627776) :
  Calls Tryz.prog 163 #[v] w fun e w'=>e=.returned (.tuple #[])∧Sl w' 9 1 v h n ((Zj l).map encStr)∧Chg h.toList w w':=by
 have a:l.length=n:=by have:=hs.1;simpa using this
 rcases hs.2 with⟨rfl,rfl,rfl⟩|⟨b,off,cap,cur,rfl,rfl,hB,hnc,hcm,hcs,ht⟩
 ·obtain rfl:l=[]:=List.eq_nil_of_length_eq_zero a
  refine(Tryz.slices_Sort_string_none none 0 w).mono ?_
  rintro e w' ⟨rfl,rfl⟩
  exact⟨rfl,by simpa[Zj] using hs,Chg.refl _ _⟩
 ·have c:=Tryz.slices_Sort_string b off cap l w hs.holds hB.lt (by omega)
  rw[a] at c
  refine c.mono ?_
  rintro e w' ⟨rfl,q,f,rfl⟩
  refine⟨rfl,?_,za7 _ _ _ _ _ _⟩
  have d:=hs.putRow q (Zj l).toArray (by simp[Yk,a]) f
  exact d
theorem Ql (w:World):grow w #[]=w:=by simp[grow]
theorem Qh (w:World)(v:Value)(h:Option Nat)(n:Nat)(l:List (List UInt8))(hs:Sl w 9 1 v h n (l.map encStr))(hn:n≤1099511627776) :
  Calls Tryz.prog 164 #[v] w fun e w'=>∃v',e=.returned v'∧Sl w' 9 1 v' h (Lib.compact l).length ((Lib.compact l).map encStr)∧Chg h.toList w w':=by
 have a:l.length=n:=by have:=hs.1;simpa using this
 rcases hs.2 with⟨rfl,rfl,rfl⟩|⟨b,off,cap,cur,rfl,rfl,hB,hnc,hcm,hcs,ht⟩
 ·obtain rfl:l=[]:=List.eq_nil_of_length_eq_zero a
  refine(Tryz.slices_Compact_string_empty none 0 w).mono ?_
  rintro e w' ⟨rfl,rfl⟩
  exact⟨_,rfl,hs,Chg.refl _ _⟩
 ·have c:=Tryz.slices_Compact_string b off cap l w hs.holds (by omega) (by omega)
  rw[a] at c
  have i:=Lib.compact_length_le l
  refine c.mono ?_
  rintro e w' ⟨rfl,q,rfl⟩
  have d:=hs.putRow q (Lib.compact l++List.replicate (n - (Lib.compact l).length) []).toArray (by simp;omega) #[]
  have f:=za7 w q (Lib.compact l++List.replicate (n - (Lib.compact l).length) []).toArray b off #[]
  rw[Ql] at d f
  refine⟨_,rfl,?_,f⟩
  have g:=d.shrink (Lib.compact l).length (by omega)
  have j:((Lib.compact l++List.replicate (n - (Lib.compact l).length) []).toArray.toList.map encStr).take ((Lib.compact l).length * 1)=(Lib.compact l).map encStr:=by
   simp only[List.map_append,Nat.mul_one]
   rw[List.take_append_of_le_length (by simp),List.take_of_length_le (by simp)]
  rw[j] at g
  exact g
theorem zbD (l:List (List UInt8)):∀u∈l.map encStr,u.oneCell'=true:=by
 intro u a
 obtain⟨x,_,rfl⟩:=List.mem_map.1 a
 rfl
theorem Uc (w:World)(v:Value)(n:Nat)(xs:List Value)(hr:RdS w [] 1 v n xs)(h1:∀u∈xs,u.oneCell'=true)(hn:n≤2199023255552) :
  Calls Tryz.prog 151 #[v] w fun e w'=>∃v' h',e=.returned v'∧Sl w' 9 1 v' h' n xs∧Below w.heap.size w w'∧∀b,h'=some b→w.heap.size≤b:=by
 obtain⟨B,y,o,p,q⟩:=info_parts Try.infoString
 rcases hr with⟨hlen,⟨rfl,rfl⟩|⟨a,cap,rfl,hnc,hcm,hcell⟩⟩
 ·have x:xs=[]:=List.eq_nil_of_length_eq_zero (by simpa using hlen)
  subst x
  have l:=fun W=>Lib.run_eql_slice_nil (P:=Tryz.prog) W 38 9 none 0 0 0 0 Tryz.underlying38
  go_enter Tryz.func151,Tryz.ntmps151
  go_wp2
  go_ret
  exact⟨_,none,rfl,Sl.nil _ _ _,Below.refl _ _,fun b d=>by cases d⟩
 ·have l:=fun W=>Lib.run_eql_slice_nil (P:=Tryz.prog) W 38 9 (some a) n cap 0 0 Tryz.underlying38
  have f:=uD a hlen hcell
  go_enter Tryz.func151,Tryz.ntmps151
  go_wp2_with (at_builtin;refine yA _ rfl _ _ 38 rfl Tryz.underlying38 y o p q rfl (by decide) (xg w 9 1) rfl a n cap xs rfl hlen ?_ h1 ?_ ?_ ?_)
  ·intro j u s
   have d:=World.block_lt_of_cell? w _ (f j u s)
   rw[World.cell?_alloc_lt w _ _ d]
   exact f j u s
  ·unfold maxLen
   omega
  ·omega
  ·intro z t A r c i
   have h:Below w.heap.size w A:=⟨c.os,c.tape,c.output,Nat.le_trans (by simp) c.size,fun k hk=>(c.block k (by simp;omega) (by simp;omega)).trans (Below.heap_alloc w _ k hk)⟩
   have m:∀b,t=some b→w.heap.size≤b:=by
    intro b d
    rcases i with h3|⟨g,h3,h4⟩
    ·rw[d] at h3
     injection h3 with h3
     omega
    ·rw[d] at h3
     injection h3 with h3
     omega
   clear c i
   go_wp2
   go_ret
   exact⟨z,t,rfl,r,h,m⟩
abbrev zN:=List (List UInt8)
def Short (l:zN):Prop:=∀s∈l,s.length≤140737488351232
theorem zdA (s:ByteArray)(w:World)(hs:s.size≤140737488351232) :
  Calls Tryz.prog 161 #[.string s] w fun e w'=>e=.returned (.bool (!yM s.data.toList))∧Below w.heap.size w w':=by
 have h:=zcQ s w hs
 go_enter Tryz.func161,Tryz.ntmps161
 go_wp2_with (go_at_call 162;refine h.mono ?_;rintro e b ⟨rfl,a⟩)
 go_ret
 exact⟨rfl,a⟩
def YI:zN→Nat→Int
 |[],_=>-1
 |s :: r,k=>if yM s=true then YI r (k+1) else k
theorem zb6 (l:zN)(k:Nat)(hk:k < l.length)(h:yM l[k]=true):YI (l.drop k) k=YI (l.drop (k+1)) (k+1):=by
 rw[List.drop_eq_getElem_cons hk,YI,if_pos h]
theorem zbQ (l:zN)(k:Nat)(hk:k < l.length)(h:yM l[k]=false):YI (l.drop k) k=k:=by
 rw[List.drop_eq_getElem_cons hk,YI,if_neg (by simp[h])]
theorem Qk:∀(l:zN) (k:Nat),(0≤YI l k)↔l.any (fun s=>!yM s)=true
 |[],k=>by simp[YI]
 |s :: r,k=>by
  rw[YI,List.any_cons]
  by_cases h:yM s=true
  ·rw[if_pos h,h,Qk r (k+1)]
   simp
  ·rw[if_neg h]
   simp[h]
theorem RdS.str {w:World}{S:List Nat}{v:Value}{n:Nat}{l:zN}(h:RdS w S 1 v n (l.map encStr))(k:Nat)(hk:k < l.length):∃b off cap,v=.slice (some ⟨b,off,none⟩) n cap∧b < w.heap.size∧b∉S∧w.cell? ⟨b,off+k,none⟩=some (encStr l[k]):=by
 have f:l.length=n:=by have:=h.1;simpa using this
 obtain⟨b,off,cap,e,_,_,a,c,d⟩:=h.at_ (by omega)
 refine⟨b,off,cap,e,a,c,?_⟩
 rw[d k (by omega)]
 simp[hk]
theorem zbI (w:World)(v:Value)(n:Nat)(l:zN)(hn:l.length=n)(hr:RdS w [] 1 v n (l.map encStr))(hs:Short l) :
  Calls Tryz.prog 199 #[v,.func (.func 161) #[] #[]] w fun e w'=>e=.returned (.int .i64 (YI l 0))∧Below w.heap.size w w':=by
 obtain⟨A,O,rfl,_,x⟩:=hr.form
 have K:n≤9223372036854775807:=by
  unfold maxLen at x
  omega
 obtain⟨f,g⟩:∃f,YI l 0=f:=⟨_,rfl⟩
 rw[g]
 have L:=zdG hr
 have I:=zdG hn
 have M:=zdG hs
 have q:Hid (YI (l.drop 0) 0=f):=zdG (by simpa using g)
 clear hr hn hs g
 go_enter Tryz.func199,Tryz.ntmps199
 go_wp2
 go_loopw [8] (fun i wr=>∃k:Nat,k≤n∧i=.int .i64 k∧Hid (YI (l.drop k) k=f)∧Hid (Below w.heap.size w wr)) (fun i _=>n - (intOf i).toNat)
 case atStart=>exact⟨0,Nat.zero_le _,rfl,q,zdG (Below.refl _ _)⟩
 case round=>
  obtain⟨k,Q,rfl,F,B⟩:=hrel
  by_cases E:k < n
  ·have j:k < l.length:=by rw[I.out];exact E
   obtain⟨b,y,J,G,H,_,z⟩:=L.out.str k j
   injection G with hva1 _ hva3
   subst hva1
   subst hva3
   have N:wr.cell? ⟨b,y+k,none⟩=some (encStr l[k]):=(B.out.cell (p:=⟨b,y+k,none⟩) H).trans z
   clear z
   have m:=M.out l[k] (List.getElem_mem j)
   have a:=zb6 l k j
   have c:=zbQ l k j
   generalize l[k]=s at N m a c
   have r:=zdA ⟨s.toArray⟩ wr (by show s.toArray.size≤_;simpa using m)
   simp only at r
   cases d:yM s
   ·rw[d] at r
    have C:f=(k:Int):=by rw[←F.out,c d]
    subst C
    have t:=zdG B.out
    clear d a c m q
    go_wp2_with (go_at_call 161;refine r.mono ?_;rintro e P ⟨rfl,h⟩;have o:=zdG (V8 t.out h);clear h r)
    go_ret
    exact⟨rfl,o.out⟩
   ·rw[d] at r
    have u:=zdG ((a d).symm.trans F.out)
    have t:=zdG B.out
    clear d a c m
    go_wp2_with (go_at_call 161;refine r.mono ?_;rintro e P ⟨rfl,h⟩;have o:=zdG (V8 t.out h);clear h r)
    refine⟨?_,by simp[intOf];omega⟩
    first|exact⟨k+1,by omega,by go_num,u,o⟩|((repeat apply Exists.intro);exact⟨⟨k+1,by omega,by go_num,u,o⟩,rfl⟩)
  ·have D:k=n:=by omega
   subst D
   have C:f= -1:=by
    rw[←F.out,List.drop_of_length_le (by rw[I.out];exact Nat.le_refl _)]
    rfl
   subst C
   go_wp2
   go_ret
   exact⟨rfl,B.out⟩
theorem U1 (w:World)(v:Value)(n:Nat)(l:zN)(hn:l.length=n)(hr:RdS w [] 1 v n (l.map encStr))(hs:Short l) :
  Calls Tryz.prog 160 #[v,.func (.func 161) #[] #[]] w fun e w'=>e=.returned (.bool (l.any fun s=>!yM s))∧Below w.heap.size w w':=by
 have h:=zbI w v n l hn hr hs
 obtain⟨A,f,rfl,_,_⟩:=hr.form
 have a:=Qk l 0
 have b:decide (0≤YI l 0)=l.any (fun s=>!yM s):=by
  rw[Bool.eq_iff_iff,decide_eq_true_iff]
  exact a
 generalize YI l 0=x at h b
 generalize (l.any fun s=>!yM s)=bb at b
 have d:=zdG b
 clear a b hr hs hn
 go_enter Tryz.func160,Tryz.ntmps160
 go_wp2_with (go_at_call 199;refine h.mono ?_;rintro e g ⟨rfl,c⟩)
 go_ret
 exact⟨zH d.out,c⟩
def zG (l:zN):zN×Int:=
 if l.any (fun s=>!yM s)=true then ([],1)
 else if 16 < (Lib.compact (Zj l)).length then ([],13) else (Lib.compact (Zj l),0)
theorem zaR (w:World)(v:Value)(n:Nat)(l:zN)(hn:l.length=n)(hnb:n≤1099511627776)(hr:RdS w [] 1 v n (l.map encStr))(hs:Short l) :
  Calls Tryz.prog 90 #[v] w fun e w'=>∃A cap hh,e=.returned (.tuple #[.slice A (zG l).1.length cap,.int .i64 (zG l).2])∧Sl w' 9 1 (.slice A (zG l).1.length cap) hh (zG l).1.length ((zG l).1.map encStr)∧Below w.heap.size w w'∧∀b,hh=some b→w.heap.size≤b:=by
 have B:=U1 w v n l hn hr hs
 have C:=fun W (hb:Below w.heap.size w W)=>Uc W v n (l.map encStr) (hr.below hb) (zbD l) (by omega)
 obtain⟨A,cap,rfl,_,_⟩:=hr.form
 unfold zG
 cases g:l.any (fun s=>!yM s)
 ·rw[g] at B
  rw[if_neg (by decide)]
  have G:=zdG C
  have H:=fun W v h hs=>zdC W v h n l hs hnb
  have y:=fun W v h hs=>Qh W v h n (Zj l) hs hnb
  have I:(Lib.compact (Zj l)).length≤n:=by
   have:=Lib.compact_length_le (Zj l)
   rw[Yk] at this
   omega
  generalize Lib.compact (Zj l)=ks at y I
  obtain⟨K,F⟩:∃K,ks.length=K:=⟨_,rfl⟩
  rw[F] at y I
  have P:=zdG F
  clear g C hn hr hs
  by_cases N:16 < K
  ·rw[if_pos (by rw[F];exact N)]
   clear F
   go_enter Tryz.func90,Tryz.ntmps90
   go_wp2_with (first
    |(go_at_call 160;refine B.mono ?_;rintro e O ⟨rfl,a⟩;have c:=G.out _ a;have j:=zdG a;clear a B)
    |(go_at_call 151;refine c.mono ?_;rintro e Q ⟨R,S,rfl,p,q,r⟩;have o:=zdG (V8 j.out q);have d:=H _ _ _ p;have z:=zdG r;clear p q r c)
    |(go_at_call 163;refine d.mono ?_;rintro e T ⟨rfl,t,u⟩;have f:=y _ _ _ t;have D:=zdG u;clear t u d)
    |(go_at_call 164;refine f.mono ?_;rintro e U ⟨V,rfl,m,x⟩;obtain⟨X,L,rfl,_,_⟩:=m.form;have E:=zdG (D.out.trans x (fun i hi=>.inl hi));clear m x f)
    |fail)
   go_ret2
   refine⟨none,0,none,rfl,Sl.nil _ _ _,?_,fun b hb=>by cases hb⟩
   exact o.out.trans (E.out.below o.out.size fun k J=>Nat.le_trans j.out.size (z.out k (by simpa using J)))
  ·rw[if_neg (by rw[F];exact N)]
   clear F
   go_enter Tryz.func90,Tryz.ntmps90
   go_wp2_with (first
    |(go_at_call 160;refine B.mono ?_;rintro e O ⟨rfl,a⟩;have c:=G.out _ a;have j:=zdG a;clear a B)
    |(go_at_call 151;refine c.mono ?_;rintro e Q ⟨R,S,rfl,p,q,r⟩;have o:=zdG (V8 j.out q);have d:=H _ _ _ p;have z:=zdG r;clear p q r c)
    |(go_at_call 163;refine d.mono ?_;rintro e T ⟨rfl,t,u⟩;have f:=y _ _ _ t;have D:=zdG u;clear t u d)
    |(go_at_call 164;refine f.mono ?_;rintro e U ⟨V,rfl,m,x⟩;obtain⟨X,L,rfl,_,_⟩:=m.form;have E:=zdG (D.out.trans x (fun i hi=>.inl hi));have M:=zdG m;clear m x f)
    |fail)
   go_ret2
   have J:=P.out
   simp only[J]
   refine⟨_,_,_,rfl,M.out,?_,fun b hb=>Nat.le_trans j.out.size (z.out b hb)⟩
   exact o.out.trans (E.out.below o.out.size fun k J=>Nat.le_trans j.out.size (z.out k (by simpa using J)))
 ·rw[g] at B
  rw[if_pos rfl]
  clear g C hn hr hs
  go_enter Tryz.func90,Tryz.ntmps90
  go_wp2_with (go_at_call 160;refine B.mono ?_;rintro e O ⟨rfl,a⟩)
  go_ret2
  exact⟨none,0,none,rfl,Sl.nil _ _ _,a,fun b hb=>by cases hb⟩
end Go.Proofs.YtfhlhdmhgheonaaGreatDoor
namespace Go.Proofs.YtfhlhdmhgheonaaGreatDoor
open Go.Lib
def yH:Nat→List UInt8→Nat→List (List UInt8×Nat)
 |0,_,_=>[]
 |f+1,s,p=>
  if s=[] then []
  else if Lib.indexByte s 10 < 0 then [(s,p+s.length)]
  else (Lib.trimSuffix (s.take (Lib.indexByte s 10).toNat) [13],p+((Lib.indexByte s 10).toNat+1)) :: yH f (s.drop ((Lib.indexByte s 10).toNat+1)) (p+((Lib.indexByte s 10).toNat+1))
def yt (t:List UInt8):Bool:=decide (t[0]?=some 32)||decide (t[0]?=some 9)
def xL (g:List (List UInt8))(t:List UInt8):List (List UInt8):=if g≠[]∧yt t=true then g.dropLast++[(g.getLast?.getD [])++t] else g++[t]
def xh:List (List UInt8×Nat)→List (List UInt8)→Nat→List (List UInt8)×Nat
 |[],g,b=>(g,b)
 |(t,p) :: r,g,b=>if t=[] then (g,p) else xh r (xL g t) b
def YP (s:List UInt8):(List UInt8×List UInt8)×Bool:=
 (((Lib.cut s [58]).1,Lib.trimS (Lib.cut s [58]).2.1 [32,9]),(Lib.cut s [58]).2.2 && ((Lib.cut s [58]).1.all (fun b=>decide (33≤b.toNat) && decide (b.toNat≤126)) && !decide ((Lib.cut s [58]).1=[])))
def zS (g:List (List UInt8)):List (List UInt8×List UInt8):=g.filterMap fun s=>if (YP s).2 then some (YP s).1 else none
def zD:List (List UInt8)→List (List UInt8×List UInt8)
 |[]=>[]
 |s :: r=>zS (if yt s=true then r else s :: r)
def xw (s:List UInt8):List (List UInt8×List UInt8)×Nat:=(zD (xh (yH s.length s 0) [] s.length).1,(xh (yH s.length s 0) [] s.length).2)
def vI (l:List (List UInt8×List UInt8))(name:List UInt8):List UInt8×Bool:=match l.find? (fun f=>decide (vP f.1=vP name)) with
 |some f=>(f.2,true)
 |none=>([],false)
def zO (t name:List UInt8):List UInt8:=(vI (xw t).1 name).1
theorem Xi {g:List (List UInt8)}{t:List UInt8}(hg:∀x∈g,x≠[])(ht:t≠[]):∀x∈xL g t,x≠[]:=by
 intro x a
 unfold xL at a
 split at a
 ·rename_i h
  rw[List.mem_append,List.mem_singleton] at a
  rcases a with a|rfl
  ·exact hg x (List.dropLast_subset g a)
  ·simp[ht]
 ·rw[List.mem_append,List.mem_singleton] at a
  rcases a with a|rfl
  ·exact hg x a
  ·exact ht
def YH (g:List (List UInt8)):Nat:=(g.map List.length).sum
theorem VD (a b:List (List UInt8)):YH (a++b)=YH a+YH b:=by simp[YH]
theorem uU (g:List (List UInt8))(t:List UInt8):YH (xL g t)=YH g+t.length:=by
 unfold xL
 split
 ·rename_i h
  obtain⟨a,z,rfl⟩:∃a z,g=a++[z]:=⟨g.dropLast,g.getLast h.1,(List.dropLast_concat_getLast _).symm⟩
  simp[YH]
  omega
 ·simp[YH]
theorem Zg (g:List (List UInt8))(t:List UInt8):(xL g t).length≤g.length+1:=by
 unfold xL
 split
 ·simp
 ·simp
end Go.Proofs.YtfhlhdmhgheonaaGreatDoor
namespace Go.Proofs.YtfhlhdmhgheonaaGreatDoor
open Go Go.Proofs Go.Shelf Go.RowKit Go.Lib
variable {P:Program} {ρ:Ren}
theorem JL (L:Lays.n220 P ρ)(s:ByteArray)(c:UInt8)(w:World)(hs:s.size < 4294967281) :
  Calls P (ρ.f 220) #[.string s,.string ⟨#[c]⟩] w fun e w'=>e=.returned (.tuple #[.string ⟨(Lib.cut s.data.toList [c]).1.toArray⟩,.string ⟨(Lib.cut s.data.toList [c]).2.1.toArray⟩,.bool (Lib.cut s.data.toList [c]).2.2])∧∃n,w'=w.drewN n:=by
 have a:(⟨#[c]⟩:ByteArray).data.toList=[c]:=rfl
 rcases Lib.indexB_cases s ⟨#[c]⟩ with hix|⟨i,hix,hroom⟩
 ·obtain⟨d,g,h⟩:=Lib.cutB_miss s ⟨#[c]⟩ hix
  rw[a] at d g h
  rw[d,g,h]
  have t3:=L.t3;have t4:=L.t4;have t9:=L.t9
  have j:∀w,(isAgg (ρ.t 3)).run P w=.ok false w:=run_isAgg_plain L.t3 rfl;have k:∀w,(isAgg (ρ.t 4)).run P w=.ok false w:=run_isAgg_plain L.t4 rfl;have l:∀w,(isAgg (ρ.t 9)).run P w=.ok false w:=run_isAgg_plain L.t9 rfl
  have b:∀args w,(callFunc (ρ.f 219) args).run P w=.ok (.enter (ρ.f 219) args) w:=enters_of L.f219 (by kernel_rfl) rfl
  have mixed:=L.mixed;have z3:=L.z3;have v3:=L.v3;have z4:=L.z4;have v4:=L.v4;have z9:=L.z9;have v9:=L.v9
  go_enter L.f220,Body.n220_ntmps ρ
  go_wp2_with (go_at_fn (ρ.f 219);refine(Any.stringslite_Index_one {L with} _ _ _).mono ?_;rintro e w' ⟨rfl,rfl⟩;rw[show Lib.indexByte s.data.toList c=_ from (Lib.index_one _ _).symm.trans hix])
  go_ret3
  exact⟨rfl,0,rfl⟩
 ·obtain⟨d,g,h⟩:=Lib.cutB_hit s ⟨#[c]⟩ i hix
  rw[a] at d g h
  rw[d,g,h]
  have m:(⟨#[c]⟩:ByteArray).size=1:=rfl
  have o:(0:Int)≤↑i:=by omega
  have p:(↑i:Int)≤↑s.size:=by omega
  have q:(0:Int)≤↑i+1:=by omega
  have r:(↑i+1:Int)≤↑s.size:=by omega
  have u:IntKind.i64.wrap ((i:Int)+1)=(i:Int)+1:=IntWalk.i64_in _ (by omega)
  have t3:=L.t3;have t4:=L.t4;have t9:=L.t9
  have j:∀w,(isAgg (ρ.t 3)).run P w=.ok false w:=run_isAgg_plain L.t3 rfl;have k:∀w,(isAgg (ρ.t 4)).run P w=.ok false w:=run_isAgg_plain L.t4 rfl;have l:∀w,(isAgg (ρ.t 9)).run P w=.ok false w:=run_isAgg_plain L.t9 rfl
  have b:∀args w,(callFunc (ρ.f 219) args).run P w=.ok (.enter (ρ.f 219) args) w:=enters_of L.f219 (by kernel_rfl) rfl
  have mixed:=L.mixed;have z3:=L.z3;have v3:=L.v3;have z4:=L.z4;have v4:=L.v4;have z9:=L.z9;have v9:=L.v9
  go_enter L.f220,Body.n220_ntmps ρ
  go_wp2_with (go_at_fn (ρ.f 219);refine(Any.stringslite_Index_one {L with} _ _ _).mono ?_;rintro e w' ⟨rfl,rfl⟩;rw[show Lib.indexByte s.data.toList c=_ from (Lib.index_one _ _).symm.trans hix])
  go_region_o
  go_wp2
  go_ret3
  exact⟨rfl,1,rfl⟩
theorem cut_one (L:Lays.n145 P ρ)(s:ByteArray)(c:UInt8)(w:World)(hs:s.size < 4294967281) :
  Calls P (ρ.f 145) #[.string s,.string ⟨#[c]⟩] w fun e w'=>e=.returned (.tuple #[.string ⟨(Lib.cut s.data.toList [c]).1.toArray⟩,.string ⟨(Lib.cut s.data.toList [c]).2.1.toArray⟩,.bool (Lib.cut s.data.toList [c]).2.2])∧∃n,w'=w.drewN n:=by
 have t4:=L.t4;have t9:=L.t9;have t59:=L.t59
 have d:∀w,(isAgg (ρ.t 4)).run P w=.ok false w:=run_isAgg_plain L.t4 rfl;have g:∀w,(isAgg (ρ.t 9)).run P w=.ok false w:=run_isAgg_plain L.t9 rfl;have b:∀w,(isAgg (ρ.t 59)).run P w=.ok false w:=run_isAgg_plain L.t59 rfl
 have a:∀args w,(callFunc (ρ.f 220) args).run P w=.ok (.enter (ρ.f 220) args) w:=enters_of L.f220 (by kernel_rfl) rfl
 have mixed:=L.mixed;have z4:=L.z4;have v4:=L.v4;have z9:=L.z9;have v9:=L.v9;have z59:=L.z59;have v59:=L.v59
 go_enter L.f145,Body.n145_ntmps ρ
 go_wp2_with (go_at_fn (ρ.f 220);refine(JL {L with} _ _ _ hs).mono ?_;rintro e w' ⟨rfl,n,rfl⟩)
 go_ret3
 exact⟨rfl,n,rfl⟩
end Go.Proofs.YtfhlhdmhgheonaaGreatDoor
namespace Go.Proofs.YtfhlhdmhgheonaaGreatDoor
open Go.Shelf Go.RowKit
shelf_lay Lays.n160 Nm 160 at Tryz as Tryz.lays160
theorem trim_any (s:List UInt8)(w:World)(hs:s.length≤4294967281) :
  Calls Tryz.prog 253 #[.string ⟨s.toArray⟩,.string ⟨#[32,9]⟩] w fun e w'=>e=.returned (.string ⟨(Lib.trimS s [32,9]).toArray⟩)∧Below w.heap.size w w':=
 Any.strings_Trim_laid Tryz.lays160 (by kernel_rfl) ⟨s.toArray⟩ ⟨#[32,9]⟩ w (by show s.toArray.size≤_;simp;omega) (by decide) (ascii_of_all (by decide))
theorem cut_any (s:List UInt8)(w:World)(hs:s.length < 4294967281) :
  Calls Tryz.prog 252 #[.string ⟨s.toArray⟩,.string ⟨#[58]⟩] w fun e w'=>e=.returned (.tuple #[.string ⟨(Lib.cut s [58]).1.toArray⟩,.string ⟨(Lib.cut s [58]).2.1.toArray⟩,.bool (Lib.cut s [58]).2.2])∧∃n,w'=w.drewN n:=
 cut_one Tryz.lays145 ⟨s.toArray⟩ 58 w (by show s.toArray.size < _;simp;omega)
end Go.Proofs.YtfhlhdmhgheonaaGreatDoor
