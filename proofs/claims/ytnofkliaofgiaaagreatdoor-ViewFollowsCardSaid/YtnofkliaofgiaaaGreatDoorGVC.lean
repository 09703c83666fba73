/-
  The walks of flag.Flag and flag.List. The walks of the reference's Digits and of text.Digits: the digits of a number; nothing that was there turns. The walks of strings.Builder.WriteString and String, of sync/atomic.Int64.Store, of the view's 'say'. The library's Delete of one of a view's messages. The walk of the view's add. The walks of IndexFunc over a mailbox's emails, and of the view's 'find'
-/
import Derived.Test.YtnofkliaofgiaaaGreatDoorGB
import Derived.Test.YtnofkliaofgiaaaGreatDoorGVA
import Derived.Test.YtnofkliaofgiaaaGreatDoorShelf
import Derived.Test.YtnofkliaofgiaaaGreatDoorGD
import Derived.Test.YtnofkliaofgiaaaGreatDoorGVB
import Derived.Test.YtnofkliaofgiaaaGreatDoorGM
import Derived.Lib.JoinLaws
import Derived.Lib.ItoaLen
import Derived.Deep.RegionWith
import Derived.Deep.DrawnRows
import Derived.Shelf.Strings.BuilderK
import Derived.Lib.AppendIntMem
set_option maxRecDepth 100000
set_option maxHeartbeats 8000000
open Go.Proofs.Tryz
open Array renaming getElem?_eq_some_iff→Pp,length_toList→PL
open ByteArray renaming mk→PK
open Exists renaming intro→OA
open Go renaming Program→Pv,TypeId→Pa,Value→Oe,World→Oc
open Go.Builtin renaming clear_→P4
open Go.ByteArray renaming mk_append_mk→Pj
open Go.Ending renaming returned→RR
open Go.IntKind renaming i64→Ov,u8→Rh
open Go.IntWalk renaming i64_in→Og
open Go.Lib renaming byteCells→Ri,join→Rk
open Go.Proofs renaming enters_of→O9
open Go.RowKit renaming Below→Od
open Go.RowKit.Below renaming refl→Ok
open Go.Value renaming pointer→RQ,slice→RO,string→RP
open Go.World renaming cell?_alloc_past→Pw,frozen?_alloc_past→Pn,size_alloc→O3
open List renaming append_assoc→O4,cons_append→PO,eq_nil_of_length_eq_zero→Oi,find?_cons_of_neg→Pb,find?_cons_of_pos→PN,getElem?_eq_getElem→Ot,getElem?_eq_some_iff→OX,getElem?_map→O5,getElem_mem→Oj,length_append→Oo,length_cons→OT,length_drop→O8,length_map→Ow,length_take→OU,map_append→OQ,map_map→PS,mem_of_mem_drop→Re,mem_singleton→OI,size_toArray→PC,take_of_length_le→Ou,take_succ_eq_append_getElem→Oh
open Nat renaming add_assoc→O1,le_refl→Oq,le_trans→Ol,lt_of_lt_of_le→OJ,zero_le→OE
open Option.some renaming inj→O6,injEq→Pk
open UInt8 renaming ofNat→OW
open _root_ renaming ByteArray→Oy,List→Ob,Option→OC,UInt8→Oz,decide_eq_false→OD,decide_eq_true→OS,getElem!_pos→PD,if_neg→Om,if_pos→OG
namespace Go.Proofs.YtnofkliaofgiaaaGreatDoor
attribute [local go_sem ↓] Go.wp_at_zero Go.wp_at_succ
section
open Go.RowKit Go.Sort
def Xx (s:Oy):Oy:=
 if s=⟨#[36,97,110,115,119,101,114,101,100]⟩ then ⟨#[92,65,110,115,119,101,114,101,100]⟩
 else if s=⟨#[36,102,108,97,103,103,101,100]⟩ then ⟨#[92,70,108,97,103,103,101,100]⟩
 else if s=⟨#[36,100,101,108,101,116,101,100]⟩ then ⟨#[92,68,101,108,101,116,101,100]⟩
 else if s=⟨#[36,115,101,101,110]⟩ then ⟨#[92,83,101,101,110]⟩
 else if s=⟨#[36,100,114,97,102,116]⟩ then ⟨#[92,68,114,97,102,116]⟩
 else s
theorem KL (s:Oy)(w:Oc) :
  C 112 #[.string s] w fun e w'=>e=RR (RP (Xx s))∧w=w':=by
 obtain⟨q,g⟩:∃q,Xx s=q:=⟨_,rfl⟩
 rw[g]
 unfold Xx at g
 have HQ:=V g
 clear g
 go_enter func112,ntmps112
 by_cases a:s=⟨#[36,97,110,115,119,101,114,101,100]⟩
 ·subst a
  exact aP
 have h:=ZA s [36,97,110,115,119,101,114,101,100] a
 rw[Om a] at HQ
 clear a
 by_cases b:s=⟨#[36,102,108,97,103,103,101,100]⟩
 ·subst b
  exact aP
 have i:=ZA s [36,102,108,97,103,103,101,100] b
 rw[Om b] at HQ
 clear b
 by_cases c:s=⟨#[36,100,101,108,101,116,101,100]⟩
 ·subst c
  exact aP
 have j:=ZA s [36,100,101,108,101,116,101,100] c
 rw[Om c] at HQ
 clear c
 by_cases d:s=⟨#[36,115,101,101,110]⟩
 ·subst d
  exact aP
 have k:=ZA s [36,115,101,101,110] d
 rw[Om d] at HQ
 clear d
 by_cases f:s=⟨#[36,100,114,97,102,116]⟩
 ·subst f
  exact aP
 have l:=ZA s [36,100,114,97,102,116] f
 rw[Om f] at HQ
 clear f
 go_wp2_with fail
 go_ret
 exact⟨Jc HQ.o,rfl⟩
def ZW (s:Ob Oz):Ob Oz:=(Xx ⟨s.toArray⟩).data.toList
theorem qG (s:Ob Oz):Xx ⟨s.toArray⟩=⟨(ZW s).toArray⟩:=Z8 _ _ rfl
theorem J0 (s:Ob Oz)(h:s.length≤300):(ZW s).length≤300:=by
 unfold ZW Xx
 repeat' split
 all_goals first|(simp;done)|simpa using h
def J (l:yF)(i:Nat):Ob Oz:=Rk ((l.take i).map ZW) [32]
theorem gW (l:yF):J l 0=[]:=by simp[J,Lib.join_nil]
theorem lX (l:yF)(h:0 < l.length):J l 1=ZW l[0]:=by
 unfold J
 rw[Oh h]
 simp[Lib.join_one]
theorem wU (l:yF)(i:Nat)(hi:0 < i)(h:i < l.length):J l (i+1)=J l i++[32]++ZW l[i]:=by
 unfold J
 rw[Oh h,OQ]
 cases a:(l.take i).map ZW with
 |nil=>
  have:=congrArg List.length a
  rw[Ow,OU,List.length_nil] at this
  omega
 |cons x r=>
  rw[PO,Lib.join_cons,Lib.join_cons]
  simp[Lib.joinTail]
theorem Ue (l:yF)(h3:∀s∈l,s.length≤300):∀i,i≤l.length→(J l i).length≤i * 301
 |0,_=>by simp[gW]
 |i+1,h=>by
  have ih:=Ue l h3 i (Nat.le_of_succ_le h)
  have h1:=J0 l[i] (h3 _ (Oj O))
  by_cases h0:i=0
  ·subst h0
   rw[lX l O]
   exact Ol h1 O
  ·rw[wU l i O O]
   simp only[Oo,OT,List.length_nil]
   omega
structure LC (w wr:Oc)(v:Oe)(l:yF)(c:Nat):Prop where
 sl:∃h,Sl wr 9 1 v h c (((l.take c).map ZW).map encStr)∧∀b,h=some b→w.heap.size≤b
 below:Od w w wr
theorem K8 (w:Oc)(v:Oe)(n:Nat)(l:yF)(hn:l.length=n)(hnb:n≤100)(hr:NN w [] 1 v n (l.map encStr))(h3:∀s∈l,s.length≤300) :
  C 49 #[v] w fun e w'=>e=RR (RP ⟨(40 :: J l n++[41]).toArray⟩)∧Od w w w':=by
 obtain⟨i0,hi,a5,a6,a7⟩:=info_parts Try.infoString
 obtain⟨A,a9,rfl,_,_⟩:=hr.form
 have HR:=V hr
 have HN:=V hn
 have H3:=V h3
 clear hr hn h3
 go_enter func49,ntmps49
 go_wp2
 go_loopw [3,8] (fun o i wr=>∃k:Nat,k≤n∧i=I k∧Z (LC w wr o l k)) (fun _ i _=>n - (intOf i).toNat)
 case atStart=>exact⟨0,OE _,rfl,V ⟨⟨none,Sl.nil _ _ _,fun b hb=>by cases hb⟩,Ok _ _⟩⟩
 case round=>
  obtain⟨k,hk,rfl,N⟩:=hrel
  by_cases af:k < n
  ·have K:k < l.length:=Zg
   obtain⟨b,B,a8,a4,D,_,q⟩:=HR.o.str k K
   injection a4 with hva1 _ hva3
   subst hva1
   subst hva3
   have d0:wr.cell? (Y b (B+k))=some (encStr l[k]):=(N.o.below.cell (p:=⟨b,B+k,none⟩) D).trans q
   have r:=KL ⟨l[k].toArray⟩ wr
   rw[qG] at r
   have m:((l.take (k+1)).map ZW).map encStr=((l.take k).map ZW).map encStr++[encStr (ZW l[k])]:=by
    rw[Oh K,OQ,OQ]
    rfl
   have d:=V m
   generalize l[k]=x at d0 r d
   generalize ZW x=fb at r d
   obtain⟨⟨h,u,Q⟩,c⟩:=N.o
   have HS:=V u
   have M:=V (And.intro Q c)
   obtain⟨S,a,rfl,_,_⟩:=u.form
   clear u Q c m q
   go_wp2_with (first
    |(go_at_call 112;refine r.mono ?_;rintro e w2 ⟨rfl,rfl⟩;clear r)
    |(at_builtin;refine yc rfl _ _ 38 rfl underlying38 hi a5 a6 a7 rfl zD HS.o rfl 1 1 rfl rfl ?_ ?_ ?_ ?_))
   ·rfl
   ·unfold maxLen
    omega
   ·omega
   ·intro v2 U w3 z H L
    obtain⟨A2,F,rfl,_,_⟩:=z.form
    have a2:=M.o.2.size
    have E:Z (LC w w3 (RO A2 (k+1) F) l (k+1)):=V (by
     refine⟨⟨U,?_,fun b hb=>?_⟩,M.o.2.trans (H.below a2 fun k hk=>M.o.1 k yi)⟩
     ·rw[d.o]
      first|exact z|(rw[PS,List.map_take];exact z)
     ·rcases L with h4|⟨g,h4,h5⟩
      ·exact M.o.1 b (h4 ▸ hb)
      ·rw[h4] at hb
       injection hb with hb
       omega)
    clear z H L
    go_wp2
    refine⟨?_,zV⟩
    first|exact⟨k+1,O,zE,E⟩|((repeat apply OA);exact⟨⟨k+1,O,zE,E⟩,rfl⟩)
  ·have a1:k=n:=O
   subst a1
   obtain⟨⟨h,u,Q⟩,c⟩:=N.o
   rw[Ou V0] at u
   have P:J l k=Rk (l.map ZW) [32]:=by
    unfold J
    rw[Ou V0]
   have W:=Ue l H3.o k V0
   have f:∀v',v'=u3→C 42 #[v',RP ⟨#[32]⟩] wr fun e w'=>e=RR (RP ⟨(J l k).toArray⟩)∧Od wr wr w':=by
    intro v' a3
    subst a3
    by_cases a0:k=0
    ·subst a0
     obtain⟨S,a,hv,_,_⟩:=u.form
     rw[hv]
     refine(Tryz.strings_Join_none S a ⟨#[32]⟩ wr).mono ?_
     rintro e w' ⟨rfl,rfl⟩
     exact⟨by rw[gW],Ok _ _⟩
    ·obtain⟨b,B,a,_,hv,X,aa,D,q⟩:=u.at_ O
     rw[hv]
     have R:((l.map ZW).map fun s=>(⟨s.toArray⟩:Oy)).length=k:=by rw[Ow,Ow,HN.o]
     have hy:(((l.map ZW).map fun s=>(⟨s.toArray⟩:Oy)).map (·.data.toList))=l.map ZW:=by
      rw[PS]
      conv=>rhs;rw[←List.map_id (l.map ZW)]
      rfl
     have hj:=Tryz.strings_Join b B a ((l.map ZW).map fun s=>(⟨s.toArray⟩:Oy)) ⟨#[32]⟩ wr (fun j x hjx=>by
      have ab:j < k:=by rw[←R];exact(OX.1 hjx).1
      rw[(q j O).1,O5]
      rw[O5] at hjx
      cases hq:(l.map ZW)[j]? with
      |none=>rw[hq] at hjx;cases hjx
      |some y=>
       rw[hq] at hjx
       injection hjx with hjx
       rw[←hjx]
       rfl) D (by rw[R];omega) (by rw[R];exact X) (by rw[hy,show (⟨#[32]⟩:Oy).data.toList=[32] from rfl,←P];omega)
     rw[R,hy,show (⟨#[32]⟩:Oy).data.toList=[32] from rfl,←P] at hj
     exact hj
   have r:=f _ rfl
   have HB:=V c
   have n1:¬9223372036854775807 < (J l k).length+1:=O
   have n2:¬9223372036854775807 < 1+(J l k).length:=O
   have n3:¬9223372036854775807 < 1+(J l k).length+1:=O
   have HJ:=V P
   obtain⟨S,a,rfl,_,_⟩:=u.form
   obtain⟨t,ht⟩:∃t,J l k=t:=⟨_,rfl⟩
   rw[ht] at r n1 n2 n3
   have HT:=V ht
   clear u Q c P W f N ht
   go_wp2_with (first
    |(go_at_call 42;refine r.mono ?_;rintro e w2 ⟨rfl,G⟩;have T:=V (Uj HB.o G);clear G r)
    |fail)
   go_ret
   refine⟨Jc ?_,T.o⟩
   have h1:=Pj [40] t
   have U:=Pj (40 :: t) [41]
   rw[HT.o]
   exact(congrArg (·++(⟨#[41]⟩:Oy)) h1).trans U
end
section
open Go.RowKit Go.Lib
theorem VS {P:Pv}(ats:Array Pa)(ty:Pa)(a b:Int)(w:Oc):(Builtin.max_ ats ty #[I a,I b]).run P w=.ok (I (if a < b then b else a)) w:=by
 simp[Builtin.max_,Builtin.max2]
theorem qE (c:Nat)(hc:c < 10)(w:Oc)(g:Nat)(hB:NG w g 5 #[.int .u8 (48+(c:Int))]) :
  Sem.run prog (convert 95 9 (RO (some (Y g 0)) 1 1)) w=.ok (RP ⟨[OW (48+c)].toArray⟩) w:=by
 refine uA underlying95 underlying5 (l:=[OW (48+c)]) (fun j hj=>?_) 1 rfl 9 underlying9
 refine⟨?_,hB.frozen j⟩
 rw[hB.cell j]
 match j,hj with
 |0,_=>simp;omega
theorem bN (k:Nat)(h:10≤k):decDigits k=decDigits (k / 10)++[OW (48+k % 10)]:=by
 rw[decDigits,dif_neg O]
theorem Yi (n:Int)(h:n≤9223372036854775807):(XD n).length≤21:=by
 by_cases a:0≤n
 ·have:=itoa_length_le n O h
  obtain⟨k,rfl⟩:∃k:Nat,n=k:=⟨n.toNat,O⟩
  rw[itoa_nonneg] at this
  exact this
 ·have e:n.toNat=0:=O
  unfold XD
  rw[e,decDigits_one O]
  simp
theorem X0 (n:Int)(h:n < 10)(w:Oc) :
  C 67 #[I n] w fun e w'=>e=RR (RP ⟨(XD n).toArray⟩)∧Od w w w':=by
 obtain⟨c,f⟩:∃c:Nat,(if n < 0 then 0 else n)=(c:Int):=⟨n.toNat,O⟩
 have a:n.toNat=c∧c < 10:=O
 have g:XD n=[OW (48+c)]:=by
  unfold XD
  rw[a.1,decDigits_one a.2]
 rw[g]
 have d:=fun ats ty W=>VS (P:=prog) ats ty n 0 W
 rw[f] at d
 have b:=qE c a.2 _ _ (NG.new w 5 #[.int .u8 (48+(c:Int))])
 have i:(c:Int)≤9:=O
 generalize OW (48+c)=x at b
 clear g f a
 go_enter func67,ntmps67
 go_wp2
 go_ret
 exact⟨rfl,(Ok _ _).alloc (Oq _) _⟩
theorem eT (k:Nat):k≤9223372036854775807→∀w:Oc,
  C 67 #[I k] w fun e w'=>e=RR (RP ⟨(decDigits k).toArray⟩)∧Od w w w':=by
 induction k using Nat.strongRecOn with
 |_ k ih=>
  intro A w
  by_cases z:k < 10
  ·exact X0 k O w
  ·have d:=ih (k / 10) O O
   have l:(decDigits (k / 10)).length≤21:=Yi ((k / 10:Nat):Int) O
   rw[bN k O]
   generalize decDigits (k / 10)=D at d l
   have r:((k / 10:Nat):Int)=(k:Int) / 10:=O
   have s:((k % 10:Nat):Int)=(k:Int) % 10:=O
   rw[r] at d
   have a:=fun W g hB=>qE (k % 10) O W g hB
   rw[s] at a
   generalize OW (48+k % 10)=c at a
   have f:=V a
   have y:¬9223372036854775807 < D.length+[c].length:=zT
   have v:(10:Int)≤(k:Int):=O
   have x:(k:Int)≤9223372036854775807:=O
   have B:Ov.wrap ((k:Int) / 10)=(k:Int) / 10:=Og _ O
   have E:(k:Int).tmod 10=(k:Int) % 10:=Int.tmod_eq_emod_of_nonneg O
   have F:Ov.wrap (48+(k:Int) % 10)=48+(k:Int) % 10:=Og _ O
   have G:Rh.wrap (48+(k:Int) % 10)=48+(k:Int) % 10:=IntWalk.u8_in _ O
   clear ih r s a z
   go_enter func67,ntmps67
   go_wp2_with fail
   have t:∀b,Od w.drew.heap.size w.drew b→Od w w b:=fun b h=>⟨h.os,h.tape,h.output,h.size,h.block⟩
   have p:∀b,Od (w.alloc (.cells #[.int .u8 (48+(k:Int) % 10)] 5)).drew.heap.size (w.alloc (.cells #[.int .u8 (48+(k:Int) % 10)] 5)).drew b→Od (w.heap.size+1) (w.alloc (.cells #[.int .u8 (48+(k:Int) % 10)] 5)) b:=fun b h=>⟨h.os,h.tape,h.output,h.size,fun i hi=>h.block i vq⟩
   have q:=f.o (w.alloc (.cells #[.int .u8 (48+(k:Int) % 10)] 5)).drew w.heap.size ((NG.new w 5 #[.int .u8 (48+(k:Int) % 10)]).heap zF)
   go_region_with (first
    |(go_at_call 67;(with_reducible refine(d w.drew).mono ?_);rintro e b ⟨rfl,j⟩;have n:=f.o _ _ (NG.new b 5 #[.int .u8 (48+(k:Int) % 10)]);have m:=V (t b j);clear j)
    |(go_at_call 67;(with_reducible refine(d (w.alloc (.cells #[.int .u8 (48+(k:Int) % 10)] 5)).drew).mono ?_);rintro e b ⟨rfl,j⟩;have n:=f.o b w.heap.size ((NG.new w 5 #[.int .u8 (48+(k:Int) % 10)]).below (p b j) zv);have m:=V (((Ok w.heap.size w).alloc (Oq _) (.cells #[.int .u8 (48+(k:Int) % 10)] 5)).trans ((p b j).mono zv));clear j)
    |fail)
   all_goals
    go_wp2
    go_ret
    have u:(PK D.toArray)++(PK #[c])=PK (D++[c]).toArray:=Pj D [c]
    exact⟨Jc u,by first|exact m.o|exact m.o.alloc m.o.size _⟩
theorem Zr (n:Int)(h:n≤9223372036854775807)(w:Oc) :
  C 67 #[I n] w fun e w'=>e=RR (RP ⟨(XD n).toArray⟩)∧Od w w w':=by
 by_cases a:n < 10
 ·exact X0 n a w
 ·obtain⟨k,rfl⟩:∃k:Nat,n=k:=⟨n.toNat,O⟩
  exact eT k O w
theorem rU (w:Oc)(q:Nat)(os:Array Obj):Od w w (Sort.grow (w.drewN q) os):=by
 refine⟨rfl,rfl,rfl,by simp[Sort.grow],fun k hk=>?_⟩
 exact Sort.heap_grow_old _ _ yi
theorem UZ (n : Int)(h : n ≤ 9223372036854775807)(w : Oc)(ht : Lib.TabIs prog w "internal/strconv.uint64pow10" .u64 Lib.pow10Tab) :
  C 41 #[I n] w fun e w'=>e=RR (RP ⟨(XD n).toArray⟩)∧Od w w w':=by
 obtain⟨c,f⟩:∃c:Nat,(if n < 0 then 0 else n)=(c:Int):=⟨n.toNat,O⟩
 have b:n.toNat=c:=O
 have d:=fun ats ty W=>VS (P:=prog) ats ty n 0 W
 rw[f] at d
 have a:=Tryz.strconv_Itoa (c:Int) O O w ht
 rw[itoa_nonneg] at a
 unfold XD
 rw[b]
 clear f b ht
 go_enter func41,ntmps41
 go_wp2_with (first
  |(go_at_call 108;refine a.mono ?_;rintro e i ⟨rfl,q,g,rfl⟩;clear a)
  |fail)
 go_ret
 exact⟨rfl,rU _ _ _⟩
end
section
open Go.Shelf Go.RowKit Go.Lib
def Y4 (w:Oc)(B b:Nat)(t:yx):Prop:=Lib.IsBuilderF 97 5 B b (Ri t) w
theorem EA (B b:Nat)(t s:yx)(w:Oc)(h:Y4 w B b t)(hlen:t.length+s.length≤140737488355328)(hBw:B≤w.heap.size) :
  C 40 #[Y b 0,Oa s] w fun e w'=>e=RR (.tuple #[I s.length,.nilIface])∧Y4 w' B b (t++s)∧Od B w w'∧Lib.OthersKept 5 (some b) w w':=by
 have a:(⟨s.toArray⟩:Oy).size=s.length:=by simp[ByteArray.size]
 have d:=Any.Builder_WriteString_k {Tryz.lays156 with} Tryz.Builder_Extra_156 B b (Ri t) ⟨s.toArray⟩ w h (by rw[a];simpa[Ri] using hlen) hBw
 refine d.mono ?_
 rintro e w' ⟨rfl,f,g,i⟩
 rw[a]
 refine⟨rfl,.inr ?_,g,i⟩
 have c:Ri (t++s)=Ri t++Lib.strCells ⟨s.toArray⟩:=by simp[Ri,Lib.strCells]
 rw[c]
 exact f
theorem AD (B b:Nat)(t:yx)(w:Oc)(h:Y4 w B b t)(hBw:B≤w.heap.size) :
  C 50 #[Y b 0] w fun e w'=>e=RR (RP ⟨t.toArray⟩)∧Od B w w'∧Lib.OthersKept 5 (some b) w w':=by
 refine(Tryz.Builder_String_any_k B b t w h hBw).mono ?_
 rintro e w' ⟨rfl,_,a,c⟩
 exact⟨rfl,a,c⟩
theorem bld_new (w:Oc):Y4 (w.alloc (.cells #[RQ none,RO none 0 0] 97)) w.heap.size w.heap.size []:=.of (Lib.fresh_isBuilder _ _ w)
def EV (t:Pa):Prop:=t≠5∧t≠97
theorem Y4.blk {w:Oc}{B b:Nat}{t:yx}(h:Y4 w B b t):∃cs,NG w b 97 cs:=by
 rcases h with⟨_,v,hb,_⟩|⟨_,v,hb,_⟩ <;> exact⟨_,hb⟩
theorem Y4.keep {w w':Oc}{B b:Nat}{t:yx}(h:Y4 w B b t)(hk:∀(k:Nat) (cs:Array Oe) (fz:Nat×Nat) (u:Pa),(u=5∨u=97)→w.heap[k]?=some (Obj.cells cs u fz)→w'.heap[k]?=w.heap[k]?):Y4 w' B b t:=by
 have a:∀p,Lib.BuilderAtF 97 5 B b p (Ri t) w→Lib.BuilderAtF 97 5 B b p (Ri t) w':=by
  rintro p ⟨e,v,c,d,f⟩
  refine⟨e,v,(hk b _ _ _ (.inr rfl) c).trans c,⟨d.1,?_⟩,f⟩
  rcases d.2 with h0|⟨g,cap,cur,fz,hv,hg1,hg2,rest⟩
  ·exact .inl h0
  ·exact .inr ⟨g,cap,cur,fz,hv,hg1,(hk g _ _ _ (.inl rfl) hg2).trans hg2,rest⟩
 rcases h with h|h
 ·exact .inl (a _ h)
 ·exact .inr (a _ h)
theorem Y4.later {w w':Oc}{B b:Nat}{t:yx}(h:Y4 w B b t)(hb:Od w w w'):Y4 w' B b t:=
 h.keep fun k _ _ _ _ hk=>hb.block k (Pp.1 hk).1
theorem Y4.N4 {w w':Oc}{B b:Nat}{t:yx}{S:Ob Nat}(h:Y4 w B b t)(hc:NH S w w')(hS:∀k∈S,∃u cs,NG w k u cs∧NV u):Y4 w' B b t:=
 h.keep fun k cs fz u hu hk=>hc.block k (Pp.1 hk).1 fun hm=>by
  obtain⟨u',cs',hB,hT⟩:=hS k hm
  have h1:=hk.symm.trans hB
  simp only[Pk,Obj.cells.injEq] at h1
  obtain⟨_,rfl,_⟩:=h1
  unfold NV at hT
  rcases hu with rfl|rfl
  ·revert hT;decide
  ·revert hT;decide
abbrev Vm (w : Oc) : Prop := Lib.TabIs prog w "internal/strconv.uint64pow10" .u64 Lib.pow10Tab
theorem Vm.later {w w':Oc}(h:Vm w)(hb:Od w w w'):Vm w':=(tabBelow_of_tabIs h) w' hb
theorem BX (w:Oc)(v:Oe)(n:Nat)(ws:Ob yx)(hn:ws.length=n)(hn0:0 < n)(hnb:n≤100)(hr:NN w [] 1 v n (ws.map encStr))(hl:(Rk ws [32]).length≤1099511627776) :
  C 42 #[v,RP ⟨#[32]⟩] w fun e w'=>e=RR (RP ⟨(Rk ws [32]).toArray⟩)∧Od w w w':=by
 obtain⟨b,h,a,rfl,g,m,f,_,d⟩:=hr.at_ hn0
 have c:(ws.map fun s=>(⟨s.toArray⟩:Oy)).length=n:=by rw[Ow,hn]
 have l:((ws.map fun s=>(⟨s.toArray⟩:Oy)).map (·.data.toList))=ws:=by
  rw[PS]
  conv=>rhs;rw[←List.map_id ws]
  rfl
 have i:=Tryz.strings_Join b h a (ws.map fun s=>(⟨s.toArray⟩:Oy)) ⟨#[32]⟩ w (fun j x hjx=>by
  have o:j < n:=by rw[←c];exact(OX.1 hjx).1
  rw[d j O,O5]
  rw[O5] at hjx
  cases k:ws[j]? with
  |none=>rw[k] at hjx;cases hjx
  |some y=>
   rw[k] at hjx
   injection hjx with hjx
   rw[←hjx]
   rfl) f (by rw[c];omega) (by rw[c];exact g) (by rw[l,show (⟨#[32]⟩:Oy).data.toList=[32] from rfl];omega)
 rw[c,l,show (⟨#[32]⟩:Oy).data.toList=[32] from rfl] at i
 exact i
theorem oA (w:Oc)(at_:Int)(hat:at_≤9223372036854775807)(v:Oe)(n:Nat)(ws:Ob yx)(hn:ws.length=n)(hn0:0 < n)(hnb:n≤100)(hr:NN w [] 1 v n (ws.map encStr))(B b:Nat)(t:yx)(hb:Y4 w B b t)(hBw:B≤w.heap.size)(hlt:t.length≤1099511627776)(hl:(Rk ws [32]).length≤1099511627776)(ht:Vm w) :
  C 39 #[I at_,v,Y b 0] w fun e w'=>e=RR (.tuple #[])∧Y4 w' B b (t++VT at_ (Rk ws [32]))∧Od B w w'∧uB EV w w':=by
 have r:=UZ at_ hat w ht
 have g:(XD at_).length≤21:=Yi at_ hat
 have u:=fun W (h:Od w w W)=>BX W v n ws hn hn0 hnb (hr.below h) hl
 have c:VT at_ (Rk ws [32])=[42,32]++XD at_++[32]++Rk ws [32]++[13,10]:=rfl
 have F:=fun W (h:Od w w W) (s:yx) (hs:s.length≤1099511627776+100)=>EA B b t s W (hb.later h) O (Ol hBw h.size)
 obtain⟨cs,l⟩:=hb.blk
 obtain⟨A,R,rfl,_,_⟩:=hr.form
 rw[c]
 obtain⟨D,z⟩:∃D,XD at_=D:=⟨_,rfl⟩
 obtain⟨J,E⟩:∃J,Rk ws [32]=J:=⟨_,rfl⟩
 rw[z] at r g ⊢
 rw[E] at u hl ⊢
 have L:=V u
 have N:=V F
 have j:=V l
 have n1:¬9223372036854775807 < 2+D.length:=O
 have n2:¬9223372036854775807 < 2+D.length+1:=O
 have n3:¬9223372036854775807 < 2+D.length+1+J.length:=O
 have n4:¬9223372036854775807 < 2+D.length+1+J.length+2:=O
 have T:∀a b:Ob Oz,PK a.toArray++PK b.toArray=PK (a++b).toArray:=fun a b=>Pj a b
 have M:=V (And.intro hl g)
 have q:=V hBw
 clear u F l hb hr hn hn0 hnb c z E hl g ht hlt hBw hat
 go_enter func39,ntmps39
 go_wp2_with (first
  |(go_at_call 41;refine r.mono ?_;rintro e U ⟨rfl,f⟩;have m:=L.o U f;have p:=V f;clear r f)
  |(go_at_call 42;refine m.mono ?_;rintro e X ⟨rfl,k⟩;have i:=V (zj p.o k);clear m k)
  |(go_at_call 40;refine(N.o X i.o (42 :: 32 :: (D++32 :: (J++[13,10]))) (by have:=M.o;simp;omega)).mono ?_;rintro e w3 ⟨rfl,G,H,K⟩;have P:=V G;have x:=V H;have Q:=V K;clear G H K)
  |fail)
 go_end0
 have d:=i.o
 refine⟨rfl,?_,(d.mono q.o).trans x.o,(uB.of_below d).trans (uB.others Q.o (j.o.below d j.o.lt) x.o.size (fun h=>h.1 rfl) (fun h=>h.2 rfl))⟩
 have y:=P.o
 have S:t++(42 :: 32 :: (D++32 :: (J++[13,10])))=t++([42,32]++D++[32]++J++[13,10]):=zv
 rw[S] at y
 exact y
end
section
open Go.Shelf Go.RowKit
theorem Try.infoMsg:(prog.info? 89).map (fun i=>(i.zero,i.size,i.bytes))=some (some (.agg #[I 0,I 0,RQ none]),3,24):=zQ
theorem KC (w:Oc)(v:Oe)(h:OC Nat)(n:Nat)(xs:Ob Oe)(hs:Sl w 89 3 v h n xs)(h1:∀u∈xs,u.oneCell'=true)(hn:n≤1099511627776)(i:Nat)(hi:i < n) :
  C 46 #[v,I i,I ((i:Int)+1)] w fun e w'=>∃v',e=RR v'∧Sl w' 89 3 v' h (n - 1) (xs.take (i * 3)++xs.drop ((i+1) * 3))∧NH h.toList w w':=by
 obtain⟨X,E,T,G,U⟩:=info_parts Try.infoMsg
 have F:=hs.1
 rcases hs.2 with⟨_,_,h0⟩|⟨b,off,cap,cur,rfl,rfl,hB,hnc,hcm,hcs,htake⟩
 ·omega
 have c:∀j,j < n * 3→w.cell? (Y b (off+j))=xs[j]?:=fun j hj=>by
  exact oY
 obtain⟨Dx,a⟩:∃Dx,Dx=xs.drop ((i+1) * 3):=⟨_,rfl⟩
 have hlen:Dx.length=(n - (i+1)) * 3:=by
  rw[a,O8,F]
  omega
 have S:Ov.wrap ((i:Int)+1)=(i:Int)+1:=Og _ O
 have q1:(0:Int)≤(i:Int):=O
 have q2:(i:Int)≤(i:Int)+1:=O
 have q3:(i:Int)+1≤(n:Int):=O
 have q6:(0:Int)≤(i:Int)+1:=O
 have q4:(n:Int)≤(cap:Int):=O
 have q5:((i:Int)==(i:Int)+1)=false:=pH
 have N:i≤cap:=O
 have Q:i+1≤cap:=O
 clear hs
 obtain⟨A,hA,r⟩:∃A:Addr,(if cap=i+1 then (some ((Y b off):Addr)) else some ⟨b,off+(i+1) * 3,none⟩)=some A∧Z (∀t u,Dx[t]?=some u→w.drew.cell? (A.add t)=some u):=by
  by_cases h:cap=i+1
  ·exact Kh
  ·refine⟨(Y b (off+(i+1) * 3)),ZE,V (fun t u hu=>?_)⟩
   have H:t < (n - (i+1)) * 3:=by
    have:=(OX.1 hu).1
    rwa [hlen] at this
   rw[a,List.getElem?_drop] at hu
   rw[Addr.add_lit,show off+(i+1) * 3+t=off+((i+1) * 3+t) by omega]
   exact(c ((i+1) * 3+t) O).trans hu
 have s1:=V hlen
 have s2:Z (∀u∈Dx,u.oneCell'=true):=V (fun u hu=>by
  rw[a] at hu
  exact h1 u (Re hu))
 have s3:Z (∀t,t < Dx.length→(w.drew.cell? (Y b (off+i * 3+t))).isSome=true∧w.drew.frozen? (Y b (off+i * 3+t))=false):=V (fun t H=>by
  rw[hlen] at H
  refine⟨?_,hB.frozen _⟩
  show (w.cell? _).isSome=true
  rw[O1,c (i * 3+t) O,Ot O]
  rfl)
 obtain⟨d,k⟩:∃d,d=w.drew.setCells b (off+i * 3) Dx:=⟨_,rfl⟩
 have g:NG d b 89 (cur.toList.take (off+i * 3)++Dx++cur.toList.drop (off+i * 3+Dx.length)).toArray:=by
  rw[k]
  exact xL b 89 Dx (off+i * 3) w.drew cur (hB.heap (w':=w.drew) rfl) O
 obtain⟨s,x,y,u4⟩:=xM b Dx (off+i * 3) w.drew
 rw[←k] at s x y u4
 have p:NH [b] w d:=⟨s,x,y,Nat.le_of_eq u4.symm,fun j _ hj=>by
  rw[k]
  exact xY b Dx _ w.drew j vL⟩
 have qd:(cur.toList.take (off+i * 3)++Dx++cur.toList.drop (off+i * 3+Dx.length)).length=cur.size:=by
  exact oX
 obtain⟨f,l⟩:∃f,f=cur.toList.take (off+i * 3)++Dx++cur.toList.drop (off+i * 3+Dx.length):=⟨_,rfl⟩
 rw[←l] at g qd
 have B:i+(n - (i+1))=n - 1:=O
 have M:∀ty,(P4 #[76] ty #[.slice (some (Y b (off+(i+(n - (i+1))) * 3))) (n - (i+(n - (i+1)))) (cap - (i+(n - (i+1))))]).run prog d=.ok (.tuple #[]) (d.setCells b (off+(n - 1) * 3) [I 0,I 0,RQ none]):=fun ty=>by
  rw[B,show n - (n - 1)=1 by omega]
  exact Xl d _ 89 ty (.agg #[I 0,I 0,RQ none]) [I 0,I 0,RQ none] underlying76 (fun W=>by first|rfl|kernel_rfl) rfl xt b (off+(n - 1) * 3) _ (fun j hj=>by
   have P:j < 3:=hj
   rw[g.cell]
   rw[List.getElem?_toArray,Ot O]
   rfl) (fun j hj=>g.frozen _)
 have m:Sl (d.setCells b (off+(n - 1) * 3) [I 0,I 0,RQ none]) 89 3 (RO (some (Y b off)) (i+(n - (i+1))) cap) (some b) (n - 1) (xs.take (i * 3)++Dx):=by
  have D:=xL b 89 [I 0,I 0,RQ none] (off+(n - 1) * 3) d f.toArray g zT
  rw[B]
  refine⟨pF,.inr ⟨b,off,cap,_,rfl,rfl,D,O,hcm,?_,?_⟩⟩
  ·exact oV
  ·have bq:(f.take (off+(n - 1) * 3)).length=off+(n - 1) * 3:=by
    rw[OU,qd]
    omega
   show (List.drop off (f.take (off+(n - 1) * 3)++[I 0,I 0,RQ none]++_)).take ((n - 1) * 3)=xs.take (i * 3)++Dx
   rw[O4,List.drop_append_of_le_length O,List.take_append_of_le_length aT,List.drop_take,Nat.add_sub_cancel_left,List.take_take,Nat.min_self,l]
   have R:(cur.toList.take (off+i * 3)).length=off+i * 3:=by
    rw[OU,PL]
    omega
   exact IM
 obtain⟨J,K,L,y4⟩:=xM b [I 0,I 0,RQ none] (off+(n - 1) * 3) d
 have q:NH [b] w (d.setCells b (off+(n - 1) * 3) [I 0,I 0,RQ none]):=⟨J.trans s,K.trans x,L.trans y,pG,fun j hj hjn=>(xY b _ _ d j (by simpa using hjn)).trans (p.block j hj hjn)⟩
 have uy:=V m
 have Dy:=V q
 have Dz:=V a
 have z:=V k
 clear c a hlen s x y u4 g p qd l k J K L y4 m q B htake
 go_enter func46,ntmps46
 go_wp2_with fail
 go_region_law (first
  |(refine step_append_room rfl (.tmp 22) (.tmp 25) 76 rfl 89 X 3 underlying76 E G b off i cap X9 A (n - (i+1)) (cap - (i+1)) Dx X9 s1.o r.o s2.o O s3.o ?_;rw[←z.o])
  |fail)
 all_goals
  exact pB
theorem p6 (w:Oc)(gv:Nat)(q:xa)(v:yI)(z:NQ)(h:yN w gv q v)(hn:v.l.length≤1099511627776) :
  C 34 #[Y gv 0,.agg (vI z).toArray] w fun e w'=>e=RR (.tuple #[])∧∃q',xc w w' gv q (UV v z.z) q':=by
 obtain⟨b,⟨d,t,u,k,zk,al,a,r⟩,X,zc,zb,zd⟩:=z
 have H:UV v (NQ.z ⟨b,⟨d,t,u,k,zk,al,a,r⟩,X,zc,zb,zd⟩)=⟨v.box,v.l++[⟨b,d,a⟩],max v.had b⟩:=rfl
 rw[H]
 simp only[vI,xV,NQ.m,Qh]
 obtain⟨K,a9⟩:∃K,zk.length=K:=⟨_,rfl⟩
 obtain⟨L,aa⟩:∃L,al.length=L:=⟨_,rfl⟩
 rw[a9,aa]
 obtain⟨n,F⟩:∃n,v.l.length=n:=⟨_,rfl⟩
 rw[F] at hn
 obtain⟨A,c,U,_,_⟩:=h.msgs.form
 rw[F] at U
 obtain⟨i0,hi,aq,ar,au⟩:=info_parts Try.infoMsg
 obtain⟨s,hs⟩:∃s,w.heap.size=s:=⟨_,rfl⟩
 obtain⟨M,j⟩:∃M:Oc,M=((w.alloc (.cells #[I b,I d,I t,Oa u,I k,RO X K zc,RO zb L zd,I a,I r] 85)).alloc (.cells #[I 0] 145)).alloc (.cells #[I b,I d,RQ (some (Y (s+1) 0))] 89):=⟨_,rfl⟩
 have a6:Od w w M:=by
  rw[j]
  exact zj (zt _ _) (zj (zt _ _) (zt _ _))
 have t1:NG M s 85 #[I b,I d,I t,Oa u,I k,RO X K zc,RO zb L zd,I a,I r]:=by
  rw[j,←hs]
  exact((NG.new w _ _).alloc _).alloc _
 have t2:NG M (s+1) 145 #[I 0]:=by
  have E:=(NG.new (w.alloc (.cells #[I b,I d,I t,Oa u,I k,RO X K zc,RO zb L zd,I a,I r] 85)) 145 #[I 0]).alloc (.cells #[I b,I d,RQ (some (Y (s+1) 0))] 89)
  rw[O3,hs] at E
  rw[j]
  exact E
 have t3:NG M (s+2) 89 #[I b,I d,RQ (some (Y (s+1) 0))]:=by
  have E:=NG.new ((w.alloc (.cells #[I b,I d,I t,Oa u,I k,RO X K zc,RO zb L zd,I a,I r] 85)).alloc (.cells #[I 0] 145)) 89 #[I b,I d,RQ (some (Y (s+1) 0))]
  rw[O3,O3,hs] at E
  rw[j]
  exact E
 have T:=Z6 (s+1) 0 0 a M (t2.cell 0) (t2.frozen 0)
 have i:∀f,f=M.setCell (Y (s+1) 0) (I a)→Od w w f∧NG f s 85 #[I b,I d,I t,Oa u,I k,RO X K zc,RO zb L zd,I a,I r]∧NG f (s+1) 145 #[I a]∧NG f (s+2) 89 #[I b,I d,RQ (some (Y (s+1) 0))]:=fun f e=>by
  rw[e]
  exact⟨a6.setCell (by show w.heap.size≤s+1;omega) _,t1.far (p:=⟨s+1,0,none⟩) (by show s≠s+1;omega) _,t2.set 0 _,t3.far (p:=⟨s+1,0,none⟩) (by show s+2≠s+1;omega) _⟩
 rw[j] at T
 rw[j] at i
 have ao:=V T
 have Q:=V i
 have HV:=V h
 have a4:=V U
 have HN:=V F
 have av:gv < s:=by rw[←hs];exact h.blk.lt
 obtain⟨mx,D⟩:∃mx,(if v.had < b then b else v.had)=mx:=⟨_,rfl⟩
 have ap:=fun ats ty W=>VS (P:=prog) ats ty v.had b W
 rw[D] at ap
 have J:max v.had b=mx:=by rw[←D,Int.max_def];split <;> split <;> omega
 rw[J]
 have a2:=V hs
 clear T i h U F a9 aa H j a6 t1 t2 t3 D J
 go_enter func34,ntmps34
 go_upto_region 3 with(first
  |(go_at_call 48;refine ao.o.mono ?_;rintro e f ⟨rfl,ag⟩;obtain⟨a7,k1,k2,k3⟩:=Q.o f ag;have a1:=V a7;have K1:=V k1;have K2:=V k2;have K3:=V k3;clear ag a7 k1 k2 k3)
  |fail)
 have x:=HV.o.later a1.o
 have c1:f.cell? (Y gv 1)=some (RO A n c):=by
  have E:=x.blk.cell 1
  rw[E,←a4.o]
  rfl
 have f1:f.frozen? (Y gv 1)=false:=x.blk.frozen 1
 have m0:f.cell? (Y (s+1+1) 0)=some (I b):=K3.o.cell 0
 have m1:f.cell? (Y (s+1+1) 1)=some (I d):=K3.o.cell 1
 have m2:f.cell? (Y (s+1+1) 2)=some (RQ (some (Y (s+1) 0))):=K3.o.cell 2
 have ae:Sl f 89 3 (RO A n c) q.hl n (zU Yv q.ms):=by
  have E:=x.msgs
  rw[a4.o,HN.o] at E
  exact E
 have an:=V ae
 have a3:=V x
 have B:gv < f.heap.size:=x.blk.lt
 have R:gv∉q.hl.toList:=fun hm=>a3.o.Nx yT
 clear ae x
 go_cut [] (fun wx=>∃q',Z (xc w wx gv q {v with l:=v.l++[⟨b,d,a⟩]} q')∧Z (NG wx s 85 #[I b,I d,I t,Oa u,I k,RO X K zc,RO zb L zd,I a,I r]))
 case first=>
  go_region_law (first
   |(refine ye _ zF (.tmp 23) (.tmp 25) _ zF underlying76 hi aq ar au rfl O (an.o.alloc _) yl f.heap.size #[I b,I d,RQ (some (Y (s+1) 0))] (e':=89) (fr:=(0,0)) (heap_alloc_new f _) 1 1 yl zF xt yV O ?_;intro v2 h2 w9 S g ab;obtain⟨a0,a5,rfl,_,_⟩:=S.form;have e1:w9.cell? (Y gv 1)=some (RO A n c):=(g.cell (p:=⟨gv,1,none⟩) zT R).trans ((Pw _ _ _ B).trans c1);have g1:w9.frozen? (Y gv 1)=false:=(g.frozen (p:=⟨gv,1,none⟩) zT R).trans ((Pn _ _ _ B).trans f1))
   |fail)
  all_goals
   have y:NH q.hl.toList (f.alloc (.cells #[I b,I d,RQ (some (Y (s+1) 0))] 89)) w9:=⟨g.os,g.tape,g.output,g.size,g.block⟩
   have ac:=yN.push (a3.o.later (zt f (.cells #[I b,I d,RQ (some (Y (s+1) 0))] 89))) (w0:=w) (zj a1.o (zt _ _)) HV.o (⟨⟨b,d,a⟩,s+1⟩:bV) (K2.o.alloc _) (by rw[a2.o];show s≤s+1;omega) (v2:=RO a0 (n+1) a5) (h2:=h2) (w':=w9) (by rw[HN.o];exact S) y ab
   have ad:s∉q.hl.toList:=fun hm=>by
    have:=HV.o.lt (xa.Yp yT)
    rw[a2.o] at this
    omega
   have a8:=(((K1.o.alloc (.cells #[I b,I d,RQ (some (Y (s+1) 0))] 89)).N4 y ad)).far (p:=⟨gv,1,none⟩) (by show s≠gv;omega) (RO a0 (n+1) a5)
   have am:=V ac
   have N:=V a8
   clear ac a8 S g y ab ad
   go_wp2_with fail
   go_meet
   exact⟨_,am,N⟩
 case rest=>
  obtain⟨q',HT,N⟩:=hcut
  obtain⟨w5,rfl⟩:∃w5:Oc,w5=wc:=⟨_,rfl⟩
  have h2:w5.cell? (Y gv 2)=some (I v.had):=HT.o.at_.blk.cell 2
  have g2:w5.frozen? (Y gv 2)=false:=HT.o.at_.blk.frozen 2
  have b0:w5.cell? (Y s 0)=some (I b):=N.o.cell 0
  have G:=V (HT.o.trans (HT.o.at_.setHad mx))
  clear c1 f1 m0 m1 m2 B R
  go_upto_region 4 with(fail)
  go_region_law (fail)
  all_goals
   go_wp2_with fail
   go_end0
   first|exact⟨rfl,_,G.o⟩|exact⟨rfl,_,G.o.then (zG _)⟩
end
section
open Go.Shelf Go.RowKit Go.Lib
theorem len9 {l:Ob Oe}(h:l.length=9):∃a b c d e f i j k,l=[a,b,c,d,e,f,i,j,k]:=by
 rcases l with _|⟨a,_|⟨b,_|⟨c,_|⟨d,_|⟨e,_|⟨f,_|⟨i,_|⟨j,_|⟨k,_|⟨u,v⟩⟩⟩⟩⟩⟩⟩⟩⟩⟩ <;> first|exact⟨_,_,_,_,_,_,_,_,_,rfl⟩|(exfalso;simp at h;done)|(exfalso;simp at h;omega)
theorem KX {α:Type}[Inhabited α](enc:α→Ob Oe)(hk:∀x,(enc x).length=9)(p:α→Bool)(g:Nat)(lb:Array Oe)(eg:∀args w,(callFunc g args).run prog w=.ok (.enter g args) w)(b off n c:Nat)(zs:Ob α)(w:Oc)(hp:∀W,Od w w W→∀x∈zs,C g (#[.agg (enc x).toArray]++lb) W fun e w'=>e=RR (.bool (p x))∧Od w w w')(hz:zs.length=n)(hbig:n≤9223372036854775807)(hb:b < w.heap.size)(hc:∀j,j < zs.length→∀i v,(enc zs[j]!)[i]?=some v→w.cell? (Y b (off+j * 9+i))=some v) :
  C 44 #[RO (some (Y b off)) n c,.func (.func g) #[] lb] w fun e w'=>e=RR (I (yU p zs))∧Od w w w':=by
 have a:∀(W:Oc),Od w w W→∀j,j < zs.length→∀i v,(enc zs[j]!)[i]?=some v→W.cell? (Y b (off+j * 9+i))=some v:=fun W hW j hj i v hi=>(hW.cell (p:=⟨b,off+j * 9+i,none⟩) hb).trans (hc j hj i v hi)
 clear hc
 go_enter func44,ntmps44
 go_wp2
 go_loopg [5,8] n (fun gg _ s8 wr=>∃kk:Nat,kk≤n∧n - kk≤gg∧s8=I kk∧Aside (Od w w wr)∧Aside (∀j,j < kk→p zs[j]! =false))
 case atStart=>exact⟨0,OE _,O,rfl,Ok _ w,fun j hj=>absurd hj (Nat.not_lt_zero _)⟩
 case round=>
  obtain⟨kk,t,M,rfl,BW,A⟩:=hrel
  by_cases u:kk < n
  ·have iw:(kk:Int) < (n:Int):=O
   have l2:=a wr BW.out kk O
   have dm:=hp wr BW.out zs[kk]! (Uy O)
   clear a hp
   generalize s:zs[kk]! =y at l2 dm
   have B:Aside (zs[kk]! =y):=s
   clear s
   obtain⟨d,f,h,k,l,m,o,q,r,hv⟩:=len9 (hk y)
   rw[hv] at l2 dm
   have z:wr.cell? (Y b (off+kk * 9))=some d:=l2 0 d rfl
   have D:wr.cell? (Y b (off+kk * 9+1))=some f:=l2 1 f rfl
   have E:wr.cell? (Y b (off+kk * 9+2))=some h:=l2 2 h rfl
   have F:wr.cell? (Y b (off+kk * 9+3))=some k:=l2 3 k rfl
   have G:wr.cell? (Y b (off+kk * 9+4))=some l:=l2 4 l rfl
   have H:wr.cell? (Y b (off+kk * 9+5))=some m:=l2 5 m rfl
   have J:wr.cell? (Y b (off+kk * 9+6))=some o:=l2 6 o rfl
   have K:wr.cell? (Y b (off+kk * 9+7))=some q:=l2 7 q rfl
   have L:wr.cell? (Y b (off+kk * 9+8))=some r:=l2 8 r rfl
   have dm:C g (#[.agg #[d,f,h,k,l,m,o,q,r]]++lb) wr fun e w'=>e=RR (.bool (p y))∧Od w w w':=dm
   exact rJ
  ·exact fN
theorem sZ (a:OC Addr)(c:Nat)(fv:Oe)(w:Oc) :
  C 44 #[RO a 0 c,fv] w fun e w'=>e=RR (I (-1))∧w'=w:=by
 go_enter func44,ntmps44
 exact aN
theorem KW (v:Oe)(S:Ob Nat)(l:Ob NQ)(p:NQ→Bool)(g:Nat)(lb:Array Oe)(eg:∀args w,(callFunc g args).run prog w=.ok (.enter g args) w)(w:Oc)(hr:NN w S 9 v l.length (zU vI l))(hn:l.length≤1099511627776)(hp:∀W,Od w w W→∀x∈l,C g (#[.agg (vI x).toArray]++lb) W fun e w'=>e=RR (.bool (p x))∧Od w w w') :
  C 44 #[v,.func (.func g) #[] lb] w fun e w'=>e=RR (I (yU p l))∧Od w w w':=by
 rcases Nat.eq_zero_or_pos l.length with h0|hpos
 ·obtain rfl:l=[]:=Oi h0
  obtain⟨A,a,rfl,_,_⟩:=hr.form
  refine(sZ A a _ w).mono ?_
  rintro e w' ⟨rfl,rfl⟩
  exact⟨rfl,Ok _ _⟩
 ·obtain⟨b,c,a,rfl,_,_,f,_,d⟩:=hr.at_ hpos
  exact KX vI vV p g lb eg b c l.length a l w hp rfl O f (fun j hj i v hv=>by
   rw[PD l j hj] at hv
   have h:i < 9:=by
    have:=(OX.1 hv).1
    rw[vV] at this
    exact this
   rw[show c+j * 9+i=c+(j * 9+i) by omega,d _ O,yv vV l j i hj h]
   exact hv)
theorem Ja {α:Type}{p:α→Bool}:∀{l:Ob α} {z:α},l.find? p=some z→∃k,∃hk:k < l.length,yU p l=(k:Int)∧l[k]=z
 |x :: r,z,h=>by
  by_cases hx:p x=true
  ·rw[PN hx] at h
   exact⟨0,zv,by simp[yU,hx],O6 h⟩
  ·rw[Pb hx] at h
   obtain⟨k,hk,h1,h2⟩:=Ja h
   refine⟨k+1,yi,?_,h2⟩
   unfold yU
   rw[Om hx,h1,Om O]
   omega
theorem XO {α:Type}{p:α→Bool}{l:Ob α}(h:l.find? p=none):yU p l= -1:=by
 refine UC p l ?_
 rw[List.any_eq_false]
 intro x a
 have:=List.find?_eq_none.1 h x a
 exact this
theorem s6 (m:NL)(B:Nat)(w W:Oc)(z:NQ)(h0:w.cell? (Y B 0)=some (I m.uid))(h1:w.cell? (Y B 1)=some (I m.id))(hlt:B < w.heap.size)(hb:Od w w W) :
  C 45 #[.agg (vI z).toArray,Y B 0] W fun e w'=>e=RR (.bool (N7 m z.z))∧Od W W w':=by
 obtain⟨g,E,v,y,x,A⟩:=z
 obtain⟨c,f,u⟩:=m
 have H:W.cell? (Y B 0)=some (I c):=(hb.cell hlt).trans h0
 have J:W.cell? (Y B 1)=some (I f):=(hb.cell hlt).trans h1
 have d:B < W.heap.size:=OJ hlt hb.size
 have G:=fun o=>Below.heap_alloc W o B d
 have t:B≠W.heap.size:=O
 obtain⟨h,p,q,j,D,l,n,k⟩:=E
 have r:N7 ⟨c,f,u⟩ (NQ.z ⟨g,⟨h,p,q,j,D,l,n,k⟩,v,y,x,A⟩)=(decide (g=c) && decide (h=f)):=rfl
 rw[r]
 simp only[vI,xV,NQ.m,Qh]
 clear h0 h1 hb r
 by_cases b:g=c
 ·have s:(g==c)=true:=by simpa using b
  rw[OS b,Bool.true_and]
  obtain⟨i,a⟩:∃i,decide (h=f)=i:=⟨_,rfl⟩
  have F:(h==f)=i:=by rw[←a];rfl
  rw[a]
  clear a b
  exact GM
 ·have s:(g==c)=false:=by simpa using b
  rw[OD b,Bool.false_and]
  clear b
  exact GM
def rI:Array Oe:=#[I 0,I 0,I 0,RP ⟨#[]⟩,I 0,RO none 0 0,RO none 0 0,I 0,I 0]
def Qi (w:Oc)(l:Ob NQ)(m:NL)(e:Ending)(w':Oc):Prop:=
 e=RR (match l.find? (fun z=>N7 m z.z) with
  |some z=>.tuple #[.agg (vI z).toArray,.bool true]
  |none=>.tuple #[.agg rI,.bool false])∧Od w w w'
theorem iQ (w:Oc)(m:NL)(t b9:Nat)(nv:Oe)(l:Ob NQ)(hc:w.cell? (Y b9 0)=some nv)(hlt:b9 < w.heap.size)(h:uY w nv l)(hn:l.length≤1099511627776) :
  C 43 #[.agg #[I m.uid,I m.id,RQ (some (Y t 0))],Y b9 0] w (Qi w l m):=by
 have eg:∀args w,(callFunc 45 args).run prog w=.ok (.enter 45 args) w:=O9 func45 zQ rfl
 have G:=fun W (u:Od w w W) (h0:W.cell? (Y w.heap.size 0)=some (I m.uid)) (h1:W.cell? (Y w.heap.size 1)=some (I m.id)) (hl:w.heap.size < W.heap.size)=>KW nv [] l (fun z=>N7 m z.z) 45 #[Y w.heap.size 0] eg W (h.rd.below u) hn (fun W2 hb2 x _=>(s6 m w.heap.size W W2 x h0 h1 hl hb2).mono fun _ _ ⟨he,o⟩=>⟨he,zj hb2 o⟩)
 have f:=fun hq=>XO (p:=fun z:NQ=>N7 m z.z) (l:=l) hq
 have g:=fun z hq=>Ja (p:=fun z:NQ=>N7 m z.z) (l:=l) (z:=z) hq
 unfold Qi rI
 obtain⟨r,hr⟩:∃r,yU (fun z:NQ=>N7 m z.z) l=r:=⟨_,rfl⟩
 obtain⟨fo,Q⟩:∃fo,l.find? (fun z=>N7 m z.z)=fo:=⟨_,rfl⟩
 rw[hr] at f g G
 rw[Q] at f g ⊢
 obtain⟨mu,mi,mt⟩:=m
 have F:=V G
 have HT:=V h
 clear G hr Q
 cases fo with
 |none=>
  have a1:=f rfl
  subst a1
  clear f g h
  go_enter func43,ntmps43
  go_wp2_with (first
   |(go_at_call 44;refine(F.out _ (zj (zt _ _) (zt _ _)) zv zv (by simp only[O3];omega)).mono ?_;rintro e c ⟨rfl,o⟩;have a:NG c (w.heap.size+1) 85 #[I 0,I 0,I 0,RP ⟨#[]⟩,I 0,RO none 0 0,RO none 0 0,I 0,I 0]:=NG.below IU o zv;have r0:c.cell? (Y (w.heap.size+1) 0)=some (I 0):=a.cell 0;have a3:c.frozen? (Y (w.heap.size+1) 0)=false:=a.frozen 0;have r1:c.cell? (Y (w.heap.size+1) 1)=some (I 0):=a.cell 1;have a4:c.frozen? (Y (w.heap.size+1) 1)=false:=a.frozen 1;have r2:c.cell? (Y (w.heap.size+1) 2)=some (I 0):=a.cell 2;have a5:c.frozen? (Y (w.heap.size+1) 2)=false:=a.frozen 2;have r3:c.cell? (Y (w.heap.size+1) 3)=some (RP ⟨#[]⟩):=a.cell 3;have a6:c.frozen? (Y (w.heap.size+1) 3)=false:=a.frozen 3;have r4:c.cell? (Y (w.heap.size+1) 4)=some (I 0):=a.cell 4;have a7:c.frozen? (Y (w.heap.size+1) 4)=false:=a.frozen 4;have r5:c.cell? (Y (w.heap.size+1) 5)=some (RO none 0 0):=a.cell 5;have a8:c.frozen? (Y (w.heap.size+1) 5)=false:=a.frozen 5;have r6:c.cell? (Y (w.heap.size+1) 6)=some (RO none 0 0):=a.cell 6;have a9:c.frozen? (Y (w.heap.size+1) 6)=false:=a.frozen 6;have r7:c.cell? (Y (w.heap.size+1) 7)=some (I 0):=a.cell 7;have aa:c.frozen? (Y (w.heap.size+1) 7)=false:=a.frozen 7;have r8:c.cell? (Y (w.heap.size+1) 8)=some (I 0):=a.cell 8;have ab:c.frozen? (Y (w.heap.size+1) 8)=false:=a.frozen 8;have q:=V (zj (zt w _) (zj (zt _ _) o));have B3:=V a;clear o a)
   |fail)
  have hc:NH [w.heap.size+1] c _:=((((((((((NH.refl [w.heap.size+1] c).set (p:=⟨w.heap.size+1,0,none⟩) (.inl zv) (I 0)).set (p:=⟨w.heap.size+1,1,none⟩) (.inl zv) (I 0)).set (p:=⟨w.heap.size+1,2,none⟩) (.inl zv) (I 0)).set (p:=⟨w.heap.size+1,3,none⟩) (.inl zv) (RP ⟨#[]⟩)).set (p:=⟨w.heap.size+1,4,none⟩) (.inl zv) (I 0)).set (p:=⟨w.heap.size+1,5,none⟩) (.inl zv) (RO none 0 0)).set (p:=⟨w.heap.size+1,6,none⟩) (.inl zv) (RO none 0 0)).set (p:=⟨w.heap.size+1,7,none⟩) (.inl zv) (I 0)).set (p:=⟨w.heap.size+1,8,none⟩) (.inl zv) (I 0))
  have u:=q.out.trans (hc.below q.out.size (fun k H=>by rw[OI.1 H];omega))
  refine bodyPost_ret (v:=.tuple #[.agg #[I 0,I 0,I 0,RP ⟨#[]⟩,I 0,RO none 0 0,RO none 0 0,I 0,I 0],.bool false]) ?_ rfl ⟨rfl,u⟩
  simp[results,Tryz.results43,go_sem,r0,r1,r2,r3,r4,r5,r6,r7,r8]
 |some z=>
  obtain⟨k,H,a2,hz⟩:=g z rfl
  subst a2
  obtain⟨b,d,M,hv,_,_,a0,_,N⟩:=h.rd.at_ O
  subst hv
  have s:∀j,j < 9→w.cell? (Y b (d+k * 9+j))=(vI z)[j]?:=fun j hj=>by
   rw[O1,N _ O,yv vV l k j H hj,hz]
  change C 43 _ w fun e w'=>e=RR (.tuple #[.agg (vI z).toArray,.bool true])∧Od w w w'
  obtain⟨zu,⟨zi,D,E,y,zk,ac,B,A⟩,U,zc,X,zd⟩:=z
  simp only[vI,xV,NQ.m,Qh] at s ⊢
  obtain⟨J,S⟩:∃J,zk.length=J:=⟨_,rfl⟩
  obtain⟨K,T⟩:∃K,ac.length=K:=⟨_,rfl⟩
  rw[S,T] at s ⊢
  have i:Z (∀W,Od w w W→∀j,j < 9→W.cell? (Y b (d+k * 9+j))=([I zu,I zi,I D,RP ⟨E.toArray⟩,I y,RO U J zc,RO X K zd,I B,I A]:Ob Oe)[j]?):=V (fun W u j hj=>(u.cell (p:=⟨b,d+k * 9+j,none⟩) a0).trans (s j hj))
  have L:=V (show ∀W,Od w w W→W.cell? (Y b9 0)=some (RO (some (Y b d)) l.length M) from fun W u=>(u.cell (p:=⟨b9,0,none⟩) hlt).trans hc)
  obtain⟨n,R⟩:∃n,l.length=n:=⟨_,rfl⟩
  rw[R] at F L hc H hn
  have ae:(0:Int)≤(k:Int):=O
  have ag:(k:Int) < (n:Int):=O
  have ad:¬(k:Int) < 0:=O
  have P:∃c2,M=c2:=⟨_,rfl⟩
  clear f g h HT N s hz R P eg S T
  go_enter func43,ntmps43
  go_wp2_with (first
   |(go_at_call 44;refine(F.out _ (zj (zt _ _) (zt _ _)) zv zv (by simp only[O3];omega)).mono ?_;rintro e c ⟨rfl,o⟩;have a:NG c (w.heap.size+1) 85 #[I 0,I 0,I 0,RP ⟨#[]⟩,I 0,RO none 0 0,RO none 0 0,I 0,I 0]:=NG.below IU o zv;have r0:c.cell? (Y (w.heap.size+1) 0)=some (I 0):=a.cell 0;have a3:c.frozen? (Y (w.heap.size+1) 0)=false:=a.frozen 0;have r1:c.cell? (Y (w.heap.size+1) 1)=some (I 0):=a.cell 1;have a4:c.frozen? (Y (w.heap.size+1) 1)=false:=a.frozen 1;have r2:c.cell? (Y (w.heap.size+1) 2)=some (I 0):=a.cell 2;have a5:c.frozen? (Y (w.heap.size+1) 2)=false:=a.frozen 2;have r3:c.cell? (Y (w.heap.size+1) 3)=some (RP ⟨#[]⟩):=a.cell 3;have a6:c.frozen? (Y (w.heap.size+1) 3)=false:=a.frozen 3;have r4:c.cell? (Y (w.heap.size+1) 4)=some (I 0):=a.cell 4;have a7:c.frozen? (Y (w.heap.size+1) 4)=false:=a.frozen 4;have r5:c.cell? (Y (w.heap.size+1) 5)=some (RO none 0 0):=a.cell 5;have a8:c.frozen? (Y (w.heap.size+1) 5)=false:=a.frozen 5;have r6:c.cell? (Y (w.heap.size+1) 6)=some (RO none 0 0):=a.cell 6;have a9:c.frozen? (Y (w.heap.size+1) 6)=false:=a.frozen 6;have r7:c.cell? (Y (w.heap.size+1) 7)=some (I 0):=a.cell 7;have aa:c.frozen? (Y (w.heap.size+1) 7)=false:=a.frozen 7;have r8:c.cell? (Y (w.heap.size+1) 8)=some (I 0):=a.cell 8;have ab:c.frozen? (Y (w.heap.size+1) 8)=false:=a.frozen 8;have q:=V (zj (zt w _) (zj (zt _ _) o));have B3:=V a;have y9:=L.out c q.out;have d0:c.cell? (Y b (d+k * 9))=some (I zu):=i.out c q.out 0 O;have d1:c.cell? (Y b (d+k * 9+1))=some (I zi):=i.out c q.out 1 O;have d2:c.cell? (Y b (d+k * 9+2))=some (I D):=i.out c q.out 2 O;have d3:c.cell? (Y b (d+k * 9+3))=some (RP ⟨E.toArray⟩):=i.out c q.out 3 O;have d4:c.cell? (Y b (d+k * 9+4))=some (I y):=i.out c q.out 4 O;have d5:c.cell? (Y b (d+k * 9+5))=some (RO U J zc):=i.out c q.out 5 O;have d6:c.cell? (Y b (d+k * 9+6))=some (RO X K zd):=i.out c q.out 6 O;have d7:c.cell? (Y b (d+k * 9+7))=some (I B):=i.out c q.out 7 O;have d8:c.cell? (Y b (d+k * 9+8))=some (I A):=i.out c q.out 8 O;clear o a)
   |fail)
  have hc:NH [w.heap.size+1] c _:=((((((((((NH.refl [w.heap.size+1] c).set (p:=⟨w.heap.size+1,0,none⟩) (.inl zv) (I zu)).set (p:=⟨w.heap.size+1,1,none⟩) (.inl zv) (I zi)).set (p:=⟨w.heap.size+1,2,none⟩) (.inl zv) (I D)).set (p:=⟨w.heap.size+1,3,none⟩) (.inl zv) (RP ⟨E.toArray⟩)).set (p:=⟨w.heap.size+1,4,none⟩) (.inl zv) (I y)).set (p:=⟨w.heap.size+1,5,none⟩) (.inl zv) (RO U J zc)).set (p:=⟨w.heap.size+1,6,none⟩) (.inl zv) (RO X K zd)).set (p:=⟨w.heap.size+1,7,none⟩) (.inl zv) (I B)).set (p:=⟨w.heap.size+1,8,none⟩) (.inl zv) (I A))
  have u:=q.out.trans (hc.below q.out.size (fun k H=>by rw[OI.1 H];omega))
  refine bodyPost_ret (v:=.tuple #[.agg #[I zu,I zi,I D,Oa E,I y,RO U J zc,RO X K zd,I B,I A],.bool true]) ?_ rfl ⟨rfl,u⟩
  simp[results,Tryz.results43,go_sem,r0,r1,r2,r3,r4,r5,r6,r7,r8]
end
end Go.Proofs.YtnofkliaofgiaaaGreatDoor
