/-
  The library's DeleteFunc over a slice of members of the call's own, with whatever closure. The library's Grow of a nil slice of numbers; Concat of two slices of numbers. The store's Place where it refuses ahead of any work. The store's Place where the clock, or a mailbox's numbers, are at their end.
-/
import Derived.Test.YtnofkliaofgiaaaGreatDoorGQ
import Derived.Test.YtnofkliaofgiaaaGreatDoorGD
import Derived.Lib.SliceRun
import Derived.Lib.AppendZerosOnto
set_option maxRecDepth 100000
set_option maxHeartbeats 8000000
open Go.Proofs.Tryz
open Array renaming length_toList→PL
open Exists renaming intro→OA
open Go renaming Program→Pv,TypeId→Pa,Value→Oe,World→Oc
open Go.Builtin renaming clear_→P4,zeroCells→PT
open Go.Ending renaming returned→RR
open Go.IntKind renaming i64→Ov
open Go.IntWalk renaming i64_in→Og
open Go.Proofs renaming enters_of→O9
open Go.RowKit renaming Below→Od
open Go.RowKit.Below renaming refl→Ok
open Go.Value renaming slice→RO,string→RP,cells→RM,int→P5
open Go.Value.slice renaming inj→OM,injEq→PH
open Go.World renaming block_lt_of_cell?→OH,size_alloc→O3
open List renaming append_assoc→O4,getElem?_eq_getElem→Ot,getElem?_eq_some_iff→OX,getElem_mem→Oj,getElem_set_self→Ph,length_append→Oo,length_cons→OT,length_drop→O8,length_map→Ow,length_set→Pd,length_take→OU,map_append→OQ,mem_filter→OZ,mem_map→OL,mem_map_of_mem→OV,replicate→Pi,size_toArray→PC,take_of_length_le→Ou,take_succ_eq_append_getElem→Oh
open Nat renaming add_assoc→O1,le_refl→Oq,le_trans→Ol,zero_le→OE
open Option.some renaming inj→O6,injEq→Pk
open _root_ renaming List→Ob,Option→OC,if_neg→Om,if_pos→OG
namespace Go.Proofs.YtnofkliaofgiaaaGreatDoor
attribute [local go_sem ↓] Go.wp_at_zero Go.wp_at_succ
section
open Go.Shelf Go.RowKit Go.Lib
theorem fC {P:Pv}(w:Oc)(t e ty:Pa)(ht:P.underlying t=some (.slice e))(hv:∀w,(zeroValue e).run P w=.ok (.agg #[I 0,I 0]) w)(b o n c:Nat)(hn:0 < n)(hc:∀j,j < n * 2→(w.cell? (Y b (o+j))).isSome=true)(hf:∀j,j < n * 2→w.frozen? (Y b (o+j))=false) :
  (P4 #[t] ty #[RO (some (Y b o)) n c]).run P w=.ok (.tuple #[]) (w.setCells b o (Pi (n * 2) (I 0))):=by
 have g:(PT (RM (.agg #[I 0,I 0])) n).toList=Pi (n * 2) (P5 .i64 0):=by
  apply List.ext_getElem
  ·simp[PT,RM]
  ·intro i k l
   have d:i % 2=0∨i % 2=1:=O
   rcases d with d|d <;> simp[PT,RM,d]
 have a:=run_storeCells_cells (P:=P) b o (Pi (n * 2) (P5 .i64 0)) 0 w vM (by simpa using hf) (by intro u h;rw[(List.mem_replicate.1 h).2];rfl)
 simp only[Nat.add_zero] at a
 have f:n≠0:=O
 simp[P4,run_underlying ht,hv,g,a,f]
structure Yg (w wr:Oc)(v:Oe)(hh:OC Nat)(l:Ob (Int×Int))(p:Int×Int→Bool)(j i:Nat)(cur:Ob (Int×Int)):Prop where
 sl:Sl wr 153 2 v hh l.length (zU yC cur)
 len:cur.length=l.length
 i_:i=((l.take j).filter (fun x=>!p x)).length
 lt:i < j
 done:cur.take i=(l.take j).filter (fun x=>!p x)
 rest:cur.drop j=l.drop j
 N4:NH hh.toList w wr
theorem Yg.skip {w wr wr':Oc}{v:Oe}{hh:OC Nat}{l:Ob (Int×Int)}{p:Int×Int→Bool}{j i:Nat}{cur:Ob (Int×Int)}(h:Yg w wr v hh l p j i cur)(hj:j < l.length)(hp:p l[j]=true)(hb:Od wr wr wr'):Yg w wr' v hh l p (j+1) i cur:=by
 exact Mi
theorem sK (l:Ob (Int×Int))(i:Nat)(hi:i < l.length)(y:Int×Int):((zU yC l).set (i * 2) (I y.1)).set (i * 2+1) (I y.2)=zU yC (l.set i y):=by
 have b:=ub yG l i 0 hi O (I y.1) (y.1,l[i].2) rfl
 have a:=ub yG (l.set i (y.1,l[i].2)) i 1 vq O (I y.2) y (by simp[yC])
 rw[List.set_set] at a
 rw[←a,←b]
 rfl
theorem Yg.keep {w wr wr':Oc}{b off n cap:Nat}{hh:OC Nat}{l:Ob (Int×Int)}{p:Int×Int→Bool}{j i:Nat}{cur:Ob (Int×Int)}(h:Yg w wr (RO (some (Y b off)) n cap) hh l p j i cur)(hhb:hh=some b)(hn:l.length=n)(hj:j < l.length)(hp:p l[j]=false)(hb:Od wr wr wr') :
  Yg w ((wr'.setCell (Y b (off+i * 2)) (I l[j].1)).setCell (Y b (off+i * 2+1)) (I l[j].2)) (RO (some (Y b off)) n cap) hh l p (j+1) (i+1) (cur.set i l[j]):=by
 have h1:(l.take (j+1)).filter (fun x=>!p x)=(l.take j).filter (fun x=>!p x)++[l[j]]:=by
  rw[Oh hj,List.filter_append]
  simp[hp]
 have c:=h.lt
 have a:=h.len
 subst hn
 refine⟨?_,by rw[Pd];exact a,?_,O,?_,?_,?_⟩
 ·have h2:=((h.sl.keep (w':=wr') (fun k hk=>hb.block k (h.sl.lt k hk))).store (i * 2) (I l[j].1)).store (i * 2+1) (I l[j].2)
  rw[sK cur i O l[j],←O1] at h2
  exact h2
 ·rw[h1,Oo,←h.i_]
  rfl
 ·exact Nq
 ·exact GD
 ·exact((h.N4.trans (NH.of_below hb hh.toList) (fun k hk=>.inl hk)).set (.inl (by rw[hhb];simp)) _).set (.inl (by rw[hhb];simp)) _
theorem cG:∀(l:Ob (Int×Int)) (i:Nat),(zU yC l).take (i * 2)=zU yC (l.take i)
 |[],i=>X7
 |a :: r,0=>X7
 |a :: r,i+1=>by
  show (yC a++zU yC r).take ((i+1) * 2)=yC a++zU yC (r.take i)
  rw[←cG r i,Nat.add_mul,Nat.one_mul,Nat.add_comm,←yG a,List.take_length_add_append]
theorem Yg.cut {w wr:Oc}{b off n cap:Nat}{hh:OC Nat}{l:Ob (Int×Int)}{p:Int×Int→Bool}{i:Nat}{cur:Ob (Int×Int)}(h:Yg w wr (RO (some (Y b off)) n cap) hh l p n i cur)(hhb:hh=some b)(hn:l.length=n) :
  Sl (wr.setCells b (off+i * 2) (Pi ((n - i) * 2) (I 0))) 153 2 (RO (some (Y b off)) i cap) hh (l.filter fun x=>!p x).length (zU yC (l.filter fun x=>!p x))∧NH hh.toList w (wr.setCells b (off+i * 2) (Pi ((n - i) * 2) (I 0))):=by
 subst hn
 have j:=h.lt
 have f:=h.done
 have d:=h.i_
 rw[Ou (Oq _)] at f d
 rcases h.sl.2 with⟨_,hv,_⟩|⟨b',off',cap',c,hh',hv,hB,hnc,hcm,hcs,ht⟩
 ·cases hv
 simp only[PH,Pk,Addr.mk.injEq,and_true,true_and] at hv
 obtain⟨⟨rfl,rfl⟩,rfl⟩:=hv
 have a:=xL b 153 (Pi ((l.length - i) * 2) (I 0)) (off+i * 2) wr c hB zT
 obtain⟨m,o,q,r⟩:=xM b (Pi ((l.length - i) * 2) (P5 .i64 0)) (off+i * 2) wr
 refine⟨?_,m.trans h.N4.os,o.trans h.N4.tape,q.trans h.N4.output,by rw[r];exact h.N4.size,fun k hk hn=>(xY b _ _ wr k (fun e=>hn (by rw[hhb,e];simp))).trans (h.N4.block k hk hn)⟩
 rw[←d]
 refine⟨?_,.inr ⟨b,off,cap,_,hhb,rfl,a,O,hcm,?_,?_⟩⟩
 ·rw[xW yG,←d]
 ·exact FM
 ·have bq:(c.toList.take (off+i * 2)).length=off+i * 2:=by
   rw[OU,PL]
   omega
  show (List.drop off (c.toList.take (off+i * 2)++Pi ((l.length - i) * 2) (I 0)++_)).take (i * 2)=_
  rw[O4,List.drop_append_of_le_length O,List.take_append_of_le_length aT,List.drop_take,Nat.add_sub_cancel_left,List.take_take,Nat.min_self]
  have g:(c.toList.drop off).take (i * 2)=((c.toList.drop off).take (l.length * 2)).take (i * 2):=by
   rw[List.take_take,Nat.min_eq_left O]
  rw[g,ht,cG,f]
theorem KB (v:Oe)(hh:OC Nat)(l:Ob (Int×Int))(p:Int×Int→Bool)(g:Nat)(lb:Array Oe)(eg:∀args w,(callFunc g args).run prog w=.ok (.enter g args) w)(w:Oc)(hs:Sl w 153 2 v hh l.length (zU yC l))(hn:l.length≤1099511627776)(hp:∀W,NH hh.toList w W→∀x∈l,C g (#[.agg (yC x).toArray]++lb) W fun e w'=>e=RR (.bool (p x))∧Od W W w') :
  C 96 #[v,.func (.func g) #[] lb] w fun e w'=>∃v',e=RR v'∧Sl w' 153 2 v' hh (l.filter fun x=>!p x).length (zU yC (l.filter fun x=>!p x))∧NH hh.toList w w':=by
 have h:=qR v [] l p g lb eg w (hs.reads [] zv) hn (fun W hb x hx=>(hp W (NH.of_below hb _) x hx).mono fun e w' ⟨h1,h2⟩=>⟨h1,zj hb h2⟩)
 rcases VQ p l with⟨h1,h2⟩|⟨a,x,r,h1,h2,h3,h4⟩
 ·have hf:(l.filter fun x=>!p x)=l:=by
   exact G1
  rw[hf]
  rw[h2] at h
  have HS:=V hs
  clear hp h1 h2 hf hs
  go_enter func96,ntmps96
  go_wp2_with (first
   |(go_at_call 163;refine h.mono ?_;rintro e w1 ⟨rfl,D⟩;have bg:=V D;clear h D)
   |fail)
  exact G0
 ·rw[h4] at h
  have H:0 < l.length:=by rw[h1,Oo,OT];omega
  obtain⟨b,c,cap,P,hv,a2,ab,a9,_⟩:=hs.at_ H
  subst hv
  obtain⟨n,ou⟩:∃n,l.length=n:=⟨_,rfl⟩
  obtain⟨k,hk⟩:∃k,a.length=k:=⟨_,rfl⟩
  have an:k < n:=by rw[←ou,h1,←hk];simp
  rw[hk] at h
  have Gb:a.filter (fun x=>!p x)=a:=by
   rw[List.filter_eq_self]
   intro y hy
   simp[h3 y hy]
  have S:Yg w w (RO (some (Y b c)) n cap) hh l p (k+1) k l:=by
   exact MH
  have am:((k:Int)== -1)=false:=by first|(simp;done)|(simp;omega)
  have ao:Ov.wrap ((k:Int)+1)=(k:Int)+1:=Og _ O
  have HS:=V hs
  have HP:=V hp
  have m:=V S
  have ai:=V ou
  have K:=V P
  rw[ou] at hn a2 h
  rw[ou]
  clear h1 h2 h3 h4 Gb S hs hp ou P H hk
  go_enter func96,ntmps96
  go_wp2_with (first
   |(go_at_call 163;refine h.mono ?_;rintro e w1 ⟨rfl,D⟩;have bg:=V D;clear h D)
   |fail)
  have X:Z (Yg w w1 (RO (some (Y b c)) n cap) hh l p (k+1) k l):=V ⟨m.o.sl.keep (fun b2 hb2=>bg.o.block b2 (m.o.sl.lt b2 hb2)),m.o.len,m.o.i_,m.o.lt,m.o.done,m.o.rest,NH.of_below bg.o _⟩
  go_loopw [5,6] (fun si sj wr=>∃(i j:Nat) (cur:Ob (Int×Int)),j≤n∧i < j∧si=I i∧sj=I j∧Z (Yg w wr (RO (some (Y b c)) n cap) hh l p j i cur)) (fun _ sj _=>n - (intOf sj).toNat)
  case atStart=>exact⟨k,k+1,l,O,O,rfl,zE,X⟩
  case round=>
   obtain⟨i,j,cur,ag,ad,rfl,rfl,HR⟩:=hrel
   by_cases af:j < n
   ·have Q:(j:Int) < (n:Int):=O
    have hj2:j < l.length:=vN
    obtain⟨y,hy⟩:∃y,l[j]=y:=⟨_,rfl⟩
    have E:cur[j]?=some y:=by
     exact FJ
    obtain⟨b',T,L,_,F,_,_,_,d⟩:=HR.o.sl.at_ Vb
    have s:=(OM F).1
    injection s with s
    injection s with e1 e2
    subst e1 e2
    have N:=HR.o.len
    have J:cur[j]' O=y:=by
     rw[Ot O] at E
     exact O6 E
    obtain⟨A,B⟩:=y
    have cj:wr.cell? (Y b (c+j * 2))=some (I A):=by
     have h1:=(d (j * 2) O).1
     have h2:=yv yG cur j 0 O O
     rw[Nat.add_zero] at h2
     rw[h1,h2,J]
     rfl
    have a5:wr.cell? (Y b (c+j * 2+1))=some (I B):=by
     have h1:=(d (j * 2+1) O).1
     have h2:=yv yG cur j 1 O O
     rw[O1,h1,h2,J]
     rfl
    have a1:(zU yC cur).length=n * 2:=by rw[xW yG,HR.o.len,ai.o]
    obtain⟨U,R⟩:∃U,wr.cell? (Y b (c+i * 2))=some U:=by
     refine⟨_,(d (i * 2) O).1.trans (Ot ?_)⟩
     omega
    obtain⟨ap,G⟩:∃U,wr.cell? (Y b (c+i * 2+1))=some U:=by
     rw[O1]
     refine⟨_,(d (i * 2+1) O).1.trans (Ot ?_)⟩
     omega
    have ci:=R
    have a0:=G
    have fi:=(d (i * 2) O).2
    have M:=(d (i * 2+1) O).2
    rw[←O1] at M
    have f:=HP.o (wr.alloc (.cells #[I A,I B] 153)) (HR.o.N4.alloc _) l[j] (Oj hj2)
    rw[hy] at f
    have f:C g (#[.agg #[I A,I B]]++lb) (wr.alloc (.cells #[I A,I B] 153)) fun e w'=>e=RR (.bool (p (A,B)))∧Od (wr.alloc (.cells #[I A,I B] 153)).heap.size (wr.alloc (.cells #[I A,I B] 153)) w':=f
    have ae:Ov.wrap ((i:Int)+1)=(i:Int)+1:=Og _ O
    have al:Ov.wrap ((j:Int)+1)=(j:Int)+1:=Og _ O
    have ac:(i:Int) < (n:Int):=O
    have HY:=V hy
    have u:b < wr.heap.size:=OH _ _ cj
    have a3:b < (wr.alloc (.cells #[I A,I B] 153)).heap.size:=by rw[O3];omega
    clear d F E hy R G J a1 N
    cases hq:p (A,B) with
    |true=>
     rw[hq] at f
     go_wp2_with (go_at_fn g;refine f.mono ?_;rintro e w4 ⟨rfl,q⟩;have ah:=V (zj (zt wr _) q);clear f q)
     exact MU
    |false=>
     rw[hq] at f
     go_wp2_with (go_at_fn g;refine f.mono ?_;rintro e w4 ⟨rfl,q⟩;have z:=zj (zt wr (.cells #[I A,I B] 153)) q;have a4:=(z.cell (p:=⟨b,c+i * 2,none⟩) u).trans ci;have a7:=(Zk z (p:=⟨b,c+i * 2,none⟩) u).trans fi;have a6:=(z.cell (p:=⟨b,c+i * 2+1,none⟩) u).trans a0;have a8:=(Zk z (p:=⟨b,c+i * 2+1,none⟩) u).trans M;have v0:w4.cell? (Y wr.heap.size 0)=some (I A):=(q.cell (by rw[O3];simp)).trans ((NG.new wr 153 #[I A,I B]).cell 0);have v1:w4.cell? (Y wr.heap.size 1)=some (I B):=(q.cell (by rw[O3];simp)).trans ((NG.new wr 153 #[I A,I B]).cell 1);have ah:=V z;clear f q z)
     have l8:=HR.o.keep K.o ai.o hj2 (by rw[HY.o];exact hq) ah.o
     rw[HY.o] at l8
     simp only at l8
     exact M2
   ·have Q:¬(j:Int) < (n:Int):=O
    obtain rfl:j=n:=O
    obtain⟨Cn,Cm⟩:=HR.o.cut K.o ai.o
    have Gc:∀t,t < (j - i) * 2→(wr.cell? (Y b (c+i * 2+t))).isSome=true∧wr.frozen? (Y b (c+i * 2+t))=false:=fun t ht=>by
     obtain⟨b',T,L,_,F,_,_,_,d⟩:=HR.o.sl.at_ Vb
     have s:=(OM F).1
     injection s with s
     injection s with e1 e2
     subst e1 e2
     obtain⟨z1,z2⟩:=d (i * 2+t) Vb
     rw[←O1] at z1 z2
     refine⟨?_,z2⟩
     rw[z1,Ot (by rw[xW yG,HR.o.len,ai.o];omega)]
     rfl
    have aa:∀ty,(P4 #[81] ty #[.slice (some (Y b (c+i * 2))) (j - i) (cap - i)]).run prog wr=.ok (.tuple #[]) (wr.setCells b (c+i * 2) (Pi ((j - i) * 2) (I 0))):=fun ty=>
     fC wr _ 153 ty underlying81 (fun W=>by first|rfl|kernel_rfl) b (c+i * 2) (j - i) (cap - i) O (fun t ht=>(Gc t ht).1) (fun t ht=>(Gc t ht).2)
    exact Ms
theorem Try.infoInt9:(prog.info? 3).map (fun i=>(i.zero,i.size,i.bytes))=some (some (I 0),1,8):=zQ
theorem mS (n:Nat)(hn:n≤1099511627776)(w:Oc):C 165 #[RO none 0 0,I n] w fun e w'=>∃v h,e=RR v∧Sl w' 3 1 v h 0 []∧(∀b,h=some b→w.heap.size≤b)∧Od w w w':=by
 rcases Nat.eq_zero_or_pos n with h0|hpos
 ·subst h0
  go_enter func165,ntmps165
  go_wp2_with fail
  go_ret
  exact⟨_,none,rfl,Sl.nil _ _ _,fun b hb=>(by cases hb),Ok _ _⟩
 ·obtain⟨r,t,m,p,i⟩:=info_parts Try.infoInt9
  have u:¬((n:Int) < 0):=O
  have x:Ov.wrap (n:Int)=(n:Int):=Og _ O
  have y:(0:Int) < (n:Int):=O
  have c:∀ty,(Builtin.append_ #[35,3] ty #[RO none 0 0,I (n:Int)]).run prog w=
    .ok (RO (some (Y w.heap.size 0)) n (grownCap w n 0 3)) (w.drew.alloc (.cells ((([]:Ob Oe).toArray++PT (P5 .i64 0).cells n++PT (P5 .i64 0).cells (grownCap w n 0 3 - n))) 3)):=fun ty=>by
   have h:=Lib.run_append_grow_zeros (P:=prog) w 35 3 ty 3 r (I 0) .i64 .i64 underlying35 underlying3 t m none 0 0 [] (run_firstCells_none w.drew r.size 0 0 0) n hpos (by rw[p];decide) O O (by rw[i];omega) (growslice_fits O (by rw[i];omega))
   simp only[Nat.zero_add] at h
   exact h
  have l:n≤grownCap w n 0 3:=grownCap_ge w _ _ _
  have f:grownCap w n 0 3≤maxLen:=grownCap_le_maxLen w n 0 3 yV
  obtain⟨G,q⟩:∃G,G=grownCap w n 0 3:=⟨_,rfl⟩
  rw[←q] at c l f
  obtain⟨d,a⟩:∃d:Array Oe,d=([]:Ob Oe).toArray++PT (P5 .i64 0).cells n++PT (P5 .i64 0).cells (G - n):=⟨_,rfl⟩
  rw[←a] at c
  have g:d.size=G:=by
   rw[a]
   simp[PT,RM]
   omega
  have k:=V g
  have j:=V f
  have s:(0:Int)≤(G:Int):=O
  clear q a g
  go_enter func165,ntmps165
  go_wp2_with (at_builtin;refine Lib.wpList_append_run _ rfl _ _ _ _ rfl _ _ rfl rfl _ _ (c _) ?_)
  go_ret
  refine⟨_,rfl,some w.heap.size,⟨rfl,.inr ⟨w.heap.size,0,G,d,rfl,rfl,NG.new w.drew 3 d,OE _,j.o,by rw[k.o];omega,zv⟩⟩,fun b hb=>by injection hb with hb;omega,?_⟩
  exact zj (zG w) (zt w.drew _)
def NZ (l1 l2:Ob Int):Nat→Ob Int
 |0=>[]
 |1=>l1
 |_=>l1++l2
structure gU (w wr:Oc)(l1 l2:Ob Int)(i:Nat)(v:Oe):Prop where
 below:Od w w wr
 o:∃h,Sl wr 3 1 v h (NZ l1 l2 i).length ((NZ l1 l2 i).map yJ)∧∀b,h=some b→w.heap.size≤b
theorem gU.next {w wr w':Oc}{l1 l2 l3:Ob Int}{i:Nat}{v':Oe}{h h':OC Nat}{n:Nat}(hb:Od w w wr)(hf:∀b,h=some b→w.heap.size≤b)(hs:Sl w' 3 1 v' h' n ((NZ l1 l2 i).map yJ++l3.map yJ))(hn:n=(NZ l1 l2 (i+1)).length)(hc:NH h.toList wr w')(ho:h'=h∨∃g,h'=some g∧wr.heap.size≤g)(he:NZ l1 l2 (i+1)=NZ l1 l2 i++l3):gU w w' l1 l2 (i+1) v':=by
 subst hn
 refine⟨hb.trans (hc.below hb.size (fun k hk=>hf k yi)),h',?_,fun b hb2=>?_⟩
 ·have a:=hs
  rw[←OQ,←he] at a
  exact a
 ·rcases ho with a|⟨g,a,h2⟩
  ·exact hf b (by rw[←a];exact hb2)
  ·rw[a] at hb2
   injection hb2 with hb2
   have:=hb.size
   omega
theorem iL (l:Ob Int):∀u∈l.map yJ,u.oneCell'=true:=by
 intro u a
 obtain⟨x,_,rfl⟩:=OL.1 a
 rfl
theorem Kw (A1 A2:Addr)(c1 c2:Nat)(l1 l2:Ob Int)(w w0:Oc)(B:Nat)(hb0:Od w w w0)(hbk:NG w0 B 35 #[RO (some A1) l1.length c1,RO (some A2) l2.length c2])(h1:NN w [] 1 (RO (some A1) l1.length c1) l1.length (l1.map yJ))(h2:NN w [] 1 (RO (some A2) l2.length c2) l2.length (l2.map yJ))(hn1:l1.length≤4294967296)(hn2:l2.length≤4294967296) :
  C 101 #[RO (some (Y B 0)) 2 2] w0 fun e w'=>∃v h,e=RR v∧Sl w' 3 1 v h (l1++l2).length ((l1++l2).map yJ)∧(∀b,h=some b→w.heap.size≤b)∧Od w w w':=by
 obtain⟨i0,hi,T,U,X⟩:=info_parts Try.infoInt9
 obtain⟨r,g⟩:∃r,l1.length=r:=⟨_,rfl⟩
 obtain⟨t,k⟩:∃t,l2.length=t:=⟨_,rfl⟩
 have x:∀W:Oc,Od w w W→∀j u,(l1.map yJ)[j]?=some u→W.cell? (A1.add j)=some u:=fun W hb j u hu=>by
  have hj:j < l1.length:=by
   have:=(OX.1 hu).1
   simpa using this
  obtain⟨b,a5,a1,hv,_,_,af,_,aj⟩:=h1.at_ O
  exact FC
 have y:∀W:Oc,Od w w W→∀j u,(l2.map yJ)[j]?=some u→W.cell? (A2.add j)=some u:=fun W hb j u hu=>by
  have hj:j < l2.length:=by
   have:=(OX.1 hu).1
   simpa using this
  obtain⟨b,a5,a1,hv,_,_,af,_,aj⟩:=h2.at_ O
  exact FC
 rw[g] at hn1 hbk
 rw[k] at hn2 hbk
 have F:=fun W=>mS (r+t) O W
 have J:=V x
 have K:=V y
 have A:=V g
 have M:=V k
 have c:=V hb0
 have d:=V hbk
 obtain⟨ns,a7,l⟩:∃ns:Nat,(r:Int)+(t:Int)=(ns:Int)∧ns=r+t:=⟨r+t,O,rfl⟩
 rw[←l] at F
 have a3:ns≤8589934592:=O
 have a6:=V l
 have a0:=V F
 clear x y g k hb0 hbk h1 h2 l F
 have d0:w0.cell? (Y B 0)=some (RO (some A1) r c1):=d.o.cell 0
 have d1:w0.cell? (Y B 1)=some (RO (some A2) t c2):=d.o.cell 1
 go_enter func101,ntmps101
 go_wp2_with fail
 go_loopw [3,11] (fun sz iv wr=>∃i:Nat,i≤2∧iv=I i∧sz=I (if i=0 then 0 else if i=1 then (r:Int) else (ns:Int))∧wr=w0) (fun _ iv _=>2 - (intOf iv).toNat)
 case atStart=>exact⟨0,O,rfl,rfl,rfl⟩
 case round=>
  obtain⟨i,a2,rfl,rfl,a4⟩:=hrel
  subst a4
  have h3:i=0∨i=1∨i=2:=O
  rcases h3 with rfl|rfl|rfl
  ·go_wp2_with fail
   exact⟨⟨1,O,rfl,rfl,trivial⟩,by simp[intOf]⟩
  ·go_wp2_with fail
   exact⟨⟨2,O,rfl,rfl,trivial⟩,by simp[intOf]⟩
  ·go_wp2_with (first
    |(go_at_call 165;refine(a0.o _).mono ?_;rintro e w1 ⟨v1,h1,rfl,R,P,N⟩;have L:Z (gU wr w1 l1 l2 0 v1):=V ⟨N,h1,R,P⟩;clear R P N)
    |fail)
   obtain⟨w0,S⟩:∃w0:Oc,w0=wr:=⟨_,rfl⟩
   rw[←S] at L d0 d1 d c
   clear S
   go_loopw [6,27] (fun v iv wr=>∃(i:Nat) (v':Oe),i≤2∧iv=I i∧v=v'∧Z (gU w0 wr l1 l2 i v')) (fun _ iv _=>2 - (intOf iv).toNat)
   case atStart=>exact⟨0,v1,O,rfl,rfl,L⟩
   case round=>
   obtain⟨i,v',a2,rfl,rfl,q⟩:=hrel
   have h3:i=0∨i=1∨i=2:=O
   rcases h3 with rfl|rfl|rfl
   ·obtain⟨h,s,E⟩:=q.o.o
    have e0:wr.cell? (Y B 0)=some (RO (some A1) r c1):=(q.o.below.cell (p:=⟨B,0,none⟩) d.o.lt).trans d0
    have G:=zj c.o q.o.below
    have HF:=V E
    obtain⟨H,a⟩:∃H,(NZ l1 l2 0).length=H:=⟨_,rfl⟩
    rw[a] at s
    have Q:H≤4294967296:=by
     rw[←a]
     show 0≤_
     omega
    have D:=V a
    have HS:=V s
    clear s E a
    go_wp2_with (first
     |(at_builtin;refine xH _ rfl _ _ 35 rfl underlying35 hi T U X rfl zD HS.o rfl A1 r c1 (l1.map yJ) rfl (by rw[Ow,A.o];omega) (J.o wr G) (iL l1) yV O ?_)
     |fail)
    intro v2 h2 w7 n f m
    have z:Z (gU w0 w7 l1 l2 (0+1) v2):=V (gU.next q.o.below HF.o n (by rw[←D.o];show _=(l1).length;simp[NZ,A.o]) f m (by simp[NZ]))
    clear n f m
    go_wp2_with fail
    exact⟨⟨0+1,v2,O,zE,rfl,z⟩,by simp[intOf]⟩
   ·obtain⟨h,s,E⟩:=q.o.o
    have e1:wr.cell? (Y B 1)=some (RO (some A2) t c2):=(q.o.below.cell (p:=⟨B,1,none⟩) d.o.lt).trans d1
    have G:=zj c.o q.o.below
    have HF:=V E
    obtain⟨H,a⟩:∃H,(NZ l1 l2 1).length=H:=⟨_,rfl⟩
    rw[a] at s
    have Q:H≤4294967296:=by
     rw[←a]
     show l1.length≤_
     rw[A.o]
     exact hn1
    have D:=V a
    have HS:=V s
    clear s E a
    go_wp2_with (first
     |(at_builtin;refine xH _ rfl _ _ 35 rfl underlying35 hi T U X rfl zD HS.o rfl A2 t c2 (l2.map yJ) rfl (by rw[Ow,M.o];omega) (K.o wr G) (iL l2) yV O ?_)
     |fail)
    intro v2 h2 w7 n f m
    have z:Z (gU w0 w7 l1 l2 (1+1) v2):=V (gU.next q.o.below HF.o n (by rw[←D.o];show _=(l1++l2).length;simp[NZ,M.o]) f m (by simp[NZ]))
    clear n f m
    go_wp2_with fail
    exact⟨⟨1+1,v2,O,zE,rfl,z⟩,by simp[intOf]⟩
   ·go_wp2_with fail
    go_ret
    obtain⟨h,s,E⟩:=q.o.o
    exact⟨_,h,rfl,s,fun b hb=>(by have:=c.o.size;have:=E b hb;omega),zj c.o q.o.below⟩
end
section
open Go.Shelf Go.RowKit
theorem tO (w:Oc)(g:Nat)(q:zW)(x:Acc)(id:Int)(bs:Ob Int)(vb:Oe)(h:zH w g q x)(hf:Fit x)(hno:id∉Zb x.zC) :
  C 36 #[Y g 0,I id,vb] w (xJ w g q (xn x id bs)):=by
 have a:id∉Zb (q.ms.map (·.p)):=by rw[h.same];exact hno
 obtain⟨d,c⟩:=Uw a
 rw[h.same] at c
 have b:xn x id bs=(x,6):=by
  unfold xn
  rw[c]
 rw[b]
 have Ho:=h.mc hf id
 rw[d] at Ho
 have H:=V h
 clear hno a d c b h hf
 exact Nb
theorem nE (w:Oc)(g:Nat)(q:zW)(x:Acc)(id:Int)(A:OC Addr)(c:Nat)(h:zH w g q x)(hf:Fit x)(i:Nat)(hi:i < q.ms.length)(hpl:yU (fun m:xd=>decide (m.p.id=id)) q.ms=(i:Int))(hfi:x.zC.find? (fun m=>decide (m.id=id))=some q.ms[i].p) :
  C 36 #[Y g 0,I id,RO A 0 c] w (xJ w g q (xn x id [])):=by
 have a:xn x id []=(x,1):=by
  unfold xn
  rw[hfi]
  simp
 rw[a]
 have Ho:=h.mc hf id
 rw[hpl] at Ho
 have b:¬(i:Int) < 0:=O
 have H:=V h
 clear a hfi hpl h hf
 exact Nb
theorem eM (w:Oc)(g:Nat)(q:zW)(x:Acc)(id:Int)(bs:Ob Int)(vb:Oe)(Sb:Ob Nat)(h:zH w g q x)(hf:Fit x)(hr:NN w Sb 1 vb bs.length (bs.map yJ))(hbl:bs.length≤1099511627776)(hne:bs≠[])(i:Nat)(hi:i < q.ms.length)(hpl:yU (fun m:xd=>decide (m.p.id=id)) q.ms=(i:Int))(hfi:x.zC.find? (fun m=>decide (m.id=id))=some q.ms[i].p)(hw:((rise bs).any fun id=>!zZ x.zg id)=true) :
  C 36 #[Y g 0,I id,vb] w (xJ w g q (xn x id bs)):=by
 have c:xn x id bs=(x,6):=by
  unfold xn
  rw[hfi]
  simp only
  rw[Om hne,OG hw]
 rw[c]
 obtain⟨F,J,y,_,_⟩:=hr.form
 subst y
 obtain⟨n,a⟩:∃n,bs.length=n:=⟨_,rfl⟩
 have z:0 < n:=by
  rw[←a]
  exact List.length_pos_iff.2 hne
 have f:=h.mc hf id
 rw[hpl] at f
 have A:¬(i:Int) < 0:=O
 have u:x.zg.length≤1099511627776:=vr
 have b:=fun W (hb:Od w w W)=>Ye W g q x (h.later hb) u bs _ Sb (hr.below hb) hbl
 rw[hw] at b
 have B:((n:Int)==0)=false:=zT
 rw[a] at b
 rw[a]
 have H:=V h
 have t:=V b
 clear b hpl hw hr h hf hne a hfi c
 go_enter func36,ntmps36
 go_wp2_with (first
  |(go_at_call 87;refine f.mono ?_;rintro e D ⟨rfl,d⟩;have l:=t.o D d;have r:=V d;clear f d)
  |(go_at_call 70;refine l.mono ?_;rintro e M ⟨L,K,rfl,k,v,j⟩;obtain⟨E,G,rfl,_,_⟩:=k.form;have s:=V (zj r.o j);clear l k v j)
  |fail)
 go_ret
 exact⟨rfl,q,zL.of_below H.o (zj s.o (zt _ _))⟩
theorem tN (w:Oc)(g:Nat)(q:zW)(x:Acc)(id:Int)(bs:Ob Int)(vb:Oe)(Sb:Ob Nat)(h:zH w g q x)(hf:Fit x)(hr:NN w Sb 1 vb bs.length (bs.map yJ))(hbl:bs.length≤1099511627776)(hne:bs≠[])(i:Nat)(hi:i < q.ms.length)(hpl:yU (fun m:xd=>decide (m.p.id=id)) q.ms=(i:Int))(hw:((rise bs).any fun id=>!zZ x.zg id)=false)(m0:xd)(hm0:q.ms[i]=m0)(fr lf:Ob Int)(hfr:((rise bs).filter fun b=>!decide (b∈x9 m0.p.zr))=fr)(hlf:((x9 m0.p.zr).filter fun b=>!decide (b∈rise bs))=lf)(hsome:0 < fr.length+lf.length)(hen:x.N3.ym≤x.zA) :
  C 36 #[Y g 0,I id,vb] w fun e w'=>e=RR (I 11)∧Od w w w':=by
 have H:=V h
 have am:∀j∈fr,j∈ids x.zg:=fun j hj=>by
  exact oT
 have cf:=V am
 have K:fr.length≤(rise bs).length:=pM
 have L:lf.length≤m0.p.zr.length:=pN
 obtain⟨Ab,cb,c0,_,_⟩:=hr.form
 subst c0
 obtain⟨nb,A⟩:∃nb,bs.length=nb:=⟨_,rfl⟩
 have ca:0 < nb:=by
  rw[←A]
  exact List.length_pos_iff.2 hne
 have bw:i < x.zC.length:=aZ
 obtain⟨b,c,bt,hv,bv,co,ck,ag,a⟩:=h.ud i bw hi
 rw[hm0] at a
 have t:=h.parts _ (Oj hi)
 rw[hm0] at t
 obtain⟨a1,a5,an,_,_⟩:=t.keys.form
 obtain⟨a2,a6,ap,_,_⟩:=t.mem.form
 have aq:m0.p∈x.zC:=bA
 have cc:=hf.lW aq
 have T:=h.mc hf id
 rw[hpl] at T
 have cn:¬(i:Int) < 0:=O
 have cm:(0:Int)≤(i:Int):=O
 obtain⟨n,av⟩:∃n,x.zC.length=n:=⟨_,rfl⟩
 rw[av] at hv
 have cl:(i:Int) < (n:Int):=O
 have bu:x.zg.length≤1099511627776:=vr
 have zf:(rise bs).length≤1099511627776:=Ol (xG _) hbl
 have hwa:=fun W (hb:Od w w W)=>Ye W g q x (h.later hb) bu bs _ Sb (hr.below hb) hbl
 rw[hw] at hwa
 have cq:((nb:Int)==0)=false:=zT
 have al:∀W,Od w w W→W.cell? (Y g 11)=some (RO (some (Y b c)) n bt)∧∀j,j < 8→W.cell? (Y b (c+i * 8+j))=(xV m0)[j]?:=fun W hb=>⟨gF,fun j hj=>(hb.cell ag).trans (a j hj).1⟩
 have ao:∀W,Od w w W→NN W [] 2 m0.mv m0.p.zr.length (zU yC m0.p.zr):=fun W hb=>(t.mem.below hb).sub (fun _ _ _ hm=>by cases hm)
 rw[A] at hwa
 rw[A]
 obtain⟨ns,U⟩:∃ns,(rise bs).length=ns:=⟨_,rfl⟩
 rw[U] at hwa zf
 have br:=V hwa
 have bk:=V al
 have bo:=V ao
 have Bf:=V an
 have y8:=V ap
 have bl:=V hfr
 have bm:=V hlf
 have jo:=V U
 have Eh:=V K
 have Ef:=V L
 have Ei:=V hsome
 clear am hwa al ao an ap hfr hlf U hpl hw hr hv a t hm0 aq h hf hne A av bv K L hsome
 go_enter func36,ntmps36
 go_upto_region 11 with(first
  |(go_at_call 87;refine T.mono ?_;rintro e w1 ⟨rfl,Q⟩;have bc:=br.o w1 Q;have bh:=V Q;clear T Q)
  |(go_at_call 70;refine bc.mono ?_;rintro e w2 ⟨v2,h2,rfl,X,aw,hb2⟩;obtain⟨A2,c2,rfl,_,_⟩:=X.form;have jq:=V X;have cg:=V aw;have ay:=V (zj bh.o hb2);clear bc X aw hb2)
  |fail)
 obtain⟨d,hwa⟩:∃d:Oc,d=w2.alloc (.cells #[RO A2 ns c2] 35):=⟨_,rfl⟩
 rw[←hwa]
 obtain⟨F,hC⟩:∃F,F=w2.heap.size:=⟨_,rfl⟩
 rw[←hC]
 have dC:d.cell? (Y F 0)=some (RO A2 ns c2):=gG
 have z:Od w w d:=gH
 have bb:Sl d 3 1 (RO A2 ns c2) h2 ns ((rise bs).map yJ):=gI
 obtain⟨c1,a⟩:=bk.o d z
 have b0:d.cell? (Y b (c+i * 8))=some (I m0.p.id):=a 0 O
 have b1:d.cell? (Y b (c+i * 8+1))=some (I m0.p.thread):=a 1 O
 have b2:d.cell? (Y b (c+i * 8+2))=some (RP ⟨m0.p.text.toArray⟩):=a 2 O
 have b3:d.cell? (Y b (c+i * 8+3))=some (I m0.p.at_):=a 3 O
 have b4:d.cell? (Y b (c+i * 8+4))=some (RO a1 m0.p.keys.length a5):=(a 4 O).trans aY
 have b5:d.cell? (Y b (c+i * 8+5))=some (RO a2 m0.p.zr.length a6):=(a 5 O).trans V4
 have b6:d.cell? (Y b (c+i * 8+6))=some (I m0.p.mod):=a 6 O
 have b7:d.cell? (Y b (c+i * 8+7))=some (I m0.p.born):=a 7 O
 have bd:=Yf d m0.p.id m0.p.thread m0.p.at_ m0.p.mod m0.p.born ⟨m0.p.text.toArray⟩ (RO a1 m0.p.keys.length a5) (RO a2 m0.p.zr.length a6) m0.p.zr (by
  have h1:=bo.o d z
  rw[y8.o] at h1
  exact h1) O
 have bj:=V z
 have rq:=V bb
 have a3:=V dC
 clear a hwa hC z bb dC
 go_upto_region 12 with(first
  |(go_at_call 90;refine bd.mono ?_;rintro e w3 ⟨v3,h3,rfl,a0,az,aa⟩;obtain⟨A3,c3,rfl,_,_⟩:=a0.form;have bp:=V a0;have ch:=V az;have bn:=V aa;clear bd a0 az aa)
  |fail)
 clear b0 b1 b2 b3 b4 b5 b6 b7 c1
 obtain⟨B,qz⟩:∃B,m0.p.zr.length=B:=⟨_,rfl⟩
 have og:Z ((x9 m0.p.zr).length=B):=V gA
 obtain⟨E,r9⟩:∃E:Oc,E=w3.alloc (.cells #[RO A3 m0.p.zr.length c3] 35):=⟨_,rfl⟩
 rw[←r9]
 obtain⟨D,hD⟩:∃D,D=w3.heap.size:=⟨_,rfl⟩
 rw[←hD]
 have ak:Od d d E:=gJ
 have dD:E.cell? (Y D 0)=some (RO A3 B c3):=gK
 have dC:E.cell? (Y F 0)=some (RO A2 ns c2):=(ak.cell (p:=⟨F,0,none⟩) (OH _ _ a3.o)).trans a3.o
 have u:Sl E 3 1 (RO A2 ns c2) h2 (rise bs).length ((rise bs).map yJ):=gL
 have M:Sl E 3 1 (RO A3 B c3) h3 (x9 m0.p.zr).length ((x9 m0.p.zr).map yJ):=by
  rw[og.o,r9,←qz]
  exact bp.o.alloc _
 have R:=ut E (RO A2 ns c2) (rise bs) [] (u.reads [] zv) Z0
 rw[jo.o] at R
 have Cr:B≤1099511627776:=O
 have Eg:=V (zj bj.o ak)
 have J:=V u
 have f:=V M
 have P:=V dD
 have G:=V dC
 clear r9 hD ak u M dD qz
 go_upto_region 13 with(first
  |(go_at_call 92;refine R.mono ?_;rintro e w4 ⟨v4,h4,rfl,Ct,ab,a'⟩;have S:=rY (w0:=E) (w4:=w4) (v4:=v4) (h4:=h4) (l:=rise bs) (k:=x9 m0.p.zr) 93 (O9 func93 zQ rfl) (fun y W hB hr hn=>Xg y D _ _ W hB hr hn) P.o f.o Z1 gC Z0 ab a';rw[bl.o] at S;clear R Ct a' ab)
  |(go_at_call 91;refine S.mono ?_;rintro e w5 ⟨A5,n5,c5,h5,rfl,ar,b9,bx,ac⟩;have su:=V ar;have zo:=V b9;have je:=V ac;clear S b9 bx ac ar)
  |fail)
 have cj:w5.cell? (Y D 0)=some (RO A3 B c3):=(je.o.cell (p:=⟨D,0,none⟩) (OH _ _ P.o)).trans P.o
 have a7:w5.cell? (Y F 0)=some (RO A2 ns c2):=(je.o.cell (p:=⟨F,0,none⟩) (OH _ _ G.o)).trans G.o
 have a8:Sl w5 3 1 (RO A2 ns c2) h2 (rise bs).length ((rise bs).map yJ):=J.o.keep (fun b2 hb2=>je.o.block b2 (J.o.lt b2 hb2))
 have a9:Sl w5 3 1 (RO A3 B c3) h3 (x9 m0.p.zr).length ((x9 m0.p.zr).map yJ):=f.o.keep (fun b2 hb2=>je.o.block b2 (f.o.lt b2 hb2))
 have r:=ut w5 (RO A3 B c3) (x9 m0.p.zr) [] (a9.reads [] zv) Z1
 rw[og.o] at r
 have a4:=V a7
 have be:=V a8
 clear a7 a8 a9
 go_upto_region 14 with(first
  |(go_at_call 92;refine r.mono ?_;rintro e w6 ⟨v6,h6,rfl,Cs,ad,b8⟩;have s:=rY (w0:=w5) (w4:=w6) (v4:=v6) (h4:=h6) (l:=x9 m0.p.zr) (k:=rise bs) 95 (O9 func95 zQ rfl) (fun y W hB hr hn=>Xh y F _ _ W hB hr hn) a4.o be.o Z0 gD Z1 ad b8;rw[bm.o] at s;clear r Cs b8 ad)
  |(go_at_call 91;refine s.mono ?_;rintro e w7 ⟨A7,n7,c7,h7,rfl,au,b',bz,ae⟩;have zh:=V au;have zn:=V ae;clear s b' bz ae au)
  |fail)
 obtain⟨N,rz⟩:∃N:Oc,N=w7.alloc (.cells #[RO A7 n7 c7] 35):=⟨_,rfl⟩
 rw[←rz]
 obtain⟨D7,Gf⟩:∃D7,D7=w7.heap.size:=⟨_,rfl⟩
 rw[←Gf]
 have d7:N.cell? (Y D7 0)=some (RO A7 n7 c7):=I'
 have v:Od w w N:=pO
 have ba:Sl N 3 1 (RO A5 n5 c5) h5 n5 (fr.map yJ):=by
  exact o5
 have bi:=V v
 have ci:=V ba
 obtain⟨nt,cp,ce⟩:∃nt:Nat,(n5:Int)+(n7:Int)=(nt:Int)∧0 < nt:=⟨n5+n7,O,pL⟩
 have c4:n5≤1099511627776:=pP
 have c8:n7≤1099511627776:=pQ
 have cd:nt≤2199023255552:=O
 have cr:((nt:Int)==0)=false:=zT
 have c9:=(H.o.later v).vF
 have c6:N.cell? (Y g 6)=some (I x.N3.ym):=(H.o.later v).cells 6
 clear rz Gf v ba
 go_wp2_with (first
  |(go_at_call 71;refine(vQ g x.zA x.N3.ym _ ((yD (w:=N) zF _).trans c9) ((yD (w:=N) zF _).trans c6)).mono ?_;rintro e w9 ⟨rfl,ne,rfl⟩)
  |fail)
 go_ret
 exact⟨rfl,zj bi.o (zO (Ok _ _) _)⟩
theorem nG (w:Oc)(g:Nat)(q:zW)(x:Acc)(id:Int)(bs:Ob Int)(vb:Oe)(Sb:Ob Nat)(h:zH w g q x)(hf:Fit x)(hr:NN w Sb 1 vb bs.length (bs.map yJ))(hbl:bs.length≤1099511627776)(hne:bs≠[])(i:Nat)(hi:i < q.ms.length)(hpl:yU (fun m:xd=>decide (m.p.id=id)) q.ms=(i:Int))(hw:((rise bs).any fun id=>!zZ x.zg id)=false)(m0:xd)(hm0:q.ms[i]=m0)(fr lf:Ob Int)(hfr:((rise bs).filter fun b=>!decide (b∈x9 m0.p.zr))=fr)(hlf:((x9 m0.p.zr).filter fun b=>!decide (b∈rise bs))=lf)(hsome:0 < fr.length+lf.length)(hen:¬x.N3.ym≤x.zA)(hsp:fr.any x.spent=true) :
  C 36 #[Y g 0,I id,vb] w fun e w'=>e=RR (I 11)∧Od w w w':=by
 have H:=V h
 have aq:∀j∈fr,j∈ids x.zg:=fun j hj=>by
  exact oT
 have zq:=V aq
 have M:fr.length≤(rise bs).length:=pM
 have N:lf.length≤m0.p.zr.length:=pN
 obtain⟨Ab,cb,c8,_,_⟩:=hr.form
 subst c8
 obtain⟨nb,B⟩:∃nb,bs.length=nb:=⟨_,rfl⟩
 have cd:0 < nb:=by
  rw[←B]
  exact List.length_pos_iff.2 hne
 have b':i < x.zC.length:=aZ
 obtain⟨b,c,bx,hv,bz,co,ck,ao,a⟩:=h.ud i b' hi
 rw[hm0] at a
 have u:=h.parts _ (Oj hi)
 rw[hm0] at u
 obtain⟨a3,a9,ar,_,_⟩:=u.keys.form
 obtain⟨a4,aa,av,_,_⟩:=u.mem.form
 have aw:m0.p∈x.zC:=bA
 have ce:=hf.lW aw
 have U:=h.mc hf id
 rw[hpl] at U
 have cn:¬(i:Int) < 0:=O
 have cm:(0:Int)≤(i:Int):=O
 obtain⟨n,b8⟩:∃n,x.zC.length=n:=⟨_,rfl⟩
 rw[b8] at hv
 have cl:(i:Int) < (n:Int):=O
 have oo:x.zg.length≤1099511627776:=vr
 have zf:(rise bs).length≤1099511627776:=Ol (xG _) hbl
 have hwa:=fun W (hb:Od w w W)=>Ye W g q x (h.later hb) oo bs _ Sb (hr.below hb) hbl
 rw[hw] at hwa
 have cq:((nb:Int)==0)=false:=zT
 have ap:∀W,Od w w W→W.cell? (Y g 11)=some (RO (some (Y b c)) n bx)∧∀j,j < 8→W.cell? (Y b (c+i * 8+j))=(xV m0)[j]?:=fun W hb=>⟨gF,fun j hj=>(hb.cell ao).trans (a j hj).1⟩
 have au:∀W,Od w w W→NN W [] 2 m0.mv m0.p.zr.length (zU yC m0.p.zr):=fun W hb=>(u.mem.below hb).sub (fun _ _ _ hm=>by cases hm)
 rw[B] at hwa
 rw[B]
 obtain⟨ns,X⟩:∃ns,(rise bs).length=ns:=⟨_,rfl⟩
 rw[X] at hwa zf
 have bw:=V hwa
 have bo:=V ap
 have bt:=V au
 have Bf:=V ar
 have y8:=V av
 have bp:=V hfr
 have br:=V hlf
 have jo:=V X
 have Eh:=V M
 have Ef:=V N
 have Ei:=V hsome
 clear aq hwa ap au ar av hfr hlf X hpl hw hr hv a u hm0 aw h hf hne B b8 bz M N hsome
 go_enter func36,ntmps36
 go_upto_region 11 with(first
  |(go_at_call 87;refine U.mono ?_;rintro e w1 ⟨rfl,R⟩;have bi:=bw.o w1 R;have bl:=V R;clear U R)
  |(go_at_call 70;refine bi.mono ?_;rintro e w2 ⟨v2,h2,rfl,a0,b9,hb2⟩;obtain⟨A2,c2,rfl,_,_⟩:=a0.form;have jq:=V a0;have ch:=V b9;have ay:=V (zj bl.o hb2);clear bi a0 b9 hb2)
  |fail)
 obtain⟨d,hwa⟩:∃d:Oc,d=w2.alloc (.cells #[RO A2 ns c2] 35):=⟨_,rfl⟩
 rw[←hwa]
 obtain⟨G,hC⟩:∃G,G=w2.heap.size:=⟨_,rfl⟩
 rw[←hC]
 have dC:d.cell? (Y G 0)=some (RO A2 ns c2):=gG
 have A:Od w w d:=gH
 have bh:Sl d 3 1 (RO A2 ns c2) h2 ns ((rise bs).map yJ):=gI
 obtain⟨ca,a⟩:=bo.o d A
 have b0:d.cell? (Y b (c+i * 8))=some (I m0.p.id):=a 0 O
 have b1:d.cell? (Y b (c+i * 8+1))=some (I m0.p.thread):=a 1 O
 have b2:d.cell? (Y b (c+i * 8+2))=some (RP ⟨m0.p.text.toArray⟩):=a 2 O
 have b3:d.cell? (Y b (c+i * 8+3))=some (I m0.p.at_):=a 3 O
 have b4:d.cell? (Y b (c+i * 8+4))=some (RO a3 m0.p.keys.length a9):=(a 4 O).trans aY
 have b5:d.cell? (Y b (c+i * 8+5))=some (RO a4 m0.p.zr.length aa):=(a 5 O).trans V4
 have b6:d.cell? (Y b (c+i * 8+6))=some (I m0.p.mod):=a 6 O
 have b7:d.cell? (Y b (c+i * 8+7))=some (I m0.p.born):=a 7 O
 have bj:=Yf d m0.p.id m0.p.thread m0.p.at_ m0.p.mod m0.p.born ⟨m0.p.text.toArray⟩ (RO a3 m0.p.keys.length a9) (RO a4 m0.p.zr.length aa) m0.p.zr (by
  have h1:=bt.o d A
  rw[y8.o] at h1
  exact h1) O
 have bm:=V A
 have rq:=V bh
 have a6:=V dC
 clear a hwa hC A bh dC
 go_upto_region 12 with(first
  |(go_at_call 90;refine bj.mono ?_;rintro e w3 ⟨v3,h3,rfl,a1,ba,ae⟩;obtain⟨A3,c3,rfl,_,_⟩:=a1.form;have bu:=V a1;have ci:=V ba;have bn:=V ae;clear bj a1 ba ae)
  |fail)
 clear b0 b1 b2 b3 b4 b5 b6 b7 ca
 obtain⟨E,qz⟩:∃E,m0.p.zr.length=E:=⟨_,rfl⟩
 have og:Z ((x9 m0.p.zr).length=E):=V gA
 obtain⟨F,r9⟩:∃F:Oc,F=w3.alloc (.cells #[RO A3 m0.p.zr.length c3] 35):=⟨_,rfl⟩
 rw[←r9]
 obtain⟨D,hD⟩:∃D,D=w3.heap.size:=⟨_,rfl⟩
 rw[←hD]
 have ak:Od d d F:=gJ
 have dD:F.cell? (Y D 0)=some (RO A3 E c3):=gK
 have dC:F.cell? (Y G 0)=some (RO A2 ns c2):=(ak.cell (p:=⟨G,0,none⟩) (OH _ _ a6.o)).trans a6.o
 have v:Sl F 3 1 (RO A2 ns c2) h2 (rise bs).length ((rise bs).map yJ):=gL
 have P:Sl F 3 1 (RO A3 E c3) h3 (x9 m0.p.zr).length ((x9 m0.p.zr).map yJ):=by
  rw[og.o,r9,←qz]
  exact bu.o.alloc _
 have S:=ut F (RO A2 ns c2) (rise bs) [] (v.reads [] zv) Z0
 rw[jo.o] at S
 have Cr:E≤1099511627776:=O
 have Eg:=V (zj bm.o ak)
 have K:=V v
 have r:=V P
 have Q:=V dD
 have J:=V dC
 clear r9 hD ak v P dD qz
 go_upto_region 13 with(first
  |(go_at_call 92;refine S.mono ?_;rintro e w4 ⟨v4,h4,rfl,Ct,ag,bb⟩;have T:=rY (w0:=F) (w4:=w4) (v4:=v4) (h4:=h4) (l:=rise bs) (k:=x9 m0.p.zr) 93 (O9 func93 zQ rfl) (fun y W hB hr hn=>Xg y D _ _ W hB hr hn) Q.o r.o Z1 gC Z0 ag bb;rw[bp.o] at T;clear S Ct bb ag)
  |(go_at_call 91;refine T.mono ?_;rintro e w5 ⟨A5,n5,c5,h5,rfl,az,bd,c0,al⟩;have su:=V az;have zo:=V bd;have je:=V al;clear T bd c0 al az)
  |fail)
 have cj:w5.cell? (Y D 0)=some (RO A3 E c3):=(je.o.cell (p:=⟨D,0,none⟩) (OH _ _ Q.o)).trans Q.o
 have ab:w5.cell? (Y G 0)=some (RO A2 ns c2):=(je.o.cell (p:=⟨G,0,none⟩) (OH _ _ J.o)).trans J.o
 have ac:Sl w5 3 1 (RO A2 ns c2) h2 (rise bs).length ((rise bs).map yJ):=K.o.keep (fun b2 hb2=>je.o.block b2 (K.o.lt b2 hb2))
 have ad:Sl w5 3 1 (RO A3 E c3) h3 (x9 m0.p.zr).length ((x9 m0.p.zr).map yJ):=r.o.keep (fun b2 hb2=>je.o.block b2 (r.o.lt b2 hb2))
 have s:=ut w5 (RO A3 E c3) (x9 m0.p.zr) [] (ad.reads [] zv) Z1
 rw[og.o] at s
 have a7:=V ab
 have bk:=V ac
 clear ab ac ad
 go_upto_region 14 with(first
  |(go_at_call 92;refine s.mono ?_;rintro e w6 ⟨v6,h6,rfl,Cs,am,bc⟩;have t:=rY (w0:=w5) (w4:=w6) (v4:=v6) (h4:=h6) (l:=x9 m0.p.zr) (k:=rise bs) 95 (O9 func95 zQ rfl) (fun y W hB hr hn=>Xh y G _ _ W hB hr hn) a7.o bk.o Z0 gD Z1 am bc;rw[br.o] at t;clear s Cs bc am)
  |(go_at_call 91;refine t.mono ?_;rintro e w7 ⟨A7,n7,c7,h7,rfl,a',c4,c1,an⟩;have zh:=V a';have zn:=V an;clear t c4 c1 an a')
  |fail)
 obtain⟨f,rz⟩:∃f:Oc,f=w7.alloc (.cells #[RO A7 n7 c7] 35):=⟨_,rfl⟩
 rw[←rz]
 obtain⟨D7,Gf⟩:∃D7,D7=w7.heap.size:=⟨_,rfl⟩
 rw[←Gf]
 have d7:f.cell? (Y D7 0)=some (RO A7 n7 c7):=I'
 have z:Od w w f:=pO
 have be:Sl f 3 1 (RO A5 n5 c5) h5 n5 (fr.map yJ):=by
  exact o5
 have Gh:=V z
 have a8:=V be
 obtain⟨nt,cp,cg⟩:∃nt:Nat,(n5:Int)+(n7:Int)=(nt:Int)∧0 < nt:=⟨n5+n7,O,pL⟩
 have Gg:n5≤1099511627776:=pP
 have cc:n7≤1099511627776:=pQ
 have cf:nt≤2199023255552:=O
 have cr:((nt:Int)==0)=false:=zT
 have c9:=(H.o.later z).vF
 have c6:f.cell? (Y g 6)=some (I x.N3.ym):=(H.o.later z).cells 6
 clear rz Gf z be
 have a2:∀W,Od f f W→C 72 #[RO A5 n5 c5,.func (.func 73) #[Y g 0] #[]] W fun e w'=>e=RR (.bool (fr.any x.spent))∧Od W W w':=fun W hb=>by
  have oh:Sl W 3 1 (RO A5 n5 c5) h5 fr.length (fr.map yJ):=by
   rw[←su.o]
   exact a8.o.keep (fun b2 hb2=>hb.block b2 (a8.o.lt b2 hb2))
  exact MF
 rw[hsp] at a2
 have bv:=V a2
 clear a2 hsp
 go_wp2_with (first
  |(go_at_call 71;refine(vQ g x.zA x.N3.ym _ ((yD (w:=f) zF _).trans c9) ((yD (w:=f) zF _).trans c6)).mono ?_;rintro e w9 ⟨rfl,ne,rfl⟩)
  |(go_at_call 72;refine(bv.o _ (zO (Ok _ _) _)).mono ?_;rintro e cs ⟨rfl,L⟩;have a5:=V L;clear L)
  |fail)
 go_ret
 exact⟨rfl,zj Gh.o (zj (zO (Ok f.heap.size f) _) a5.o)⟩
end
end Go.Proofs.YtnofkliaofgiaaaGreatDoor
