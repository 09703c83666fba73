/-
  The library's DeleteFunc over a slice of members of the call's own, with whatever closure. The library's Grow of a nil slice of numbers; Concat of two slices of numbers. The store's Place where it refuses ahead of any work. The store's Place where the clock, or a mailbox's numbers, are at their end.
-/
import Derived.Test.YtfhlhdmhgheonaaGreatDoorGQ
import Derived.Test.YtfhlhdmhgheonaaGreatDoorGD
import Derived.Lib.SliceRun
import Derived.Lib.AppendZerosOnto
set_option maxRecDepth 100000
set_option maxHeartbeats 8000000
namespace Go.Proofs.YtfhlhdmhgheonaaGreatDoor
open Go.Shelf Go.RowKit Go.Lib
attribute [local go_sem ↓] Go.wp_at_zero Go.wp_at_succ
theorem U2 {P:Program}(w:World)(t e ty:TypeId)(ht:P.underlying t=some (.slice e))(hv:∀w,(zeroValue e).run P w=.ok (.agg #[.int .i64 0,.int .i64 0]) w)(b o n c:Nat)(hn:0 < n)(hc:∀j,j < n * 2→(w.cell? ⟨b,o+j,none⟩).isSome=true)(hf:∀j,j < n * 2→w.frozen? ⟨b,o+j,none⟩=false) :
  (Builtin.clear_ #[t] ty #[.slice (some ⟨b,o,none⟩) n c]).run P w=.ok (.tuple #[]) (w.setCells b o (List.replicate (n * 2) (.int .i64 0))):=by
 have f:(Builtin.zeroCells (Value.cells (.agg #[.int .i64 0,.int .i64 0])) n).toList=List.replicate (n * 2) (Value.int .i64 0):=by
  apply List.ext_getElem
  ·simp[Builtin.zeroCells,Value.cells]
  ·intro i k l
   have d:i % 2=0∨i % 2=1:=by omega
   rcases d with d|d <;> simp[Builtin.zeroCells,Value.cells,d]
 have a:=run_storeCells_cells (P:=P) b o (List.replicate (n * 2) (Value.int .i64 0)) 0 w (by simpa using hc) (by simpa using hf) (by intro u h;rw[(List.mem_replicate.1 h).2];rfl)
 simp only[Nat.add_zero] at a
 have g:n≠0:=by omega
 simp[Builtin.clear_,run_underlying ht,hv,f,a,g]
structure uZ (w wr:World)(v:Value)(hh:Option Nat)(l:List (Int×Int))(p:Int×Int→Bool)(j i:Nat)(cur:List (Int×Int)):Prop where
 sl:Sl wr 56 2 v hh l.length (zk zA cur)
 len:cur.length=l.length
 i_:i=((l.take j).filter (fun x=>!p x)).length
 lt:i < j
 done:cur.take i=(l.take j).filter (fun x=>!p x)
 rest:cur.drop j=l.drop j
 chg:Chg hh.toList w wr
theorem uZ.skip {w wr wr':World}{v:Value}{hh:Option Nat}{l:List (Int×Int)}{p:Int×Int→Bool}{j i:Nat}{cur:List (Int×Int)}(h:uZ w wr v hh l p j i cur)(hj:j < l.length)(hp:p l[j]=true)(hb:Below wr.heap.size wr wr'):uZ w wr' v hh l p (j+1) i cur:=by
 have a:(l.take (j+1)).filter (fun x=>!p x)=(l.take j).filter (fun x=>!p x):=by
  rw[List.take_succ_eq_append_getElem hj,List.filter_append]
  simp[hp]
 refine⟨h.sl.keep (fun b hb2=>hb.block b (h.sl.lt b hb2)),h.len,by rw[a];exact h.i_,by have:=h.lt;omega,by rw[a];exact h.done,?_,h.chg.trans (Chg.of_below hb hh.toList) (fun k hk=>.inl hk)⟩
 have c:=congrArg (List.drop 1) h.rest
 simpa[List.drop_drop] using c
theorem zbT (l:List (Int×Int))(i:Nat)(hi:i < l.length)(y:Int×Int):((zk zA l).set (i * 2) (.int .i64 y.1)).set (i * 2+1) (.int .i64 y.2)=zk zA (l.set i y):=by
 have b:=vo zJ l i 0 hi (by omega) (.int .i64 y.1) (y.1,l[i].2) rfl
 have a:=vo zJ (l.set i (y.1,l[i].2)) i 1 (by simpa using hi) (by omega) (.int .i64 y.2) y (by simp[zA])
 rw[List.set_set] at a
 rw[←a,←b]
 rfl
theorem uZ.keep {w wr wr':World}{b off n cap:Nat}{hh:Option Nat}{l:List (Int×Int)}{p:Int×Int→Bool}{j i:Nat}{cur:List (Int×Int)}(h:uZ w wr (.slice (some ⟨b,off,none⟩) n cap) hh l p j i cur)(hhb:hh=some b)(hn:l.length=n)(hj:j < l.length)(hp:p l[j]=false)(hb:Below wr.heap.size wr wr') :
  uZ w ((wr'.setCell ⟨b,off+i * 2,none⟩ (.int .i64 l[j].1)).setCell ⟨b,off+i * 2+1,none⟩ (.int .i64 l[j].2)) (.slice (some ⟨b,off,none⟩) n cap) hh l p (j+1) (i+1) (cur.set i l[j]):=by
 have d:(l.take (j+1)).filter (fun x=>!p x)=(l.take j).filter (fun x=>!p x)++[l[j]]:=by
  rw[List.take_succ_eq_append_getElem hj,List.filter_append]
  simp[hp]
 have e:=h.lt
 have a:=h.len
 subst hn
 refine⟨?_,by rw[List.length_set];exact a,?_,by omega,?_,?_,?_⟩
 ·have c:=((h.sl.keep (w':=wr') (fun k hk=>hb.block k (h.sl.lt k hk))).store (i * 2) (.int .i64 l[j].1)).store (i * 2+1) (.int .i64 l[j].2)
  rw[zbT cur i (by omega) l[j],←Nat.add_assoc] at c
  exact c
 ·rw[d,List.length_append,←h.i_]
  rfl
 ·rw[d,←h.done,List.take_succ_eq_append_getElem (by rw[List.length_set];omega),List.take_set,List.getElem_set_self]
  congr 1
  rw[List.set_eq_of_length_le (by rw[List.length_take];omega)]
 ·rw[List.drop_set,if_pos (by omega)]
  have c:=congrArg (List.drop 1) h.rest
  simpa[List.drop_drop] using c
 ·exact((h.chg.trans (Chg.of_below hb hh.toList) (fun k hk=>.inl hk)).set (.inl (by rw[hhb];simp)) _).set (.inl (by rw[hhb];simp)) _
theorem Ue:∀(l:List (Int×Int)) (i:Nat),(zk zA l).take (i * 2)=zk zA (l.take i)
 |[],i=>by simp[zk]
 |a :: r,0=>by simp[zk]
 |a :: r,i+1=>by
  show (zA a++zk zA r).take ((i+1) * 2)=zA a++zk zA (r.take i)
  rw[←Ue r i,Nat.add_mul,Nat.one_mul,Nat.add_comm,←zJ a,List.take_length_add_append]
theorem uZ.cut {w wr:World}{b off n cap:Nat}{hh:Option Nat}{l:List (Int×Int)}{p:Int×Int→Bool}{i:Nat}{cur:List (Int×Int)}(h:uZ w wr (.slice (some ⟨b,off,none⟩) n cap) hh l p n i cur)(hhb:hh=some b)(hn:l.length=n) :
  Sl (wr.setCells b (off+i * 2) (List.replicate ((n - i) * 2) (.int .i64 0))) 56 2 (.slice (some ⟨b,off,none⟩) i cap) hh (l.filter fun x=>!p x).length (zk zA (l.filter fun x=>!p x))∧Chg hh.toList w (wr.setCells b (off+i * 2) (List.replicate ((n - i) * 2) (.int .i64 0))):=by
 subst hn
 have j:=h.lt
 have g:=h.done
 have a:=h.i_
 rw[List.take_of_length_le (Nat.le_refl _)] at g a
 rcases h.sl.2 with⟨_,hv,_⟩|⟨b',off',cap',c,hh',hv,hB,hnc,hcm,hcs,ht⟩
 ·cases hv
 simp only[Value.slice.injEq,Option.some.injEq,Addr.mk.injEq,and_true,true_and] at hv
 obtain⟨⟨rfl,rfl⟩,rfl⟩:=hv
 have d:=yZ b 56 (List.replicate ((l.length - i) * 2) (.int .i64 0)) (off+i * 2) wr c hB (by simp;omega)
 obtain⟨o,q,r,s⟩:=yY b (List.replicate ((l.length - i) * 2) (Value.int .i64 0)) (off+i * 2) wr
 refine⟨?_,o.trans h.chg.os,q.trans h.chg.tape,r.trans h.chg.output,by rw[s];exact h.chg.size,fun k hk hn=>(xD b _ _ wr k (fun e=>hn (by rw[hhb,e];simp))).trans (h.chg.block k hk hn)⟩
 rw[←a]
 refine⟨?_,.inr ⟨b,off,cap,_,hhb,rfl,d,by omega,hcm,?_,?_⟩⟩
 ·rw[yX zJ,←a]
 ·simp only[List.size_toArray,List.length_append,List.length_take,List.length_drop,List.length_replicate,Array.length_toList]
  omega
 ·have f:(c.toList.take (off+i * 2)).length=off+i * 2:=by
   rw[List.length_take,Array.length_toList]
   omega
  show (List.drop off (c.toList.take (off+i * 2)++List.replicate ((l.length - i) * 2) (.int .i64 0)++_)).take (i * 2)=_
  rw[List.append_assoc,List.drop_append_of_le_length (by omega),List.take_append_of_le_length (by rw[List.length_drop,f];omega),List.drop_take,Nat.add_sub_cancel_left,List.take_take,Nat.min_self]
  have m:(c.toList.drop off).take (i * 2)=((c.toList.drop off).take (l.length * 2)).take (i * 2):=by
   rw[List.take_take,Nat.min_eq_left (by omega)]
  rw[m,ht,Ue,g]
theorem delP_any (v:Value)(hh:Option Nat)(l:List (Int×Int))(p:Int×Int→Bool)(g:Nat)(lb:Array Value)(eg:∀args w,(callFunc g args).run Tryz.prog w=.ok (.enter g args) w)(w:World)(hs:Sl w 56 2 v hh l.length (zk zA l))(hn:l.length≤1099511627776)(hp:∀W,Chg hh.toList w W→∀x∈l,Calls Tryz.prog g (#[.agg (zA x).toArray]++lb) W fun e w'=>e=.returned (.bool (p x))∧Below W.heap.size W w') :
  Calls Tryz.prog 139 #[v,.func (.func g) #[] lb] w fun e w'=>∃v',e=.returned v'∧Sl w' 56 2 v' hh (l.filter fun x=>!p x).length (zk zA (l.filter fun x=>!p x))∧Chg hh.toList w w':=by
 have o:=zaO v [] l p g lb eg w (hs.reads [] (by simp)) hn (fun W hb x hx=>(hp W (Chg.of_below hb _) x hx).mono fun e w' ⟨s,I⟩=>⟨s,za hb I⟩)
 rcases YR p l with⟨s,I⟩|⟨a,x,r,s,I,h3,h4⟩
 ·have hf:(l.filter fun x=>!p x)=l:=by
   rw[List.filter_eq_self]
   intro x hx
   have:=List.any_eq_false.1 s x hx
   simpa using this
  rw[hf]
  rw[I] at o
  have HS:=zdG hs
  clear hp s I hf hs
  go_enter Tryz.func139,Tryz.ntmps139
  go_wp2_with (first
   |(go_at_call 189;refine o.mono ?_;rintro e w1 ⟨rfl,M⟩;have J:=zdG M;clear o M)
   |fail)
  go_ret
  exact⟨_,rfl,HS.out.keep (fun b hb=>J.out.block b (HS.out.lt b hb)),Chg.of_below J.out _⟩
 ·rw[h4] at o
  have S:0 < l.length:=by rw[s,List.length_append,List.length_cons];omega
  obtain⟨b,c,f,a7,hv,ai,ay,az,_⟩:=hs.at_ S
  subst hv
  obtain⟨n,F⟩:∃n,l.length=n:=⟨_,rfl⟩
  obtain⟨k,Y⟩:∃k,a.length=k:=⟨_,rfl⟩
  have ak:k < n:=by rw[←F,s,←Y];simp
  rw[Y] at o
  have a0:a.filter (fun x=>!p x)=a:=by
   rw[List.filter_eq_self]
   intro y Z
   simp[h3 y Z]
  have a1:uZ w w (.slice (some ⟨b,c,none⟩) n f) hh l p (k+1) k l:=by
   have ab:l.take (k+1)=a++[x]:=by
    rw[s,←Y,List.take_length_add_append]
    rfl
   have T:(l.take (k+1)).filter (fun x=>!p x)=a:=by
    rw[ab,List.filter_append,a0]
    simp[I]
   refine⟨by rw[←F];exact hs,rfl,by rw[T,Y],by omega,?_,rfl,Chg.refl _ _⟩
   rw[T,s,←Y,List.take_left]
  have al:((k:Int)== -1)=false:=by first|(simp;done)|(simp;omega)
  have am:IntKind.i64.wrap ((k:Int)+1)=(k:Int)+1:=IntWalk.i64_in _ (by omega)
  have HS:=zdG hs
  have HP:=zdG hp
  have u:=zdG a1
  have q:=zdG F
  have a2:=zdG a7
  rw[F] at hn ai o
  rw[F]
  clear s I h3 h4 a0 a1 hs hp F a7 S Y
  go_enter Tryz.func139,Tryz.ntmps139
  go_wp2_with (first
   |(go_at_call 189;refine o.mono ?_;rintro e w1 ⟨rfl,M⟩;have J:=zdG M;clear o M)
   |fail)
  have ac:Hid (uZ w w1 (.slice (some ⟨b,c,none⟩) n f) hh l p (k+1) k l):=zdG ⟨u.out.sl.keep (fun b2 hb2=>J.out.block b2 (u.out.sl.lt b2 hb2)),u.out.len,u.out.i_,u.out.lt,u.out.done,u.out.rest,Chg.of_below J.out _⟩
  go_loopw [5,6] (fun si sj wr=>∃(i j:Nat) (h:List (Int×Int)),j≤n∧i < j∧si=.int .i64 i∧sj=.int .i64 j∧Hid (uZ w wr (.slice (some ⟨b,c,none⟩) n f) hh l p j i h)) (fun _ sj _=>n - (intOf sj).toNat)
  case atStart=>exact⟨k,k+1,l,by omega,by omega,rfl,by go_num,ac⟩
  case round=>
   obtain⟨i,j,h,a',b0,rfl,rfl,P⟩:=hrel
   by_cases ah:j < n
   ·have a3:(j:Int) < (n:Int):=by omega
    have Q:j < l.length:=by rw[q.out];exact ah
    obtain⟨y,Z⟩:∃y,l[j]=y:=⟨_,rfl⟩
    have K:h[j]?=some y:=by
     have s:=congrArg (fun z=>z[0]?) P.out.rest
     simp only[List.getElem?_drop,Nat.add_zero] at s
     rw[s,List.getElem?_eq_getElem Q,Z]
    obtain⟨b',a8,a9,_,R,_,_,_,m⟩:=P.out.sl.at_ (by rw[q.out];omega)
    have A:=(Value.slice.inj R).1
    injection A with A
    injection A with e1 e2
    subst e1 e2
    have a4:=P.out.len
    have V:h[j]'(by omega)=y:=by
     rw[List.getElem?_eq_getElem (by omega)] at K
     exact Option.some.inj K
    obtain⟨G,H⟩:=y
    have cj:wr.cell? ⟨b,c+j * 2,none⟩=some (.int .i64 G):=by
     have s:=(m (j * 2) (by omega)).1
     have I:=zy zJ h j 0 (by omega) (by omega)
     rw[Nat.add_zero] at I
     rw[s,I,V]
     rfl
    have an:wr.cell? ⟨b,c+j * 2+1,none⟩=some (.int .i64 H):=by
     have s:=(m (j * 2+1) (by omega)).1
     have I:=zy zJ h j 1 (by omega) (by omega)
     rw[Nat.add_assoc,s,I,V]
     rfl
    have ad:(zk zA h).length=n * 2:=by rw[yX zJ,P.out.len,q.out]
    obtain⟨ov,aa⟩:∃ov,wr.cell? ⟨b,c+i * 2,none⟩=some ov:=by
     refine⟨_,(m (i * 2) (by omega)).1.trans (List.getElem?_eq_getElem ?_)⟩
     omega
    obtain⟨b1,U⟩:∃ov,wr.cell? ⟨b,c+i * 2+1,none⟩=some ov:=by
     rw[Nat.add_assoc]
     refine⟨_,(m (i * 2+1) (by omega)).1.trans (List.getElem?_eq_getElem ?_)⟩
     omega
    have ci:=aa
    have ae:=U
    have fi:=(m (i * 2) (by omega)).2
    have a5:=(m (i * 2+1) (by omega)).2
    rw[←Nat.add_assoc] at a5
    have d:=HP.out (wr.alloc (.cells #[.int .i64 G,.int .i64 H] 56)) (P.out.chg.alloc _) l[j] (List.getElem_mem Q)
    rw[Z] at d
    have d:Calls Tryz.prog g (#[.agg #[.int .i64 G,.int .i64 H]]++lb) (wr.alloc (.cells #[.int .i64 G,.int .i64 H] 56)) fun e w'=>e=.returned (.bool (p (G,H)))∧Below (wr.alloc (.cells #[.int .i64 G,.int .i64 H] 56)).heap.size (wr.alloc (.cells #[.int .i64 G,.int .i64 H] 56)) w':=d
    have ao:IntKind.i64.wrap ((i:Int)+1)=(i:Int)+1:=IntWalk.i64_in _ (by omega)
    have ap:IntKind.i64.wrap ((j:Int)+1)=(j:Int)+1:=IntWalk.i64_in _ (by omega)
    have aq:(i:Int) < (n:Int):=by omega
    have HY:=zdG Z
    have D:b < wr.heap.size:=World.block_lt_of_cell? _ _ cj
    have aj:b < (wr.alloc (.cells #[.int .i64 G,.int .i64 H] 56)).heap.size:=by rw[World.size_alloc];omega
    clear m R K Z aa U V ad a4
    cases hq:p (G,H) with
    |true=>
     rw[hq] at d
     go_wp2_with (go_at_fn g;refine d.mono ?_;rintro e w4 ⟨rfl,C⟩;have X:=zdG (za (below_alloc1 wr _) C);clear d C)
     have B:=zdG (P.out.skip Q (by rw[HY.out];exact hq) X.out)
     refine⟨?_,by simp[intOf];omega⟩
     first|exact⟨i,j+1,h,by omega,by omega,rfl,by go_num,B⟩|((repeat apply Exists.intro);exact⟨⟨i,j+1,h,by omega,by omega,rfl,by go_num,B⟩,rfl⟩)
    |false=>
     rw[hq] at d
     go_wp2_with (go_at_fn g;refine d.mono ?_;rintro e w4 ⟨rfl,C⟩;have E:=za (below_alloc1 wr (.cells #[.int .i64 G,.int .i64 H] 56)) C;have ar:=(E.cell (p:=⟨b,c+i * 2,none⟩) D).trans ci;have au:=(vM E (p:=⟨b,c+i * 2,none⟩) D).trans fi;have av:=(E.cell (p:=⟨b,c+i * 2+1,none⟩) D).trans ae;have aw:=(vM E (p:=⟨b,c+i * 2+1,none⟩) D).trans a5;have v0:w4.cell? ⟨wr.heap.size,0,none⟩=some (.int .i64 G):=(C.cell (by rw[World.size_alloc];simp)).trans ((Blk.new wr 56 #[.int .i64 G,.int .i64 H]).cell 0);have v1:w4.cell? ⟨wr.heap.size,1,none⟩=some (.int .i64 H):=(C.cell (by rw[World.size_alloc];simp)).trans ((Blk.new wr 56 #[.int .i64 G,.int .i64 H]).cell 1);have X:=zdG E;clear d C E)
     have B:=P.out.keep a2.out q.out Q (by rw[HY.out];exact hq) X.out
     rw[HY.out] at B
     simp only at B
     have a6:=zdG B
     clear B
     refine⟨?_,by simp[intOf];omega⟩
     first|exact⟨i+1,j+1,_,by omega,by omega,by go_num,by go_num,a6⟩|((repeat apply Exists.intro);exact⟨⟨i+1,j+1,_,by omega,by omega,by go_num,by go_num,a6⟩,rfl⟩)
   ·have a3:¬(j:Int) < (n:Int):=by omega
    obtain rfl:j=n:=by omega
    obtain⟨N,O⟩:=P.out.cut a2.out q.out
    have L:∀t,t < (j - i) * 2→(wr.cell? ⟨b,c+i * 2+t,none⟩).isSome=true∧wr.frozen? ⟨b,c+i * 2+t,none⟩=false:=fun t ht=>by
     obtain⟨b',a8,a9,_,R,_,_,_,m⟩:=P.out.sl.at_ (by rw[q.out];omega)
     have A:=(Value.slice.inj R).1
     injection A with A
     injection A with e1 e2
     subst e1 e2
     obtain⟨z1,z2⟩:=m (i * 2+t) (by rw[q.out];omega)
     rw[←Nat.add_assoc] at z1 z2
     refine⟨?_,z2⟩
     rw[z1,List.getElem?_eq_getElem (by rw[yX zJ,P.out.len,q.out];omega)]
     rfl
    have ax:∀ty,(Builtin.clear_ #[52] ty #[.slice (some ⟨b,c+i * 2,none⟩) (j - i) (f - i)]).run Tryz.prog wr=.ok (.tuple #[]) (wr.setCells b (c+i * 2) (List.replicate ((j - i) * 2) (.int .i64 0))):=fun ty=>
     U2 wr _ 56 ty Tryz.underlying52 (fun W=>by first|rfl|kernel_rfl) b (c+i * 2) (j - i) (f - i) (by omega) (fun t ht=>(L t ht).1) (fun t ht=>(L t ht).2)
    have af:=zdG N
    have ag:=zdG O
    have q1:(0:Int)≤(i:Int):=by omega
    have q2:(i:Int)≤(j:Int):=by omega
    have q3:(j:Int)≤(f:Int):=by omega
    have q4:¬f=i:=by omega
    have q5:((f:Int)==(i:Int))=false:=by simp;omega
    have q6:i≤f:=by omega
    have q7:i≤j:=by omega
    clear L N O
    go_wp2_with fail
    go_ret
    exact⟨_,rfl,af.out,ag.out⟩
theorem Try.infoInt9:(Tryz.prog.info? 3).map (fun i=>(i.zero,i.size,i.bytes))=some (some (.int .i64 0),1,8):=by kernel_rfl
theorem QZ (n:Nat)(hn:n≤1099511627776)(w:World):Calls Tryz.prog 193 #[.slice none 0 0,.int .i64 n] w fun e w'=>∃v h,e=.returned v∧Sl w' 3 1 v h 0 []∧(∀b,h=some b→w.heap.size≤b)∧Below w.heap.size w w':=by
 rcases Nat.eq_zero_or_pos n with h0|hpos
 ·subst h0
  go_enter Tryz.func193,Tryz.ntmps193
  go_wp2_with fail
  go_ret
  exact⟨_,none,rfl,Sl.nil _ _ _,fun b hb=>(by cases hb),Below.refl _ _⟩
 ·obtain⟨p,s,m,o,g⟩:=info_parts Try.infoInt9
  have t:¬((n:Int) < 0):=by omega
  have u:IntKind.i64.wrap (n:Int)=(n:Int):=IntWalk.i64_in _ (by omega)
  have x:(0:Int) < (n:Int):=by omega
  have a:∀ty,(Builtin.append_ #[37,3] ty #[.slice none 0 0,.int .i64 (n:Int)]).run Tryz.prog w=
    .ok (.slice (some ⟨w.heap.size,0,none⟩) n (grownCap w n 0 3)) (w.drew.alloc (.cells ((([]:List Value).toArray++Builtin.zeroCells (Value.int .i64 0).cells n++Builtin.zeroCells (Value.int .i64 0).cells (grownCap w n 0 3 - n))) 3)):=fun ty=>by
   have h:=Lib.run_append_grow_zeros (P:=Tryz.prog) w 37 3 ty 3 p (.int .i64 0) .i64 .i64 Tryz.underlying37 Tryz.underlying3 s m none 0 0 [] (run_firstCells_none w.drew p.size 0 0 0) n hpos (by rw[o];decide) (by omega) (by omega) (by rw[g];omega) (growslice_fits (by omega) (by rw[g];omega))
   simp only[Nat.zero_add] at h
   exact h
  have j:n≤grownCap w n 0 3:=grownCap_ge w _ _ _
  have d:grownCap w n 0 3≤maxLen:=grownCap_le_maxLen w n 0 3 (by unfold maxLen;omega)
  obtain⟨G,q⟩:∃G,G=grownCap w n 0 3:=⟨_,rfl⟩
  rw[←q] at a j d
  obtain⟨i,c⟩:∃i:Array Value,i=([]:List Value).toArray++Builtin.zeroCells (Value.int .i64 0).cells n++Builtin.zeroCells (Value.int .i64 0).cells (G - n):=⟨_,rfl⟩
  rw[←c] at a
  have f:i.size=G:=by
   rw[c]
   simp[Builtin.zeroCells,Value.cells]
   omega
  have k:=zdG f
  have l:=zdG d
  have r:(0:Int)≤(G:Int):=by omega
  clear q c f
  go_enter Tryz.func193,Tryz.ntmps193
  go_wp2_with (at_builtin;refine Lib.wpList_append_run _ rfl _ _ _ _ rfl _ _ rfl rfl _ _ (a _) ?_)
  go_ret
  refine⟨_,rfl,some w.heap.size,⟨rfl,.inr ⟨w.heap.size,0,G,i,rfl,rfl,Blk.new w.drew 3 i,Nat.zero_le _,l.out,by rw[k.out];omega,by simp⟩⟩,fun b hb=>by injection hb with hb;omega,?_⟩
  exact za (zb w) (below_alloc1 w.drew _)
def ccL (l1 l2:List Int):Nat→List Int
 |0=>[]
 |1=>l1
 |_=>l1++l2
structure JJ (w wr:World)(l1 l2:List Int)(i:Nat)(v:Value):Prop where
 below:Below w.heap.size w wr
 out:∃h,Sl wr 3 1 v h (ccL l1 l2 i).length ((ccL l1 l2 i).map encI)∧∀b,h=some b→w.heap.size≤b
theorem JJ.next {w wr w':World}{l1 l2 l3:List Int}{i:Nat}{v':Value}{h h':Option Nat}{n:Nat}(hb:Below w.heap.size w wr)(hf:∀b,h=some b→w.heap.size≤b)(hs:Sl w' 3 1 v' h' n ((ccL l1 l2 i).map encI++l3.map encI))(hn:n=(ccL l1 l2 (i+1)).length)(hc:Chg h.toList wr w')(ho:h'=h∨∃g,h'=some g∧wr.heap.size≤g)(he:ccL l1 l2 (i+1)=ccL l1 l2 i++l3):JJ w w' l1 l2 (i+1) v':=by
 subst hn
 refine⟨hb.trans (hc.below hb.size (fun k hk=>hf k (by simpa using hk))),h',?_,fun b hb2=>?_⟩
 ·have a:=hs
  rw[←List.map_append,←he] at a
  exact a
 ·rcases ho with a|⟨g,a,h2⟩
  ·exact hf b (by rw[←a];exact hb2)
  ·rw[a] at hb2
   injection hb2 with hb2
   have:=hb.size
   omega
theorem JI (l:List Int):∀u∈l.map encI,u.oneCell'=true:=by
 intro u a
 obtain⟨x,_,rfl⟩:=List.mem_map.1 a
 rfl
theorem concat2B (A1 A2:Addr)(c1 c2:Nat)(l1 l2:List Int)(w w0:World)(B:Nat)(hb0:Below w.heap.size w w0)(hbk:Blk w0 B 37 #[.slice (some A1) l1.length c1,.slice (some A2) l2.length c2])(h1:RdS w [] 1 (.slice (some A1) l1.length c1) l1.length (l1.map encI))(h2:RdS w [] 1 (.slice (some A2) l2.length c2) l2.length (l2.map encI))(hn1:l1.length≤4294967296)(hn2:l2.length≤4294967296) :
  Calls Tryz.prog 145 #[.slice (some ⟨B,0,none⟩) 2 2] w0 fun e w'=>∃v h,e=.returned v∧Sl w' 3 1 v h (l1++l2).length ((l1++l2).map encI)∧(∀b,h=some b→w.heap.size≤b)∧Below w.heap.size w w':=by
 obtain⟨i0,hi,O,P,Q⟩:=info_parts Try.infoInt9
 obtain⟨o,f⟩:∃o,l1.length=o:=⟨_,rfl⟩
 obtain⟨r,g⟩:∃r,l2.length=r:=⟨_,rfl⟩
 have t:∀W:World,Below w.heap.size w W→∀j u,(l1.map encI)[j]?=some u→W.cell? (A1.add j)=some u:=fun W hb j u hu=>by
  have hj:j < l1.length:=by
   have:=(List.getElem?_eq_some_iff.1 hu).1
   simpa using this
  obtain⟨b,a0,a1,hv,_,_,F,_,G⟩:=h1.at_ (by omega)
  have x:=(Value.slice.inj hv).1
  injection x with x
  subst x
  rw[Addr.add_lit]
  exact(hb.cell F).trans ((G j (by omega)).trans hu)
 have y:∀W:World,Below w.heap.size w W→∀j u,(l2.map encI)[j]?=some u→W.cell? (A2.add j)=some u:=fun W hb j u hu=>by
  have hj:j < l2.length:=by
   have:=(List.getElem?_eq_some_iff.1 hu).1
   simpa using this
  obtain⟨b,a0,a1,hv,_,_,F,_,G⟩:=h2.at_ (by omega)
  have x:=(Value.slice.inj hv).1
  injection x with x
  subst x
  rw[Addr.add_lit]
  exact(hb.cell F).trans ((G j (by omega)).trans hu)
 rw[f] at hn1 hbk
 rw[g] at hn2 hbk
 have z:=fun W=>QZ (o+r) (by omega) W
 have J:=zdG t
 have K:=zdG y
 have A:=zdG f
 have L:=zdG g
 have c:=zdG hb0
 have d:=zdG hbk
 obtain⟨R,a5,k⟩:∃R:Nat,(o:Int)+(r:Int)=(R:Int)∧R=o+r:=⟨o+r,by omega,rfl⟩
 rw[←k] at z
 have Y:R≤8589934592:=by omega
 have a4:=zdG k
 have Z:=zdG z
 clear t y f g hb0 hbk h1 h2 k z
 have d0:w0.cell? ⟨B,0,none⟩=some (.slice (some A1) o c1):=d.out.cell 0
 have d1:w0.cell? ⟨B,1,none⟩=some (.slice (some A2) r c2):=d.out.cell 1
 go_enter Tryz.func145,Tryz.ntmps145
 go_wp2_with fail
 go_loopw [3,11] (fun sz iv wr=>∃i:Nat,i≤2∧iv=.int .i64 i∧sz=.int .i64 (if i=0 then 0 else if i=1 then (o:Int) else (R:Int))∧wr=w0) (fun _ iv _=>2 - (intOf iv).toNat)
 case atStart=>exact⟨0,by omega,rfl,rfl,rfl⟩
 case round=>
  obtain⟨i,a2,rfl,rfl,a3⟩:=hrel
  subst a3
  have h3:i=0∨i=1∨i=2:=by omega
  rcases h3 with rfl|rfl|rfl
  ·go_wp2_with fail
   exact⟨⟨1,by omega,rfl,rfl,trivial⟩,by simp[intOf]⟩
  ·go_wp2_with fail
   exact⟨⟨2,by omega,rfl,rfl,trivial⟩,by simp[intOf]⟩
  ·go_wp2_with (first
    |(go_at_call 193;refine(Z.out _).mono ?_;rintro e w1 ⟨v1,h1,rfl,S,T,U⟩;have M:Hid (JJ wr w1 l1 l2 0 v1):=zdG ⟨U,h1,S,T⟩;clear S T U)
    |fail)
   obtain⟨w0,V⟩:∃w0:World,w0=wr:=⟨_,rfl⟩
   rw[←V] at M d0 d1 d c
   clear V
   go_loopw [6,27] (fun v iv wr=>∃(i:Nat) (v':Value),i≤2∧iv=.int .i64 i∧v=v'∧Hid (JJ w0 wr l1 l2 i v')) (fun _ iv _=>2 - (intOf iv).toNat)
   case atStart=>exact⟨0,v1,by omega,rfl,rfl,M⟩
   case round=>
   obtain⟨i,v',a2,rfl,rfl,q⟩:=hrel
   have h3:i=0∨i=1∨i=2:=by omega
   rcases h3 with rfl|rfl|rfl
   ·obtain⟨h,s,H⟩:=q.out.out
    have e0:wr.cell? ⟨B,0,none⟩=some (.slice (some A1) o c1):=(q.out.below.cell (p:=⟨B,0,none⟩) d.out.lt).trans d0
    have C:=za c.out q.out.below
    have HF:=zdG H
    obtain⟨I,a⟩:∃I,(ccL l1 l2 0).length=I:=⟨_,rfl⟩
    rw[a] at s
    have N:I≤4294967296:=by
     rw[←a]
     show 0≤_
     omega
    have D:=zdG a
    have HS:=zdG s
    clear s H a
    go_wp2_with (first
     |(at_builtin;refine yA _ rfl _ _ 37 rfl Tryz.underlying37 hi O P Q rfl (by decide) HS.out rfl A1 o c1 (l1.map encI) rfl (by rw[List.length_map,A.out];omega) (J.out wr C) (JI l1) (by unfold maxLen;omega) (by omega) ?_)
     |fail)
    intro X h2 w7 l m n
    have E:Hid (JJ w0 w7 l1 l2 (0+1) X):=zdG (JJ.next q.out.below HF.out l (by rw[←D.out];show _=(l1).length;simp[ccL,A.out]) m n (by simp[ccL]))
    clear l m n
    go_wp2_with fail
    exact⟨⟨0+1,X,by omega,by go_num,rfl,E⟩,by simp[intOf]⟩
   ·obtain⟨h,s,H⟩:=q.out.out
    have x:wr.cell? ⟨B,1,none⟩=some (.slice (some A2) r c2):=(q.out.below.cell (p:=⟨B,1,none⟩) d.out.lt).trans d1
    have C:=za c.out q.out.below
    have HF:=zdG H
    obtain⟨I,a⟩:∃I,(ccL l1 l2 1).length=I:=⟨_,rfl⟩
    rw[a] at s
    have N:I≤4294967296:=by
     rw[←a]
     show l1.length≤_
     rw[A.out]
     exact hn1
    have D:=zdG a
    have HS:=zdG s
    clear s H a
    go_wp2_with (first
     |(at_builtin;refine yA _ rfl _ _ 37 rfl Tryz.underlying37 hi O P Q rfl (by decide) HS.out rfl A2 r c2 (l2.map encI) rfl (by rw[List.length_map,L.out];omega) (K.out wr C) (JI l2) (by unfold maxLen;omega) (by omega) ?_)
     |fail)
    intro X h2 w7 l m n
    have E:Hid (JJ w0 w7 l1 l2 (1+1) X):=zdG (JJ.next q.out.below HF.out l (by rw[←D.out];show _=(l1++l2).length;simp[ccL,L.out]) m n (by simp[ccL]))
    clear l m n
    go_wp2_with fail
    exact⟨⟨1+1,X,by omega,by go_num,rfl,E⟩,by simp[intOf]⟩
   ·go_wp2_with fail
    go_ret
    obtain⟨h,s,H⟩:=q.out.out
    exact⟨_,h,rfl,s,fun b hb=>(by have:=c.out.size;have:=H b hb;omega),za c.out q.out.below⟩
end Go.Proofs.YtfhlhdmhgheonaaGreatDoor
namespace Go.Proofs.YtfhlhdmhgheonaaGreatDoor
open Go.Shelf Go.RowKit
attribute [local go_sem ↓] Go.wp_at_zero Go.wp_at_succ
theorem zbk (w:World)(g:Nat)(q:zl)(x:Acc)(id:Int)(bs:List Int)(vb:Value)(h:zh w g q x)(hf:Fit x)(hno:id∉vw x.mails) :
  Calls Tryz.prog 53 #[.pointer (some ⟨g,0,none⟩),.int .i64 id,vb] w (yu w g q (yB x id bs)):=by
 have a:id∉vw (q.ms.map (·.p)):=by rw[h.same];exact hno
 obtain⟨j,i⟩:=Y4 a
 rw[h.same] at i
 have b:yB x id bs=(x,6):=by
  unfold yB
  rw[i]
 rw[b]
 have c:=h.mc hf id
 rw[j] at c
 have H:=zdG h
 clear hno a j i b h hf
 go_enter Tryz.func53,Tryz.ntmps53
 go_wp2_with (first
  |(go_at_call 126;refine c.mono ?_;rintro e k ⟨rfl,d⟩;have f:=zdG d;clear d)
  |fail)
 go_ret
 exact⟨rfl,q,Turned.of_below H.out f.out⟩
theorem Q7 (w:World)(g:Nat)(q:zl)(x:Acc)(id:Int)(A:Option Addr)(c:Nat)(h:zh w g q x)(hf:Fit x)(i:Nat)(hi:i < q.ms.length)(hpl:place (fun m:zR=>decide (m.p.id=id)) q.ms=(i:Int))(hfi:x.mails.find? (fun m=>decide (m.id=id))=some q.ms[i].p) :
  Calls Tryz.prog 53 #[.pointer (some ⟨g,0,none⟩),.int .i64 id,.slice A 0 c] w (yu w g q (yB x id [])):=by
 have a:yB x id []=(x,1):=by
  unfold yB
  rw[hfi]
  simp
 rw[a]
 have b:=h.mc hf id
 rw[hpl] at b
 have j:¬(i:Int) < 0:=by omega
 have H:=zdG h
 clear a hfi hpl h hf
 go_enter Tryz.func53,Tryz.ntmps53
 go_wp2_with (first
  |(go_at_call 126;refine b.mono ?_;rintro e k ⟨rfl,d⟩;have f:=zdG d;clear d)
  |fail)
 go_ret
 exact⟨rfl,q,Turned.of_below H.out f.out⟩
theorem Jl (w:World)(g:Nat)(q:zl)(x:Acc)(id:Int)(bs:List Int)(vb:Value)(Sb:List Nat)(h:zh w g q x)(hf:Fit x)(hr:RdS w Sb 1 vb bs.length (bs.map encI))(hbl:bs.length≤1099511627776)(hne:bs≠[])(i:Nat)(hi:i < q.ms.length)(hpl:place (fun m:zR=>decide (m.p.id=id)) q.ms=(i:Int))(hfi:x.mails.find? (fun m=>decide (m.id=id))=some q.ms[i].p)(hw:((rise bs).any fun id=>!zu x.boxes id)=true) :
  Calls Tryz.prog 53 #[.pointer (some ⟨g,0,none⟩),.int .i64 id,vb] w (yu w g q (yB x id bs)):=by
 have c:yB x id bs=(x,6):=by
  unfold yB
  rw[hfi]
  simp only
  rw[if_neg hne,if_pos hw]
 rw[c]
 obtain⟨B,C,t,_,_⟩:=hr.form
 subst t
 obtain⟨nb,b⟩:∃nb,bs.length=nb:=⟨_,rfl⟩
 have v:0 < nb:=by
  rw[←b]
  exact List.length_pos_iff.2 hne
 have d:=h.mc hf id
 rw[hpl] at d
 have y:¬(i:Int) < 0:=by omega
 have n:x.boxes.length≤1099511627776:=by have:=hf.nb;have:=hf.clock;have:=hf.cfg.mod;omega
 have a:=fun W (hb:Below w.heap.size w W)=>uQ W g q x (h.later hb) n bs _ Sb (hr.below hb) hbl
 rw[hw] at a
 have z:((nb:Int)==0)=false:=by simp;omega
 rw[b] at a
 rw[b]
 have H:=zdG h
 have o:=zdG a
 clear a hpl hw hr h hf hne b hfi c
 go_enter Tryz.func53,Tryz.ntmps53
 go_wp2_with (first
  |(go_at_call 126;refine d.mono ?_;rintro e A ⟨rfl,f⟩;have j:=o.out A f;have r:=zdG f;clear d f)
  |(go_at_call 91;refine j.mono ?_;rintro e D ⟨E,F,rfl,k,u,l⟩;obtain⟨G,I,rfl,_,_⟩:=k.form;have s:=zdG (za r.out l);clear j k u l)
  |fail)
 go_ret
 exact⟨rfl,q,Turned.of_below H.out (za s.out (below_alloc1 _ _))⟩
theorem zbR (w:World)(g:Nat)(q:zl)(x:Acc)(id:Int)(bs:List Int)(vb:Value)(Sb:List Nat)(h:zh w g q x)(hf:Fit x)(hr:RdS w Sb 1 vb bs.length (bs.map encI))(hbl:bs.length≤1099511627776)(hne:bs≠[])(i:Nat)(hi:i < q.ms.length)(hpl:place (fun m:zR=>decide (m.p.id=id)) q.ms=(i:Int))(hw:((rise bs).any fun id=>!zu x.boxes id)=false)(m0:zR)(hm0:q.ms[i]=m0)(fr lf:List Int)(hfr:((rise bs).filter fun b=>!decide (b∈yF m0.p.members))=fr)(hlf:((yF m0.p.members).filter fun b=>!decide (b∈rise bs))=lf)(hsome:0 < fr.length+lf.length)(hen:x.cfg.maxMod≤x.clock) :
  Calls Tryz.prog 53 #[.pointer (some ⟨g,0,none⟩),.int .i64 id,vb] w fun e w'=>e=.returned (.int .i64 11)∧Below w.heap.size w w':=by
 have H:=zdG h
 have aa:∀j∈fr,j∈ids x.boxes:=fun j hj=>by
  rw[←hfr] at hj
  have h1:=(List.mem_filter.1 hj).1
  have h2:=List.any_eq_false.1 hw j h1
  exact(yU x.boxes j).1 (by simpa using h2)
 have cs:=zdG aa
 have U:fr.length≤(rise bs).length:=by rw[←hfr];exact List.length_filter_le _ _
 have V:lf.length≤m0.p.members.length:=by rw[←hlf];exact Nat.le_trans (List.length_filter_le _ _) (by simp[yF])
 obtain⟨Ab,cb,cf,_,_⟩:=hr.form
 subst cf
 obtain⟨nb,O⟩:∃nb,bs.length=nb:=⟨_,rfl⟩
 have cm:0 < nb:=by
  rw[←O]
  exact List.length_pos_iff.2 hne
 have bq:i < x.mails.length:=by rw[←h.Za];exact hi
 obtain⟨b,d,cg,hv,ch,d1,d2,ax,a⟩:=h.xu i bq hi
 rw[hm0] at a
 have v:=h.parts _ (List.getElem_mem hi)
 rw[hm0] at v
 obtain⟨ay,az,a',_,_⟩:=v.keys.form
 obtain⟨b8,b9,ba,_,_⟩:=v.mem.form
 have ab:m0.p∈x.mails:=by rw[←h.same,←hm0];exact List.mem_map_of_mem (List.getElem_mem hi)
 have cn:=hf.Jp ab
 have a0:=h.mc hf id
 rw[hpl] at a0
 have ct:¬(i:Int) < 0:=by omega
 have cu:(0:Int)≤(i:Int):=by omega
 obtain⟨n,bb⟩:∃n,x.mails.length=n:=⟨_,rfl⟩
 rw[bb] at hv
 have cv:(i:Int) < (n:Int):=by omega
 have br:x.boxes.length≤1099511627776:=by have:=hf.nb;have:=hf.clock;have:=hf.cfg.mod;omega
 have K:(rise bs).length≤1099511627776:=Nat.le_trans (zY _) hbl
 have c:=fun W (hb:Below w.heap.size w W)=>uQ W g q x (h.later hb) br bs _ Sb (hr.below hb) hbl
 rw[hw] at c
 have cw:((nb:Int)==0)=false:=by simp;omega
 have ac:∀W,Below w.heap.size w W→W.cell? ⟨g,11,none⟩=some (.slice (some ⟨b,d,none⟩) n cg)∧∀j,j < 8→W.cell? ⟨b,d+i * 8+j,none⟩=(xP m0)[j]?:=fun W hb=>⟨by rw[(h.later hb).zU,hv],fun j hj=>(hb.cell ax).trans (a j hj).1⟩
 have ad:∀W,Below w.heap.size w W→RdS W [] 2 m0.mv m0.p.members.length (zk zA m0.p.members):=fun W hb=>(v.mem.below hb).sub (fun _ _ _ hm=>by cases hm)
 rw[O] at c
 rw[O]
 obtain⟨u,a5⟩:∃u,(rise bs).length=u:=⟨_,rfl⟩
 rw[a5] at c K
 have bt:=zdG c
 have bu:=zdG ac
 have bv:=zdG ad
 have bw:=zdG a'
 have ae:=zdG ba
 have bx:=zdG hfr
 have bz:=zdG hlf
 have r:=zdG a5
 have af:=zdG U
 have ag:=zdG V
 have a1:=zdG hsome
 clear aa c ac ad a' ba hfr hlf a5 hpl hw hr hv a v hm0 ab h hf hne O bb ch U V hsome
 go_enter Tryz.func53,Tryz.ntmps53
 go_upto_region 11 with(first
  |(go_at_call 126;refine a0.mono ?_;rintro e w1 ⟨rfl,a6⟩;have ah:=bt.out w1 a6;have b':=zdG a6;clear a0 a6)
  |(go_at_call 91;refine ah.mono ?_;rintro e w2 ⟨v2,h2,rfl,a7,bc,f⟩;obtain⟨P,Q,rfl,_,_⟩:=a7.form;have c0:=zdG a7;have cx:=zdG bc;have c1:=zdG (za b'.out f);clear ah a7 bc f)
  |fail)
 obtain⟨o,c⟩:∃o:World,o=w2.alloc (.cells #[.slice P u Q] 37):=⟨_,rfl⟩
 rw[←c]
 obtain⟨C,hC⟩:∃C,C=w2.heap.size:=⟨_,rfl⟩
 rw[←hC]
 have dC:o.cell? ⟨C,0,none⟩=some (.slice P u Q):=by rw[c,hC];exact(Blk.new w2 37 #[.slice P u Q]).cell 0
 have L:Below w.heap.size w o:=by rw[c];exact za c1.out (below_alloc1 _ _)
 have ai:Sl o 3 1 (.slice P u Q) h2 u ((rise bs).map encI):=by rw[c];exact c0.out.alloc _
 obtain⟨ci,a⟩:=bu.out o L
 have b0:o.cell? ⟨b,d+i * 8,none⟩=some (.int .i64 m0.p.id):=a 0 (by omega)
 have b1:o.cell? ⟨b,d+i * 8+1,none⟩=some (.int .i64 m0.p.thread):=a 1 (by omega)
 have t:o.cell? ⟨b,d+i * 8+2,none⟩=some (.string ⟨m0.p.text.toArray⟩):=a 2 (by omega)
 have b3:o.cell? ⟨b,d+i * 8+3,none⟩=some (.int .i64 m0.p.at_):=a 3 (by omega)
 have b4:o.cell? ⟨b,d+i * 8+4,none⟩=some (.slice ay m0.p.keys.length az):=(a 4 (by omega)).trans (by rw[←bw.out];rfl)
 have b5:o.cell? ⟨b,d+i * 8+5,none⟩=some (.slice b8 m0.p.members.length b9):=(a 5 (by omega)).trans (by rw[←ae.out];rfl)
 have b6:o.cell? ⟨b,d+i * 8+6,none⟩=some (.int .i64 m0.p.mod):=a 6 (by omega)
 have b7:o.cell? ⟨b,d+i * 8+7,none⟩=some (.int .i64 m0.p.born):=a 7 (by omega)
 have aj:=uR o m0.p.id m0.p.thread m0.p.at_ m0.p.mod m0.p.born ⟨m0.p.text.toArray⟩ (.slice ay m0.p.keys.length az) (.slice b8 m0.p.members.length b9) m0.p.members (by
  have h1:=bv.out o L
  rw[ae.out] at h1
  exact h1) (by omega)
 have c4:=zdG L
 have ak:=zdG ai
 have al:=zdG dC
 clear a c hC L ai dC
 go_upto_region 12 with(first
  |(go_at_call 129;refine aj.mono ?_;rintro e w3 ⟨v3,h3,rfl,a8,bd,be⟩;obtain⟨A3,c3,rfl,_,_⟩:=a8.form;have c8:=zdG a8;have cy:=zdG bd;have ca:=zdG be;clear aj a8 bd be)
  |fail)
 clear b0 b1 t b3 b4 b5 b6 b7 ci
 obtain⟨R,S⟩:∃R,m0.p.members.length=R:=⟨_,rfl⟩
 have s:Hid ((yF m0.p.members).length=R):=zdG (by rw[←S];simp[yF])
 obtain⟨T,I⟩:∃T:World,T=w3.alloc (.cells #[.slice A3 m0.p.members.length c3] 37):=⟨_,rfl⟩
 rw[←I]
 obtain⟨D,hD⟩:∃D,D=w3.heap.size:=⟨_,rfl⟩
 rw[←hD]
 have M:Below o.heap.size o T:=by rw[I];exact za ca.out (below_alloc1 _ _)
 have dD:T.cell? ⟨D,0,none⟩=some (.slice A3 R c3):=by rw[I,hD,←S];exact(Blk.new w3 37 #[.slice A3 m0.p.members.length c3]).cell 0
 have dC:T.cell? ⟨C,0,none⟩=some (.slice P u Q):=(M.cell (p:=⟨C,0,none⟩) (World.block_lt_of_cell? _ _ al.out)).trans al.out
 have z:Sl T 3 1 (.slice P u Q) h2 (rise bs).length ((rise bs).map encI):=by rw[r.out];exact ak.out.keep (fun t f=>M.block t (ak.out.lt t f))
 have X:Sl T 3 1 (.slice A3 R c3) h3 (yF m0.p.members).length ((yF m0.p.members).map encI):=by
  rw[s.out,I,←S]
  exact c8.out.alloc _
 have a2:=xK T (.slice P u Q) (rise bs) [] (z.reads [] (by simp)) (by rw[r.out];exact K)
 rw[r.out] at a2
 have A:R≤1099511627776:=by omega
 have cc:=zdG (za c4.out M)
 have Y:=zdG z
 have B:=zdG X
 have a3:=zdG dD
 have Z:=zdG dC
 clear I hD M z X dD S
 go_upto_region 13 with(first
  |(go_at_call 135;refine a2.mono ?_;rintro e w4 ⟨v4,h4,rfl,bf,bg,bh⟩;have a4:=zbs (w0:=T) (w4:=w4) (v4:=v4) (h4:=h4) (l:=rise bs) (k:=yF m0.p.members) 136 (enters_of Tryz.func136 (by kernel_rfl) rfl) (fun y W hB hr hn=>ZX y D _ _ W hB hr hn) a3.out B.out (by rw[s.out];exact A) (by rw[r.out];exact bf) (by rw[r.out];exact K) bg bh;rw[bx.out] at a4;clear a2 bf bh bg)
  |(go_at_call 134;refine a4.mono ?_;rintro e w5 ⟨A5,n5,c5,h5,rfl,bi,bj,cj,bk⟩;have am:=zdG bi;have an:=zdG bj;have E:=zdG bk;clear a4 bj cj bk bi)
  |fail)
 have cz:w5.cell? ⟨D,0,none⟩=some (.slice A3 R c3):=(E.out.cell (p:=⟨D,0,none⟩) (World.block_lt_of_cell? _ _ a3.out)).trans a3.out
 have ao:w5.cell? ⟨C,0,none⟩=some (.slice P u Q):=(E.out.cell (p:=⟨C,0,none⟩) (World.block_lt_of_cell? _ _ Z.out)).trans Z.out
 have ap:Sl w5 3 1 (.slice P u Q) h2 (rise bs).length ((rise bs).map encI):=Y.out.keep (fun t f=>E.out.block t (Y.out.lt t f))
 have aq:Sl w5 3 1 (.slice A3 R c3) h3 (yF m0.p.members).length ((yF m0.p.members).map encI):=B.out.keep (fun t f=>E.out.block t (B.out.lt t f))
 have F:=xK w5 (.slice A3 R c3) (yF m0.p.members) [] (aq.reads [] (by simp)) (by rw[s.out];exact A)
 rw[s.out] at F
 have ar:=zdG ao
 have cd:=zdG ap
 clear ao ap aq
 go_upto_region 14 with(first
  |(go_at_call 135;refine F.mono ?_;rintro e w6 ⟨v6,h6,rfl,bl,bm,bn⟩;have G:=zbs (w0:=w5) (w4:=w6) (v4:=v6) (h4:=h6) (l:=yF m0.p.members) (k:=rise bs) 138 (enters_of Tryz.func138 (by kernel_rfl) rfl) (fun y W hB hr hn=>ZR y C _ _ W hB hr hn) ar.out cd.out (by rw[r.out];exact K) (by rw[s.out];exact bl) (by rw[s.out];exact A) bm bn;rw[bz.out] at G;clear F bl bn bm)
  |(go_at_call 134;refine G.mono ?_;rintro e w7 ⟨A7,n7,c7,h7,rfl,bo,ck,cl,bp⟩;have au:=zdG bo;have av:=zdG bp;clear G ck cl bp bo)
  |fail)
 obtain⟨w8,J⟩:∃w8:World,w8=w7.alloc (.cells #[.slice A7 n7 c7] 37):=⟨_,rfl⟩
 rw[←J]
 obtain⟨D7,a9⟩:∃D7,D7=w7.heap.size:=⟨_,rfl⟩
 rw[←a9]
 have d7:w8.cell? ⟨D7,0,none⟩=some (.slice A7 n7 c7):=by rw[J,a9];exact(Blk.new w7 37 #[.slice A7 n7 c7]).cell 0
 have N:Below w.heap.size w w8:=by rw[J];exact za (za cc.out E.out) (za av.out (below_alloc1 _ _))
 have aw:Sl w8 3 1 (.slice A5 n5 c5) h5 n5 (fr.map encI):=by
  rw[J]
  exact(an.out.keep (fun t f=>av.out.block t (an.out.lt t f))).alloc _
 have ce:=zdG N
 have c':=zdG aw
 obtain⟨nt,d3,cr⟩:∃nt:Nat,(n5:Int)+(n7:Int)=(nt:Int)∧0 < nt:=⟨n5+n7,by omega,by have:=am.out;have:=au.out;have:=a1.out;omega⟩
 have co:n5≤1099511627776:=by have:=am.out;have:=af.out;have:=r.out;omega
 have cp:n7≤1099511627776:=by have:=au.out;have:=ag.out;have:=s.out;simp only[yF,List.length_map] at this;omega
 have cq:nt≤2199023255552:=by omega
 have d0:((nt:Int)==0)=false:=by simp;omega
 have c9:=(H.out.later N).yo
 have c6:w8.cell? ⟨g,6,none⟩=some (.int .i64 x.cfg.maxMod):=(H.out.later N).cells 6
 clear J a9 N aw
 go_wp2_with (first
  |(go_at_call 92;refine(yQ g x.clock x.cfg.maxMod _ ((zB (w:=w8) (by rfl) _).trans c9) ((zB (w:=w8) (by rfl) _).trans c6)).mono ?_;rintro e w9 ⟨rfl,ne,rfl⟩)
  |fail)
 go_ret
 exact⟨rfl,za ce.out (below_drewN' (Below.refl _ _) _)⟩
theorem zaj (w:World)(g:Nat)(q:zl)(x:Acc)(id:Int)(bs:List Int)(vb:Value)(Sb:List Nat)(h:zh w g q x)(hf:Fit x)(hr:RdS w Sb 1 vb bs.length (bs.map encI))(hbl:bs.length≤1099511627776)(hne:bs≠[])(i:Nat)(hi:i < q.ms.length)(hpl:place (fun m:zR=>decide (m.p.id=id)) q.ms=(i:Int))(hw:((rise bs).any fun id=>!zu x.boxes id)=false)(m0:zR)(hm0:q.ms[i]=m0)(fr lf:List Int)(hfr:((rise bs).filter fun b=>!decide (b∈yF m0.p.members))=fr)(hlf:((yF m0.p.members).filter fun b=>!decide (b∈rise bs))=lf)(hsome:0 < fr.length+lf.length)(hen:¬x.cfg.maxMod≤x.clock)(hsp:fr.any x.spent=true) :
  Calls Tryz.prog 53 #[.pointer (some ⟨g,0,none⟩),.int .i64 id,vb] w fun e w'=>e=.returned (.int .i64 11)∧Below w.heap.size w w':=by
 have H:=zdG h
 have ae:∀j∈fr,j∈ids x.boxes:=fun j hj=>by
  rw[←hfr] at hj
  have h1:=(List.mem_filter.1 hj).1
  have h2:=List.any_eq_false.1 hw j h1
  exact(yU x.boxes j).1 (by simpa using h2)
 have b':=zdG ae
 have X:fr.length≤(rise bs).length:=by rw[←hfr];exact List.length_filter_le _ _
 have Y:lf.length≤m0.p.members.length:=by rw[←hlf];exact Nat.le_trans (List.length_filter_le _ _) (by simp[yF])
 obtain⟨Ab,cb,co,_,_⟩:=hr.form
 subst co
 obtain⟨nb,Q⟩:∃nb,bs.length=nb:=⟨_,rfl⟩
 have cv:0 < nb:=by
  rw[←Q]
  exact List.length_pos_iff.2 hne
 have c0:i < x.mails.length:=by rw[←h.Za];exact hi
 obtain⟨b,f,cp,hv,cq,d8,d9,bc,c⟩:=h.xu i c0 hi
 rw[hm0] at c
 have z:=h.parts _ (List.getElem_mem hi)
 rw[hm0] at z
 obtain⟨bd,be,bf,_,_⟩:=z.keys.form
 obtain⟨bg,bh,bi,_,_⟩:=z.mem.form
 have af:m0.p∈x.mails:=by rw[←h.same,←hm0];exact List.mem_map_of_mem (List.getElem_mem hi)
 have cw:=hf.Jp af
 have a3:=h.mc hf id
 rw[hpl] at a3
 have c':¬(i:Int) < 0:=by omega
 have d0:(0:Int)≤(i:Int):=by omega
 obtain⟨n,bj⟩:∃n,x.mails.length=n:=⟨_,rfl⟩
 rw[bj] at hv
 have d1:(i:Int) < (n:Int):=by omega
 have ag:x.boxes.length≤1099511627776:=by have:=hf.nb;have:=hf.clock;have:=hf.cfg.mod;omega
 have L:(rise bs).length≤1099511627776:=Nat.le_trans (zY _) hbl
 have d:=fun W (hb:Below w.heap.size w W)=>uQ W g q x (h.later hb) ag bs _ Sb (hr.below hb) hbl
 rw[hw] at d
 have d2:((nb:Int)==0)=false:=by simp;omega
 have ah:∀W,Below w.heap.size w W→W.cell? ⟨g,11,none⟩=some (.slice (some ⟨b,f,none⟩) n cp)∧∀j,j < 8→W.cell? ⟨b,f+i * 8+j,none⟩=(xP m0)[j]?:=fun W hb=>⟨by rw[(h.later hb).zU,hv],fun j hj=>(hb.cell bc).trans (c j hj).1⟩
 have ai:∀W,Below w.heap.size w W→RdS W [] 2 m0.mv m0.p.members.length (zk zA m0.p.members):=fun W hb=>(z.mem.below hb).sub (fun _ _ _ hm=>by cases hm)
 rw[Q] at d
 rw[Q]
 obtain⟨u,a9⟩:∃u,(rise bs).length=u:=⟨_,rfl⟩
 rw[a9] at d L
 have c1:=zdG d
 have c4:=zdG ah
 have c8:=zdG ai
 have ca:=zdG bf
 have aj:=zdG bi
 have cc:=zdG hfr
 have cd:=zdG hlf
 have s:=zdG a9
 have ak:=zdG X
 have al:=zdG Y
 have a4:=zdG hsome
 clear ae d ah ai bf bi hfr hlf a9 hpl hw hr hv c z hm0 af h hf hne Q bj cq X Y hsome
 go_enter Tryz.func53,Tryz.ntmps53
 go_upto_region 11 with(first
  |(go_at_call 126;refine a3.mono ?_;rintro e w1 ⟨rfl,aa⟩;have am:=c1.out w1 aa;have ce:=zdG aa;clear a3 aa)
  |(go_at_call 91;refine am.mono ?_;rintro e w2 ⟨v2,h2,rfl,ab,bk,a⟩;obtain⟨R,S,rfl,_,_⟩:=ab.form;have cf:=zdG ab;have d3:=zdG bk;have cg:=zdG (za ce.out a);clear am ab bk a)
  |fail)
 obtain⟨o,d⟩:∃o:World,o=w2.alloc (.cells #[.slice R u S] 37):=⟨_,rfl⟩
 rw[←d]
 obtain⟨C,hC⟩:∃C,C=w2.heap.size:=⟨_,rfl⟩
 rw[←hC]
 have dC:o.cell? ⟨C,0,none⟩=some (.slice R u S):=by rw[d,hC];exact(Blk.new w2 37 #[.slice R u S]).cell 0
 have M:Below w.heap.size w o:=by rw[d];exact za cg.out (below_alloc1 _ _)
 have an:Sl o 3 1 (.slice R u S) h2 u ((rise bs).map encI):=by rw[d];exact cf.out.alloc _
 obtain⟨cr,c⟩:=c4.out o M
 have b0:o.cell? ⟨b,f+i * 8,none⟩=some (.int .i64 m0.p.id):=c 0 (by omega)
 have b1:o.cell? ⟨b,f+i * 8+1,none⟩=some (.int .i64 m0.p.thread):=c 1 (by omega)
 have r:o.cell? ⟨b,f+i * 8+2,none⟩=some (.string ⟨m0.p.text.toArray⟩):=c 2 (by omega)
 have b3:o.cell? ⟨b,f+i * 8+3,none⟩=some (.int .i64 m0.p.at_):=c 3 (by omega)
 have b4:o.cell? ⟨b,f+i * 8+4,none⟩=some (.slice bd m0.p.keys.length be):=(c 4 (by omega)).trans (by rw[←ca.out];rfl)
 have b5:o.cell? ⟨b,f+i * 8+5,none⟩=some (.slice bg m0.p.members.length bh):=(c 5 (by omega)).trans (by rw[←aj.out];rfl)
 have b6:o.cell? ⟨b,f+i * 8+6,none⟩=some (.int .i64 m0.p.mod):=c 6 (by omega)
 have b7:o.cell? ⟨b,f+i * 8+7,none⟩=some (.int .i64 m0.p.born):=c 7 (by omega)
 have ao:=uR o m0.p.id m0.p.thread m0.p.at_ m0.p.mod m0.p.born ⟨m0.p.text.toArray⟩ (.slice bd m0.p.keys.length be) (.slice bg m0.p.members.length bh) m0.p.members (by
  have h1:=c8.out o M
  rw[aj.out] at h1
  exact h1) (by omega)
 have ch:=zdG M
 have ap:=zdG an
 have aq:=zdG dC
 clear c d hC M an dC
 go_upto_region 12 with(first
  |(go_at_call 129;refine ao.mono ?_;rintro e w3 ⟨v3,h3,rfl,ac,bl,bm⟩;obtain⟨A3,c3,rfl,_,_⟩:=ac.form;have ci:=zdG ac;have d4:=zdG bl;have cj:=zdG bm;clear ao ac bl bm)
  |fail)
 clear b0 b1 r b3 b4 b5 b6 b7 cr
 obtain⟨T,U⟩:∃T,m0.p.members.length=T:=⟨_,rfl⟩
 have t:Hid ((yF m0.p.members).length=T):=zdG (by rw[←U];simp[yF])
 obtain⟨V,J⟩:∃V:World,V=w3.alloc (.cells #[.slice A3 m0.p.members.length c3] 37):=⟨_,rfl⟩
 rw[←J]
 obtain⟨D,hD⟩:∃D,D=w3.heap.size:=⟨_,rfl⟩
 rw[←hD]
 have N:Below o.heap.size o V:=by rw[J];exact za cj.out (below_alloc1 _ _)
 have dD:V.cell? ⟨D,0,none⟩=some (.slice A3 T c3):=by rw[J,hD,←U];exact(Blk.new w3 37 #[.slice A3 m0.p.members.length c3]).cell 0
 have dC:V.cell? ⟨C,0,none⟩=some (.slice R u S):=(N.cell (p:=⟨C,0,none⟩) (World.block_lt_of_cell? _ _ aq.out)).trans aq.out
 have A:Sl V 3 1 (.slice R u S) h2 (rise bs).length ((rise bs).map encI):=by rw[s.out];exact ap.out.keep (fun r a=>N.block r (ap.out.lt r a))
 have Z:Sl V 3 1 (.slice A3 T c3) h3 (yF m0.p.members).length ((yF m0.p.members).map encI):=by
  rw[t.out,J,←U]
  exact ci.out.alloc _
 have a5:=xK V (.slice R u S) (rise bs) [] (A.reads [] (by simp)) (by rw[s.out];exact L)
 rw[s.out] at a5
 have B:T≤1099511627776:=by omega
 have ck:=zdG (za ch.out N)
 have a0:=zdG A
 have E:=zdG Z
 have a6:=zdG dD
 have a1:=zdG dC
 clear J hD N A Z dD U
 go_upto_region 13 with(first
  |(go_at_call 135;refine a5.mono ?_;rintro e w4 ⟨v4,h4,rfl,bn,bo,bp⟩;have a7:=zbs (w0:=V) (w4:=w4) (v4:=v4) (h4:=h4) (l:=rise bs) (k:=yF m0.p.members) 136 (enters_of Tryz.func136 (by kernel_rfl) rfl) (fun y W hB hr hn=>ZX y D _ _ W hB hr hn) a6.out E.out (by rw[t.out];exact B) (by rw[s.out];exact bn) (by rw[s.out];exact L) bo bp;rw[cc.out] at a7;clear a5 bn bp bo)
  |(go_at_call 134;refine a7.mono ?_;rintro e w5 ⟨A5,n5,c5,h5,rfl,bq,br,cs,bt⟩;have O:=zdG bq;have ar:=zdG br;have F:=zdG bt;clear a7 br cs bt bq)
  |fail)
 have d5:w5.cell? ⟨D,0,none⟩=some (.slice A3 T c3):=(F.out.cell (p:=⟨D,0,none⟩) (World.block_lt_of_cell? _ _ a6.out)).trans a6.out
 have au:w5.cell? ⟨C,0,none⟩=some (.slice R u S):=(F.out.cell (p:=⟨C,0,none⟩) (World.block_lt_of_cell? _ _ a1.out)).trans a1.out
 have av:Sl w5 3 1 (.slice R u S) h2 (rise bs).length ((rise bs).map encI):=a0.out.keep (fun r a=>F.out.block r (a0.out.lt r a))
 have aw:Sl w5 3 1 (.slice A3 T c3) h3 (yF m0.p.members).length ((yF m0.p.members).map encI):=E.out.keep (fun r a=>F.out.block r (E.out.lt r a))
 have G:=xK w5 (.slice A3 T c3) (yF m0.p.members) [] (aw.reads [] (by simp)) (by rw[t.out];exact B)
 rw[t.out] at G
 have ax:=zdG au
 have cl:=zdG av
 clear au av aw
 go_upto_region 14 with(first
  |(go_at_call 135;refine G.mono ?_;rintro e w6 ⟨v6,h6,rfl,bu,bv,bw⟩;have I:=zbs (w0:=w5) (w4:=w6) (v4:=v6) (h4:=h6) (l:=yF m0.p.members) (k:=rise bs) 138 (enters_of Tryz.func138 (by kernel_rfl) rfl) (fun y W hB hr hn=>ZR y C _ _ W hB hr hn) ax.out cl.out (by rw[s.out];exact L) (by rw[t.out];exact bu) (by rw[t.out];exact B) bv bw;rw[cd.out] at I;clear G bu bw bv)
  |(go_at_call 134;refine I.mono ?_;rintro e w7 ⟨A7,n7,c7,h7,rfl,bx,ct,cu,bz⟩;have ay:=zdG bx;have az:=zdG bz;clear I ct cu bz bx)
  |fail)
 obtain⟨v,K⟩:∃v:World,v=w7.alloc (.cells #[.slice A7 n7 c7] 37):=⟨_,rfl⟩
 rw[←K]
 obtain⟨D7,ad⟩:∃D7,D7=w7.heap.size:=⟨_,rfl⟩
 rw[←ad]
 have d7:v.cell? ⟨D7,0,none⟩=some (.slice A7 n7 c7):=by rw[K,ad];exact(Blk.new w7 37 #[.slice A7 n7 c7]).cell 0
 have P:Below w.heap.size w v:=by rw[K];exact za (za ck.out F.out) (za az.out (below_alloc1 _ _))
 have a':Sl v 3 1 (.slice A5 n5 c5) h5 n5 (fr.map encI):=by
  rw[K]
  exact(ar.out.keep (fun r a=>az.out.block r (ar.out.lt r a))).alloc _
 have b8:=zdG P
 have b9:=zdG a'
 obtain⟨nt,da,cz⟩:∃nt:Nat,(n5:Int)+(n7:Int)=(nt:Int)∧0 < nt:=⟨n5+n7,by omega,by have:=O.out;have:=ay.out;have:=a4.out;omega⟩
 have ba:n5≤1099511627776:=by have:=O.out;have:=ak.out;have:=s.out;omega
 have cx:n7≤1099511627776:=by have:=ay.out;have:=al.out;have:=t.out;simp only[yF,List.length_map] at this;omega
 have cy:nt≤2199023255552:=by omega
 have d6:((nt:Int)==0)=false:=by simp;omega
 have c9:=(H.out.later P).yo
 have c6:v.cell? ⟨g,6,none⟩=some (.int .i64 x.cfg.maxMod):=(H.out.later P).cells 6
 clear K ad P a'
 have a8:∀W,Below v.heap.size v W→Calls Tryz.prog 93 #[.slice A5 n5 c5,.func (.func 94) #[.pointer (some ⟨g,0,none⟩)] #[]] W fun e w'=>e=.returned (.bool (fr.any x.spent))∧Below W.heap.size W w':=fun W hb=>by
  have cm:Sl W 3 1 (.slice A5 n5 c5) h5 fr.length (fr.map encI):=by
   rw[←O.out]
   exact b9.out.keep (fun r a=>hb.block r (b9.out.lt r a))
  exact Jb _ [] fr x.spent _ _ (enters_of Tryz.func94 (by kernel_rfl) rfl) W (cm.reads [] (by simp)) (by rw[←O.out];exact ba) (fun W2 a y hy=>(Vy W2 g q x (H.out.later (za (za b8.out hb) a)) ag y (b'.out y hy)).mono fun e w' ⟨e1,e2⟩=>⟨e1,za a e2⟩)
 rw[hsp] at a8
 have cn:=zdG a8
 clear a8 hsp
 go_wp2_with (first
  |(go_at_call 92;refine(yQ g x.clock x.cfg.maxMod _ ((zB (w:=v) (by rfl) _).trans c9) ((zB (w:=v) (by rfl) _).trans c6)).mono ?_;rintro e w9 ⟨rfl,ne,rfl⟩)
  |(go_at_call 93;refine(cn.out _ (below_drewN' (Below.refl _ _) _)).mono ?_;rintro e db ⟨rfl,a2⟩;have bb:=zdG a2;clear a2)
  |fail)
 go_ret
 exact⟨rfl,za b8.out (za (below_drewN' (Below.refl v.heap.size v) _) bb.out)⟩
end Go.Proofs.YtfhlhdmhgheonaaGreatDoor
