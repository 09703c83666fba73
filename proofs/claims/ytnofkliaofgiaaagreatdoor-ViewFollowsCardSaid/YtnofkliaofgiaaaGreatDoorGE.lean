/-
  The walk of field.one: the field that a text is. The walk of field.First: the value of the first field of a name. The walk of field.lines and of the iterator that it hands back. Words for field.Split: what the loop over the lines keeps, and what the loop over the gathered ones does. The walk of field.Split: the fields of a text, and the place behind them. The walks of the store's thread and of its
-/
import Derived.Test.YtnofkliaofgiaaaGreatDoorGB
import Derived.Test.YtnofkliaofgiaaaGreatDoorGD
import Derived.Test.YtnofkliaofgiaaaGreatDoorGA
import Derived.RangeFuncNested
import Derived.RangeFuncBound
import Derived.RangeFuncCalls
import Derived.RangeFuncLeaves
import Derived.Shelf.Abstract
import Derived.Shelf.RegionOpen
import Derived.OwnWalkIn
import Derived.TacticsInMore
import Derived.LoopNIn
import Derived.LoopIn
import Derived.Deep.QuietTactic
import Derived.BigQuiet
import Derived.Deep.RegionLaw
import Derived.Deep.DrawnRows
import Derived.Deep.DeepCutAuto
import Derived.Deep.CutBlock
import Derived.StillTailTactics
set_option maxRecDepth 100000
set_option maxHeartbeats 8000000
open Go.Proofs.Tryz
open Array renaming getElem?_eq_some_iff→Pp
open Exists renaming intro→OA
open Go renaming FuncId→PR,Program→Pv,TypeId→Pa,Value→Oe,World→Oc
open Go.ByteArray renaming mk_append_mk→Pj,toList_eq→Pu
open Go.Ending renaming returned→RR
open Go.Fence renaming wide→RN
open Go.IntKind renaming i64→Ov
open Go.IntWalk renaming i64_in→Og
open Go.Lib renaming cut→PY,indexByte→O0,trimS→Ry,trimSuffix→PB
open Go.Proofs renaming enters_of→O9
open Go.Region renaming wanted→P9
open Go.RowKit renaming Below→Od
open Go.RowKit.Below renaming heap_setCell→P3,refl→Ok
open Go.Value renaming pointer→RQ,slice→RO,string→RP
open Go.World renaming cell?_alloc_at→PZ,putObj_heap_other→PI,size_alloc→O3
open List renaming append_assoc→O4,append_nil→Pr,cons_append→PO,eq_nil_of_length_eq_zero→Oi,find?_cons_of_neg→Pb,foldl_cons→Pm,getElem?_eq_some_iff→OX,getElem_mem→Oj,getElem_of_mem→Pg,length_append→Oo,length_cons→OT,length_drop→O8,length_map→Ow,length_set→Pd,length_singleton→Pf,length_take→OU,map_append→OQ,map_cons→OY,mem_append→OO,mem_cons→OB,mem_cons_of_mem→OP,mem_map→OL,mem_singleton→OI,nil_append→PE,size_toArray→PC,take_of_length_le→Ou,take_succ_eq_append_getElem→Oh
open Nat renaming add_assoc→O1,le_refl→Oq,le_trans→Ol,zero_le→OE
open Option.some renaming inj→O6
open _root_ renaming ByteArray→Oy,List→Ob,Option→OC,UInt8→Oz,if_neg→Om,if_pos→OG
namespace Go.Proofs.YtnofkliaofgiaaaGreatDoor
theorem zzm2q{p:Prop}(h:p:=by
 obtain⟨gv,hg,Dt,Bt,Du⟩:=hF.st.cell
 obtain⟨A,cap,rfl,_,_⟩:=Bt.form
 obtain⟨n,hn⟩:∃n,g.length=n:=⟨_,rfl⟩
 have Ia:D < W.heap.size:=(Pp.1 hK).1
 have c1:W.cell? (Y (N+1) 0)=some (RO A n cap):=by rw[←hn];exact Dt.cell 0
 have HR:Z (gV w W N g bp D (RO A n cap) hg 0 (RO none 0 0)):=V ⟨⟨none,Sl.nil _ _ _,fun b hb=>by cases hb⟩,by rw[←hn];exact Bt,fun b hb=>by have:=Du b hb;omega,hF.st.body,hF.st.below,hK⟩
 have HF:=V hF
 have HN:=V hn
 have hnb:n≤2147483648:=by rw[←hn];exact hF.glen
 have F6:N≤W.heap.size:=by have:=hF.size;omega
 clear Dt Bt Du hF hn hK I9 I6
 go_wp2_with fail
 go_loopw [6,68] (fun f i wr=>∃k:Nat,k≤n∧i=I k∧Z (gV w wr N g bp D (RO A n cap) hg k f)∧Z (N≤wr.heap.size)) (fun _ i _=>n - (intOf i).toNat)
 case atStart=>exact⟨0,OE _,rfl,HR,V F6⟩
 case round=>
  obtain⟨k,hk,rfl,HU,lq⟩:=hrel
  by_cases af:k < n
  ·have jb:k < g.length:=Zg
   obtain⟨b3,uw,I7,_,fq,_,_,iq,Dr⟩:=HU.o.gs.at_ O
   injection fq with hv1 hv2 fq
   subst hv1 fq
   clear hv2
   have cs:wr.cell? (Y b3 (uw+k))=some (RP ⟨g[k].toArray⟩):=(Dr k O).1.trans (by simp[jb,encStr])
   have hne:=HF.o.gne g[k] (Oj jb)
   have Bq:g[k].length≤2147483648:=Ol (UI (Oj jb)) HF.o.sum
   have kz:=fun W=>one_any g[k] W O (LL _ _)
   have ig:k=0→yS (g.take (k+1))=if vd g[k]=true then [] else ZV g[k]:=fun h0=>by
    subst h0
    cases g with
    |nil=>simp at jb
    |cons y r=>exact iN y r
   have Ba:0 < k→yS (g.take (k+1))=yS (g.take k)++ZV g[k]:=fun h0=>iM g k jb h0
   clear Dr
   generalize g[k]=t at cs hne Bq kz ig Ba
   rcases t with _|⟨c,r⟩
   ·exact absurd rfl hne
   have I8:∀h:0 < (⟨(c :: r).toArray⟩:Oy).size,(⟨(c :: r).toArray⟩:Oy)[0]'h=c:=fun _=>rfl
   have qc:vd (c :: r)=(decide (c=32)||decide (c=9)):=by simp[vd]
   by_cases Bd:k=0∧vd (c :: r)=true
   ·obtain⟨rfl,hb⟩:=Bd
    simp only[Nat.add_zero] at cs
    have Bc:yS (g.take (0+1))=yS (g.take 0):=by rw[ig rfl,OG hb];rfl
    have kr:=V (HU.o.same Bc)
    have hc:c=32∨c=9:=by
     rw[qc] at hb
     simpa using hb
    clear kz qc hb ig Ba hne Bq Bc
    rcases hc with rfl|rfl
    ·go_wp2_with fail
     refine⟨?_,zV⟩
     first|exact⟨1,O,zE,kr,lq⟩|((repeat apply OA);exact⟨⟨1,O,zE,kr,lq⟩,rfl⟩)
    ·go_wp2_with fail
     refine⟨?_,zV⟩
     first|exact⟨1,O,zE,kr,lq⟩|((repeat apply OA);exact⟨⟨1,O,zE,kr,lq⟩,rfl⟩)
   ·have jr:yS (g.take (k+1))=yS (g.take k)++ZV (c :: r):=by
     rcases Nat.eq_zero_or_pos k with h0|h0
     ·have hb:¬vd (c :: r)=true:=fun hb=>Bd ⟨h0,hb⟩
      rw[ig h0,Om hb,h0]
      rfl
     ·exact Ba h0
    have Bo:¬k=0∨(¬c=32∧¬c=9):=by
     rcases Nat.eq_zero_or_pos k with h0|h0
     ·refine .inr ?_
      have hb:¬vd (c :: r)=true:=fun hb=>Bd ⟨h0,hb⟩
      rw[qc] at hb
      simpa using hb
     ·exact .inl O
    unfold ZV at jr
    generalize Ub (c :: r)=of at kz jr
    obtain⟨⟨fa,fb⟩,ok⟩:=of
    simp only at kz jr
    obtain⟨Dw,gq,Dq⟩:=HU.o.fs
    obtain⟨m,hm⟩:∃m,(yS (g.take k)).length=m:=⟨_,rfl⟩
    rw[hm] at gq
    have ja:=V gq
    have jm:=V Dq
    obtain⟨A0,Bb,rfl,_,_⟩:=gq.form
    have Ic:m≤k:=by
     rw[←hm]
     exact sD g k
    have HM:=V hm
    have Be:=V jr
    clear gq Dq ig Ba qc Bd jr hne Bq
    by_cases h0:k=0
    ·subst h0
     simp only[Nat.add_zero] at cs
     have hc:¬c=32∧¬c=9:=by
      rcases Bo with h|h
      ·exact absurd rfl h
      ·exact h
     have Dv:¬(c.toNat:Int)=32:=fun h=>hc.1 (by
      have h2:c.toNat=32:=O
      exact UInt8.toNat_inj.1 h2)
     have h9:¬(c.toNat:Int)=9:=fun h=>hc.2 (by
      have h2:c.toNat=9:=O
      exact UInt8.toNat_inj.1 h2)
     have I5:((c.toNat:Int)==32)=false:=by simpa using Dv
     have Ib:((c.toNat:Int)==9)=false:=by simpa using h9
     clear Dv h9 hc Bo
     cases ok with
     |false=>
      have xw:yS (g.take (0+1))=yS (g.take 0):=by rw[Be.o];simp
      have Br:=V xw
      clear xw
      go_wp2_with (first
       |(go_at_call 186;refine(kz _).mono ?_;rintro e w2 ⟨rfl,hb2⟩;have ay:=V hb2;clear kz hb2)
       |fail)
      have fe:Z (gV w (w2.alloc (.cells #[Oa fa,Oa fb] 240)) N g bp D (RO (some (Y b3 uw)) n cap) hg (0+1) (RO A0 m Bb)):=V ((HU.o.later lq.o (zj ay.o (zt _ _))).same Br.o)
      have iy:Z (N≤(w2.alloc (.cells #[Oa fa,Oa fb] 240)).heap.size):=V gO
      refine⟨?_,zV⟩
      first|exact⟨0+1,O,zE,fe,iy⟩|((repeat apply OA);exact⟨⟨0+1,O,zE,fe,iy⟩,rfl⟩)
     |true=>
      go_wp2_with (first
       |(go_at_call 186;refine(kz _).mono ?_;rintro e w2 ⟨rfl,hb2⟩;have ay:=V hb2;have jq:Z (Sl w2 240 2 (RO A0 m Bb) Dw m (zU QD (yS (g.take 0)))):=V (ja.o.keep (fun b hb=>hb2.block b (ja.o.lt b hb)));clear kz hb2)
       |(at_builtin;refine xI rfl _ _ 209 rfl underlying209 hj F9 F7 hj2 rfl zD (jq.o.alloc _) rfl (w2.heap.size+1) zv 1 1 rfl rfl ?_ ?_ ?_ ?_)
       |fail)
      any_goals (first|(simp[Value.oneCell'];done)|(unfold maxLen;omega)|omega|rfl)
      ·intro v2 h2 w5 jd o8 lu
       obtain⟨A5,Bp,rfl,_,_⟩:=jd.form
       have fe:Z (gV w w5 N g bp D (RO (some (Y b3 uw)) n cap) hg (0+1) (RO A5 (m+1) Bp)):=V ((HU.o.later lq.o (zj ay.o (zt _ _))).more (x:=(fa,fb)) gO (by rw[Be.o];simp) (by rw[HM.o];exact jq.o.alloc _) jm.o (by rw[HM.o];exact jd) o8 aV)
       have iy:Z (N≤w5.heap.size):=V Kd
       clear jd o8 lu
       go_wp2_with fail
       refine⟨?_,zV⟩
       first|exact⟨0+1,O,zE,fe,iy⟩|((repeat apply OA);exact⟨⟨0+1,O,zE,fe,iy⟩,rfl⟩)
    ·have Ie:((k:Int)==0)=false:=Xq
     clear Bo
     cases ok with
     |false=>
      have xw:yS (g.take (k+1))=yS (g.take k):=by rw[Be.o];simp
      have Br:=V xw
      clear xw
      go_wp2_with (first
       |(go_at_call 186;refine(kz _).mono ?_;rintro e w2 ⟨rfl,hb2⟩;have ay:=V hb2;clear kz hb2)
       |fail)
      have fe:Z (gV w (w2.alloc (.cells #[Oa fa,Oa fb] 240)) N g bp D (RO (some (Y b3 uw)) n cap) hg (k+1) (RO A0 m Bb)):=V ((HU.o.later lq.o (zj ay.o (zt _ _))).same Br.o)
      have iy:Z (N≤(w2.alloc (.cells #[Oa fa,Oa fb] 240)).heap.size):=V gO
      refine⟨?_,zV⟩
      first|exact⟨k+1,O,zE,fe,iy⟩|((repeat apply OA);exact⟨⟨k+1,O,zE,fe,iy⟩,rfl⟩)
     |true=>
      go_wp2_with (first
       |(go_at_call 186;refine(kz _).mono ?_;rintro e w2 ⟨rfl,hb2⟩;have ay:=V hb2;have jq:Z (Sl w2 240 2 (RO A0 m Bb) Dw m (zU QD (yS (g.take k)))):=V (ja.o.keep (fun b hb=>hb2.block b (ja.o.lt b hb)));clear kz hb2)
       |(at_builtin;refine xI rfl _ _ 209 rfl underlying209 hj F9 F7 hj2 rfl zD (jq.o.alloc _) rfl (w2.heap.size+1) zv 1 1 rfl rfl ?_ ?_ ?_ ?_)
       |fail)
      any_goals (first|(simp[Value.oneCell'];done)|(unfold maxLen;omega)|omega|rfl)
      ·intro v2 h2 w5 jd o8 lu
       obtain⟨A5,Bp,rfl,_,_⟩:=jd.form
       have fe:Z (gV w w5 N g bp D (RO (some (Y b3 uw)) n cap) hg (k+1) (RO A5 (m+1) Bp)):=V ((HU.o.later lq.o (zj ay.o (zt _ _))).more (x:=(fa,fb)) gO (by rw[Be.o];simp) (by rw[HM.o];exact jq.o.alloc _) jm.o (by rw[HM.o];exact jd) o8 aV)
       have iy:Z (N≤w5.heap.size):=V Kd
       clear jd o8 lu
       go_wp2_with fail
       refine⟨?_,zV⟩
       first|exact⟨k+1,O,zE,fe,iy⟩|((repeat apply OA);exact⟨⟨k+1,O,zE,fe,iy⟩,rfl⟩)
  ·have hkn:k=n:=O
   subst hkn
   have Bn:NG wr N 3 #[I bp]:=HU.o.body
   have b0:wr.cell? (Y N 0)=some (I bp):=Bn.cell 0
   have fz:wr.frozen? (Y N 0)=false:=Bn.frozen 0
   clear Bn
   go_wp2_with fail
   go_still_tail 3,zQ
   change wpList _ _ _ _ _ wr.drew
   go_wp2_with fail
   have F8:N≠D:=O
   obtain⟨⟨hh,q1,q2⟩,q3,q4,q5⟩:=HU.o.done F8 lq.o O
   have q6:((wr.setCell (Y N 0) (I bp)).drew.putObj D (.deferred none)).cell? (Y N 0)=some (I bp):=q4
   refine⟨zv,.inl ⟨_,_,rfl,run_takeDeferred q5,?_⟩⟩
   have qo:(vP s).1=yS (g.take k):=by rw[HF.o.fields,←HN.o,List.take_length]
   refine⟨.tuple #[u6,I bp],?_,u6,hh,?_,?_,?_,?_⟩
   ·simp[results,Tryz.results153,go_sem,q6]
   ·rw[HF.o.body]
   ·rw[qo]
    exact q1
   ·rw[hN]
    exact q2
   ·rw[hN]
    exact q3):p:=h
open Go.Shelf Go.RowKit
section
attribute [local go_sem ↓] Go.wp_at_zero Go.wp_at_succ
theorem Zx {w w':Oc}{n:Nat}(h:Od (w.drewN n).heap.size (w.drewN n) w'):Od w w w':=⟨h.os,h.tape,h.output,h.size,h.block⟩
def YG (b:Oz):Bool:=decide (33≤b.toNat) && decide (b.toNat≤126)
theorem one_any (s:Ob Oz)(w:Oc)(hs:s.length < 4294967281)(hcl:(PY s [58]).1.length≤s.length∧(PY s [58]).2.1.length≤s.length) :
  C 186 #[Oa s] w fun e w'=>e=RR (.tuple #[.agg #[Oa ((Ub s).1.1),Oa ((Ub s).1.2)],.bool (Ub s).2])∧Od w w w':=by
 have n:=fun W=>cut_any s W hs
 unfold Ub
 generalize PY s [58]=c at n hcl ⊢
 obtain⟨H,J,m⟩:=c
 simp only at n hcl ⊢
 have r:=fun W=>Lx J W O
 generalize Ry J [32,9]=tr at r ⊢
 obtain⟨S,rfl⟩:∃S:Oy,H=S.data.toList:=⟨⟨H.toArray⟩,rfl⟩
 have q:(⟨S.data.toList.toArray⟩:Oy)=S:=rfl
 rw[q] at n ⊢
 have Q:S.size < 4294967281:=by
  have M:=hcl.1
  have N:S.data.toList.length=S.size:=zv
  omega
 obtain⟨f,g⟩:∃f,(m && (S.data.toList.all (fun b=>decide (33≤b.toNat) && decide (b.toNat≤126)) && !decide (S.data.toList=[])))=f:=⟨_,rfl⟩
 rw[g]
 have h:f=((m && S.data.toList.all YG) && !S.data.toList.isEmpty):=by
  rw[←g,Bool.and_assoc]
  cases S.data.toList <;> rfl
 have B:=V h
 clear hcl hs q g h
 go_enter func186,ntmps186
 go_wp2_with (first
  |(go_at_call 234;refine(n _).mono ?_;rintro e w1 ⟨rfl,X,rfl⟩;clear n)
  |fail)
 go_loop [6,16] (fun o i=>∃k:Nat,k≤S.size∧i=I k∧o=.bool (m && (S.data.toList.take k).all YG)) (fun _ i=>S.size - (intOf i).toNat)
 case atStart=>exact⟨0,OE _,rfl,zv⟩
 case round=>
  obtain⟨k,U,rfl,rfl⟩:=hrel
  by_cases F:k < S.size
  ·have P:(k:Int) < (S.size:Int):=O
   have t:(m && (S.data.toList.take (k+1)).all YG)=((m && (S.data.toList.take k).all YG) && YG S[k]):=by
    rw[Vi S k F]
    simp[Bool.and_assoc]
   have iy:=V t
   clear t
   generalize (m && (S.data.toList.take k).all YG)=p at iy ⊢
   cases p with
   |false=>
    exact Nk
   |true=>
    by_cases M:(33:Int)≤(S[k].toNat:Int)
    ·by_cases N:(S[k].toNat:Int)≤126
     ·have hb:YG S[k]=true:=aS
      rw[hb] at iy
      exact Nk
     ·exact MS
    ·exact MS
  ·have E:k=S.size:=O
   subst E
   have u:S.data.toList.take S.size=S.data.toList:=Ou zv
   rw[u]
   obtain⟨p,G⟩:∃p,(m && S.data.toList.all YG)=p:=⟨_,rfl⟩
   rw[G] at B ⊢
   clear G u
   cases p with
   |false=>
    go_wp2_with (first
     |(go_at_call 235;refine(r _).mono ?_;rintro e y ⟨rfl,j⟩;have d:=Zx j;have a:=(NG.new w 240 #[RP ⟨#[]⟩,RP ⟨#[]⟩]).below d zv;have R:y.cell? (Y w.heap.size 0)=some (RP ⟨#[]⟩):=a.cell 0;have T:y.cell? (Y w.heap.size 1)=some (RP ⟨#[]⟩):=a.cell 1;have K:=a.frozen 0;have L:=a.frozen 1;have D:=V a;have l:=V (zj (zt w _) d);clear r a j d)
     |fail)
    refine bodyPost_ret (v:=.tuple #[.agg #[.string S,Oa tr],.bool f]) ?_ rfl ⟨rfl,(((NH.of_below l.o []).set (.inr (Oq _)) _).set (.inr (Oq _)) _).below (Oq _) zv⟩
    have x:=(D.o.set 0 (.string S)).set 1 (RP ⟨tr.toArray⟩)
    have z:=x.cell 0
    have A:=x.cell 1
    simp at z A
    rw[B.o]
    simp[results,Tryz.results186,go_sem,z,A]
   |true=>
    go_wp2_with (first
     |(go_at_call 235;refine(r _).mono ?_;rintro e y ⟨rfl,j⟩;have d:=Zx j;have a:=(NG.new w 240 #[RP ⟨#[]⟩,RP ⟨#[]⟩]).below d zv;have R:y.cell? (Y w.heap.size 0)=some (RP ⟨#[]⟩):=a.cell 0;have T:y.cell? (Y w.heap.size 1)=some (RP ⟨#[]⟩):=a.cell 1;have K:=a.frozen 0;have L:=a.frozen 1;have D:=V a;have l:=V (zj (zt w _) d);clear r a j d)
     |fail)
    refine bodyPost_ret (v:=.tuple #[.agg #[.string S,Oa tr],.bool f]) ?_ rfl ⟨rfl,(((NH.of_below l.o []).set (.inr (Oq _)) _).set (.inr (Oq _)) _).below (Oq _) zv⟩
    have x:=(D.o.set 0 (.string S)).set 1 (RP ⟨tr.toArray⟩)
    have z:=x.cell 0
    have A:=x.cell 1
    simp at z A
    rw[B.o]
    simp[results,Tryz.results186,go_sem,z,A,Pu]
def QD (f:Ob Oz×Ob Oz):Ob Oe:=[RP ⟨f.1.toArray⟩,RP ⟨f.2.toArray⟩]
theorem Xd (f:Ob Oz×Ob Oz):(QD f).length=2:=rfl
theorem U3 (name:Ob Oz):∀(l:Ob (Ob Oz×Ob Oz)) (k:Nat) (hk:k < l.length),Zn l[k].1=Zn name→(∀j (hj:j < l.length),j < k→Zn l[j].1≠Zn name)→uR l name=(l[k].2,true)
 |x :: r,0,_,h,_=>by
  have h:Zn x.1=Zn name:=h
  simp[uR,h]
 |x :: r,k+1,hk,h,hj=>by
  have h0:¬Zn x.1=Zn name:=hj 0 zv O
  have ih:=U3 name r k yi vZ (fun j hj1 hj2=>hj (j+1) (by simpa using hj1) O)
  simp only[uR] at ih ⊢
  rw[Pb Xq]
  exact ih
theorem mK (name:Ob Oz)(l:Ob (Ob Oz×Ob Oz))(h:∀j (hj:j < l.length),Zn l[j].1≠Zn name):uR l name=([],false):=by
 have:l.find? (fun f=>decide (Zn f.1=Zn name))=none:=by
  rw[List.find?_eq_none]
  intro x a
  obtain⟨j,hj,rfl⟩:=Pg a
  simpa using h j hj
 simp[uR,this]
theorem Bk (w:Oc)(v:Oe)(S:Ob Nat)(l:Ob (Ob Oz×Ob Oz))(hr:NN w S 2 v l.length (zU QD l))(name:Ob Oz)(hn:name.length≤4294967296)(hl:∀f∈l,f.1.length≤4294967296) :
  C 154 #[v,Oa name] w fun e w'=>e=RR (.tuple #[Oa ((uR l name).1),.bool (uR l name).2])∧Od w w w':=by
 have H:=fun(s:Ob Oz) (hs:s.length≤4294967296) W=>Up ⟨s.toArray⟩ W pC
 obtain⟨A,a5,rfl,K,G⟩:=hr.form
 unfold maxLen at G
 obtain⟨n,X⟩:∃n,l.length=n:=⟨_,rfl⟩
 obtain⟨u,d⟩:∃u,uR l name=u:=⟨_,rfl⟩
 rw[d]
 obtain⟨a1,a2⟩:=u
 have F3:=V d
 have HR:=V hr
 have HL:=V hl
 rw[X] at hr K ⊢
 have a4:n≤9223372036854775807:=O
 clear K G
 clear hr hl d
 go_enter func154,ntmps154
 go_wp2_with fail
 go_loopw [10] (fun i wr=>∃k:Nat,k≤n∧i=I k∧Z (Od w w wr)∧Z (∀j (hj:j < l.length),j < k→Zn l[j].1≠Zn name)) (fun i _=>n - (intOf i).toNat)
 case atStart=>exact⟨0,OE _,rfl,V (Ok _ _),V (fun j hj h=>by omega)⟩
 case round=>
  obtain⟨k,hk,rfl,HB,HM⟩:=hrel
  by_cases a7:k < n
  ·have q:k < l.length:=O
   obtain⟨b,r,a3,a0,_,_,F,_,y⟩:=HR.o.at_ O
   injection a0 with hva1 hvx hva3
   subst hva1 hva3
   clear hvx
   have e0:=(HB.o.cell (p:=⟨b,r+k * 2,none⟩) F).trans ((y (k * 2) O).trans ((yv Xd l k 0 q O).trans rfl))
   have e1:=(HB.o.cell (p:=⟨b,r+k * 2+1,none⟩) F).trans ((congrArg w.cell? (by rw[O1])).trans ((y (k * 2+1) O).trans ((yv Xd l k 1 q O).trans rfl)))
   have d0:wr.cell? (Y b (r+k * 2))=some (RP ⟨l[k].1.toArray⟩):=e0
   have d1:wr.cell? (Y b (r+k * 2+1))=some (RP ⟨l[k].2.toArray⟩):=e1
   have B:=fun W=>H l[k].1 (HL.o _ (Oj q)) W
   have M:=fun W=>H name hn W
   have m:Zn l[k].1=Zn name→(a1,a2)=(l[k].2,true):=fun h=>F3.o.symm.trans (U3 name l k q h HM.o)
   obtain⟨x,hx⟩:∃x,x=l[k]:=⟨_,rfl⟩
   have HX:=V hx
   rw[←hx] at d0 d1 B m
   obtain⟨z,Q⟩:=x
   simp only at d0 d1 B m
   have R:=V m
   clear y e0 e1 hx m
   have N:(bO ⟨z.toArray⟩).toList=Zn z:=fU
   have P:(bO ⟨name.toArray⟩).toList=Zn name:=fU
   by_cases D:Zn z=Zn name
   ·have hc:((bO ⟨z.toArray⟩).toList==(bO ⟨name.toArray⟩).toList)=true:=by rw[N,P,D];simp
    have hi:=R.o D
    injection hi with hi1 hi2
    have T:=hi1.symm
    have U:=hi2.symm
    subst T U
    clear N P D
    go_wp2_with (first
     |(go_at_call 167;(with_reducible refine(B _).mono ?_);rintro e w2 ⟨rfl,a⟩;have L:=(NG.new wr 240 #[Oa z,Oa Q]).below a zv;have g:=zj (zt wr _) a;have E:=V L;have t:=V g;clear B a L g)
     |(go_at_call 167;(with_reducible refine(M _).mono ?_);rintro e w3 ⟨rfl,c⟩;have z1:w3.cell? (Y wr.heap.size 1)=some (RP ⟨Q.toArray⟩):=(E.o.below c E.o.lt).cell 1;have bn:=V (zj HB.o (zj t.o c));clear M c)
     |fail)
    go_ret2
    exact⟨rfl,bn.o⟩
   ·have hc:((bO ⟨z.toArray⟩).toList==(bO ⟨name.toArray⟩).toList)=false:=by rw[N,P];simpa using D
    have Bl:Z (∀j (hj:j < l.length),j < k+1→Zn l[j].1≠Zn name):=V (by
     intro j hj a6
     by_cases J:j=k
     ·subst J
      rw[←HX.o]
      exact D
     ·exact HM.o j hj O)
    clear N P D
    go_wp2_with (first
     |(go_at_call 167;(with_reducible refine(B _).mono ?_);rintro e w2 ⟨rfl,a⟩;have L:=(NG.new wr 240 #[Oa z,Oa Q]).below a zv;have g:=zj (zt wr _) a;have E:=V L;have t:=V g;clear B a L g)
     |(go_at_call 167;(with_reducible refine(M _).mono ?_);rintro e w3 ⟨rfl,c⟩;have z1:w3.cell? (Y wr.heap.size 1)=some (RP ⟨Q.toArray⟩):=(E.o.below c E.o.lt).cell 1;have bn:=V (zj HB.o (zj t.o c));clear M c)
     |fail)
    exact Fc
  ·exact Nd
end
section
attribute [local go_sem ↓] Go.wp_at_zero Go.wp_at_succ
attribute [local go_sem] Oper.semAt_some
theorem CE (s:Oy)(at_ t_:Int)(w:Oc) :
  C 185 #[.string s,I at_,I t_] w fun e w'=>e=RR (.func (.func 232) #[] #[RQ (some (Y (w.heap.size+1) 0)),RQ (some (Y (w.heap.size+1+1) 0)),Y w.heap.size 0])∧w'=((w.alloc (.cells #[.string s] 9)).alloc (.cells #[I at_] 3)).alloc (.cells #[I t_] 3):=by
 go_enter func185,ntmps185
 go_wp2
 go_ret
 exact⟨rfl,rfl⟩
def Vx (s:Ob Oz)(p:Nat):Ob Oz×Nat:=
 if O0 (s.drop p) 10 < 0 then (s.drop p,s.length)
 else (PB ((s.drop p).take (O0 (s.drop p) 10).toNat) [13],p+((O0 (s.drop p) 10).toNat+1))
theorem XU (D:Ob Oz)(c:Oz)(h:¬O0 D c < 0):(O0 D c).toNat < D.length:=by
 obtain⟨o,b⟩:∃o:Nat,O0 D c=o:=⟨(O0 D c).toNat,O⟩
 have a:=(Lib.indexByte_some b).1
 have d:=(OX.1 a).1
 omega
theorem na (s:Ob Oz)(p f:Nat)(hp:p < s.length):xX (f+1) (s.drop p) p=Vx s p :: xX f (s.drop (Vx s p).2) (Vx s p).2:=by
 have a:s.drop p≠[]:=by
  intro h
  have:=congrArg List.length h
  simp at this
  omega
 rw[xX,Om a]
 unfold Vx
 by_cases h:O0 (s.drop p) 10 < 0
 ·rw[OG h,OG h]
  have b:p+(s.drop p).length=s.length:=zT
  rw[b]
  have c:xX f (s.drop s.length) s.length=[]:=by
   cases f <;> simp[xX]
  simp only[c]
 ·rw[Om h,Om h]
  simp only[List.drop_drop]
theorem UK (l p:Ob Oz):(PB l p).length≤l.length:=by
 unfold PB
 split
 ·rw[OU]
  omega
 ·exact Oq _
theorem mX (s:Ob Oz)(p:Nat)(hp:p < s.length):p < (Vx s p).2∧(Vx s p).2≤s.length∧(Vx s p).1.length≤s.length:=by
 unfold Vx
 by_cases h:O0 (s.drop p) 10 < 0
 ·rw[OG h]
  exact⟨hp,Oq _,zv⟩
 ·rw[Om h]
  have:=XU (s.drop p) 10 h
  simp only[O8] at this
  have a:=UK ((s.drop p).take (O0 (s.drop p) 10).toNat) [13]
  simp only[OU,O8] at a
  refine⟨?_,?_,?_⟩ <;> simp only <;> omega
theorem XJ (s:Ob Oz)(p:Nat):(⟨s.toArray⟩:Oy).extract p s.length=⟨(s.drop p).toArray⟩:=by
 apply ByteArray.ext
 apply Array.ext'
 simp
 exact Ou zv
theorem Yw (s:Ob Oz)(i:Nat):(⟨s.toArray⟩:Oy).extract 0 i=⟨(s.take i).toArray⟩:=by
 apply ByteArray.ext
 apply Array.ext'
 simp
structure LSt (W:Oc)(BA BT BS:Nat)(s:Ob Oz)(p:Nat):Prop where
 a:NG W BA 3 #[I p]
 t:NG W BT 3 #[I s.length]
 s:NG W BS 9 #[Oa s]
def KpL (BA BT BS:Nat)(A B:Oc):Prop:=B.heap[BA]?=A.heap[BA]?∧B.heap[BT]?=A.heap[BT]?∧B.heap[BS]?=A.heap[BS]?
theorem LSt.kp {W W':Oc}{BA BT BS:Nat}{s:Ob Oz}{p:Nat}(h:LSt W BA BT BS s p)(k:KpL BA BT BS W W'):LSt W' BA BT BS s p:=⟨k.1.trans h.a,k.2.1.trans h.t,k.2.2.trans h.s⟩
def CW (BA:Nat)(W:Oc):Nat:=match W.cell? (Y BA 0) with
 |some v=>(intOf v).toNat
 |none=>0
theorem CD (s:Ob Oz)(hs:s.length≤4294967296)(BA BT BS l:Nat)(hne:BA≠BT∧BA≠BS)(J Jx:Ob (Ob Oz×Nat)→Oc→Prop)(hJ:∀pre A A',J pre A→NH [BA] A A'→J pre A')(hY:∀pre (x:Ob Oz×Nat) W,x.1.length≤s.length→x.2≤s.length→J pre W→pre.length < s.length→YieldAt RN (2 - 1) prog l #[Oa x.1,I (x.2:Nat)] W fun e W'=>
   (e=RR (.bool true)∧J (pre++[x]) W'∧KpL BA BT BS W W')∨(e=RR (.bool false)∧Jx (pre++[x]) W'))(W:Oc)(hL:LSt W BA BT BS s 0)(h0:J [] W) :
  CallsIn RN 2 prog 232 #[.func (.yield l) #[] #[],Y BA 0,Y BT 0,Y BS 0] W fun e W'=>(∃v,e=RR v)∧
   ((∃xs,xs=xX s.length s 0∧J xs W')∨(∃pre,pre <+: xX s.length s 0∧Jx pre W')):=by
 refine callsIn_of_wp func232 rfl trivial ?_ rfl
 simp only[ntmps232,PC,OT,List.length_nil,Nat.reduceAdd,Nat.reduceSub,Array.replicate_succ,Array.replicate_zero,List.push_toArray,List.append_toArray,PE,PO]
 refine wpIn_wide.2 ?_
 have HJ:=V hJ
 have HY:=V hY
 have H:=V hne
 clear hJ hY hne
 go_wp2_with fail
 go_loopw [5] (fun _ wr=>∃(p f:Nat) (pre:Ob (Ob Oz×Nat)),p≤s.length∧Z (LSt wr BA BT BS s p)∧Z (J pre wr)∧Z (xX s.length s 0=pre++xX f (s.drop p) p∧s.length≤p+f∧pre.length≤p)) (fun _ wr=>s.length - CW BA wr)
 case atStart=>exact⟨0,s.length,[],OE _,V hL,V h0,V ⟨zv,O,zv⟩⟩
 case round=>
  obtain⟨p,f,pre,hp,y,HP,z⟩:=hrel
  have cA:wr.cell? (Y BA 0)=some (I p):=y.o.a.cell 0
  have cT:wr.cell? (Y BT 0)=some (I s.length):=y.o.t.cell 0
  have cS:wr.cell? (Y BS 0)=some (RP ⟨s.toArray⟩):=y.o.s.cell 0
  by_cases X:p < s.length
  ·obtain⟨N,rfl⟩:∃N,f=N+1:=⟨f - 1,by have:=z.o.2.1;omega⟩
   have b:=na s p N X
   have d:=mX s p X
   have hx:(⟨s.toArray⟩:Oy).extract p s.length=⟨(s.drop p).toArray⟩:=XJ s p
   have c:Vx s p=if O0 (s.drop p) 10 < 0 then (s.drop p,s.length) else (PB ((s.drop p).take (O0 (s.drop p) 10).toNat) [13],p+((O0 (s.drop p) 10).toNat+1)):=rfl
   have P:(s.drop p).length≤4294967296:=zT
   have k:=XU (s.drop p) 10
   obtain⟨D,hD⟩:∃D,s.drop p=D:=⟨_,rfl⟩
   rw[hD] at hx c P k b
   have HD:=V hD
   clear hD
   obtain⟨x,B⟩:∃x,x=Vx s p:=⟨_,rfl⟩
   rw[←B] at c b d
   have HX:=V B
   have K:=V b
   have F:=fun W=>Tryz.strings_IndexByte ⟨D.toArray⟩ 10 W
   have F:∀W,C 155 #[Oa D,.int .u8 10] W fun e w'=>e=RR (I (O0 D 10))∧w'=W:=F
   have M:=fun(l:Ob Oz) (hl:l.length≤4294967296) W=>Tryz.strings_TrimSuffix ⟨l.toArray⟩ ⟨#[13]⟩ W (by show l.toArray.size≤_;simp;omega)
   have M:∀(l:Ob Oz) (_:l.length≤4294967296) W,C 233 #[Oa l,RP ⟨#[13]⟩] W fun e w'=>e=RR (RP ⟨(PB l [13]).toArray⟩)∧w'=W:=M
   generalize O0 D 10=r at F c k
   obtain⟨x1,u⟩:=x
   have a8:(0:Int)≤(p:Int):=O
   have a9:(p:Int)≤(s.length:Int):=O
   have aa:(p:Int) < (s.length:Int):=O
   have E:=V d
   clear B b d
   go_wp2_with fail
   go_quiet (fail)
   go_upto_if 19 with(first
    |(go_at_call 155;refine(F _).mono ?_;rintro e w2 ⟨rfl,rfl⟩;clear F)
    |fail)
   obtain⟨wq,m⟩:∃wq:Oc,wq=wr.drewN nq:=⟨_,rfl⟩
   rw[←m]
   have cA:wq.cell? (Y BA 0)=some (I p):=by rw[m];exact cA
   have a3:=V m
   clear m
   go_cut [5,6] (fun t nx wx=>t=RP ⟨x1.toArray⟩∧nx=I (u:Nat)∧∃q,Z (wx=wq.drewN q))
   case first=>
    by_cases hr:r < 0
    ·rw[OG hr] at c
     injection c with hl1 hl2
     subst hl1 hl2
     have a5:¬0≤r:=O
     go_wp2_with fail
     go_meet
     exact⟨rfl,rfl,0,V rfl⟩
    ·rw[Om hr] at c
     injection c with hl1 hl2
     subst hl1 hl2
     have T:=k O
     obtain⟨i,rfl⟩:∃i:Nat,r=i:=⟨r.toNat,O⟩
     simp only[Int.toNat_natCast] at T ⊢
     have ac:(⟨D.toArray⟩:Oy).extract 0 i=⟨(D.take i).toArray⟩:=Yw D i
     have c3:=M (D.take i) Zh
     have a5:(0:Int)≤(i:Int):=O
     have ab:(i:Int)≤(D.length:Int):=O
     have g1:Ov.wrap ((p:Int)+(i:Int))=(p:Int)+(i:Int):=Og _ O
     have g2:Ov.wrap ((p:Int)+(i:Int)+1)=(p:Int)+(i:Int)+1:=Og _ O
     clear M
     go_wp2_with fail
     go_region_with (first
      |(go_at_call 233;refine(c3 _).mono ?_;rintro e w2 ⟨rfl,rfl⟩)
      |fail)
     all_goals
      go_wp2_with fail
      go_meet
      exact⟨rfl,zT,1,V rfl⟩
   case rest=>
    obtain⟨rfl,rfl,q,HW⟩:=hcut
    obtain⟨G,rfl⟩:∃G:Oc,G=wc:=⟨_,rfl⟩
    have g:NH [] wr G:=by
     rw[HW.o,a3.o]
     exact((NH.refl [] wr).drewN _).drewN _
    have S:LSt G BA BT BS s p:=⟨y.o.a.N4 g zv,y.o.t.N4 g zv,y.o.s.N4 g zv⟩
    have a2:=V S
    obtain⟨fn,a7,a0,a6,hy,hR⟩:=HY.o pre (x1,u) G E.o.2.2 E.o.2.1 (HJ.o pre wr G HP.o (g.mono zv)) (by have:=z.o.2.2;omega)
    simp only at hy
    clear g S cA F M hx c k P
    refine ‹∀(a:Act) (w:Oc),Code.wp prog _ _ a w→_› _ _ ?_
    refine(wpIn_wide (n:=2)).1 ?_
    gi_wp2
    refine hR.mono ?_
    rintro e L (⟨rfl,Q,U⟩|⟨rfl,R⟩)
    ·have j:=a2.o.kp U
     have cA:L.cell? (Y BA 0)=some (I p):=j.a.cell 0
     have fA:L.frozen? (Y BA 0)=false:=j.a.frozen 0
     have h:=V j
     have a1:=V Q
     clear j Q U hR
     gi_wp2
     go_roundw
     case rel=>
      refine⟨u,N,pre++[(x1,u)],E.o.2.1,V ⟨h.o.a.set 0 _,h.o.t.far (p:=⟨BA,0,none⟩) (fun e=>H.o.1 e.symm) _,h.o.s.far (p:=⟨BA,0,none⟩) (fun e=>H.o.2 e.symm) _⟩,V (HJ.o _ L _ a1.o ((NH.refl [BA] L).set (.inl zv) _)),V ⟨?_,?_,?_⟩⟩
      ·rw[z.o.1,HD.o,K.o,O4]
       rfl
      ·have h1:=z.o.2.1
       have h2:=E.o.1
       omega
      ·have h1:=z.o.2.2
       have h2:=E.o.1
       rw[Oo,Pf]
       omega
     case measure=>
      have h2:=E.o.1
      have e1:CW BA wr=p:=by
       unfold CW
       rw[show wr.cell? (Y BA 0)=some (I p) from y.o.a.cell 0]
       simp[intOf]
      have e2:CW BA (L.setCell (Y BA 0) (I (u:Nat)))=u:=by
       unfold CW
       rw[(h.o.a.set 0 (I (u:Nat))).cell 0]
       simp[intOf]
      rw[e1,e2]
      omega
    ·gi_wp2
     refine bodyPost_ret (results_none rfl _ _ _) rfl ⟨⟨_,rfl⟩,.inr ⟨_,?_,R⟩⟩
     rw[z.o.1,HD.o,K.o]
     exact⟨xX N (s.drop u) u,by rw[O4];rfl⟩
  ·have a4:p=s.length:=O
   subst a4
   go_wp2_with fail
   go_end0
   refine⟨⟨_,rfl⟩,.inl ⟨_,?_,HP.o⟩⟩
   have h1:=z.o.1
   have h2:xX f (s.drop s.length) s.length=[]:=by
    cases f <;> simp[xX]
   rw[h1,h2,Pr]
abbrev Ln:={x:Ob Oz×Nat // x.1.length≤2147483648∧x.2≤2147483648}
theorem nd (s:Ob Oz)(hs:s.length≤2147483648)(BA BT BS:Nat)(hne:BA≠BT∧BA≠BS)(w:Oc)(hL:LSt w BA BT BS s 0) :
  gY RN 2 prog 232 #[Y BA 0,Y BT 0,Y BS 0] (fun x:Ln=>#[Oa x.1.1,I (x.1.2:Nat)]) (KpL BA BT BS) BA (fun xs=>xs.map (·.1)=xX s.length s 0) (fun pre=>∃r,pre.map (·.1)++r=xX s.length s 0) s.length w:=fun l J Jx W hW hJ hJx hY h0=>by
 have hL2:LSt W BA BT BS s 0:=⟨hL.a.below hW hL.a.lt,hL.t.below hW hL.t.lt,hL.s.below hW hL.s.lt⟩
 refine(CD s O BA BT BS l hne (fun pre W=>∃pre':Ob Ln,pre'.map (·.1)=pre∧J pre' W) (fun pre W=>∃pre':Ob Ln,pre'.map (·.1)=pre∧Jx pre' W) ?_ ?_ W hL2 ⟨[],rfl,h0⟩).mono ?_
 ·rintro pre A A' ⟨pre',rfl,hj⟩ hc
  exact⟨pre',rfl,hJ _ A A' hj hc⟩
 ·rintro pre x W1 hx1 hx2 ⟨pre',rfl,hj⟩ hlen
  have h:=hY pre' ⟨x,O,O⟩ W1 hj aQ
  obtain⟨fn,tmps,assign,body,hy,hR⟩:=h
  refine⟨fn,tmps,assign,body,hy,hR.mono ?_⟩
  rintro e W' (⟨he,hj',hk⟩|⟨he,hj'⟩)
  ·exact .inl ⟨he,⟨_,zv,hj'⟩,hk⟩
  ·exact .inr ⟨he,⟨_,zv,hj'⟩⟩
 ·rintro e W' ⟨he,⟨xs,rfl,pre',hm,hj⟩|⟨pre,⟨r,hr⟩,pre',rfl,hj⟩⟩
  ·exact⟨he,.inl ⟨pre',hm,hj⟩⟩
  ·exact⟨he,.inr ⟨pre',⟨r,hr⟩,hj⟩⟩
end
section
def Zv (pre:Ob Ln):Ob (Ob Oz):=pre.foldl (fun g x=>uC g x.1.1) []
theorem Yk (pre:Ob Ln)(x:Ln):Zv (pre++[x])=uC (Zv pre) x.1.1:=by simp[Zv]
theorem XR:∀(pre:Ob Ln) (r:Ob (Ob Oz×Nat)) (g:Ob (Ob Oz)) (b:Nat),(∀x∈pre,x.1.1≠[])→vJ (pre.map (·.1)++r) g b=vJ r (pre.foldl (fun g x=>uC g x.1.1) g) b
 |[],_,_,_,_=>rfl
 |⟨(t,p),hx⟩ :: pre,r,g,b,h=>by
  have h0:¬t=[]:=h ⟨(t,p),hx⟩ zv
  rw[OY,PO,vJ,Om h0,XR pre r _ b (fun y hy=>h y (by simp[hy]))]
  rfl
theorem sQ {L:Ob (Ob Oz×Nat)}{pre:Ob Ln}{b:Nat}(hL:pre.map (·.1)=L)(h:∀x∈pre,x.1.1≠[]):vJ L [] b=(Zv pre,b):=by
 have:=XR pre [] [] b h
 rw[Pr,hL] at this
 exact this
theorem mR {L r:Ob (Ob Oz×Nat)}{pre:Ob Ln}{x:Ln}{b:Nat}(hL:(pre++[x]).map (·.1)++r=L)(h:∀x∈pre,x.1.1≠[])(hx:x.1.1=[]):vJ L [] b=(Zv pre,x.1.2):=by
 have a:=XR pre (x.1 :: r) [] b h
 rw[OQ,O4] at hL
 have c:pre.map (·.1)++x.1 :: r=L:=hL
 rw[c] at a
 rw[a]
 obtain⟨⟨t,p⟩,d⟩:=x
 simp only at hx
 subst hx
 rfl
structure GSt (W0 W:Oc)(N:Nat)(g:Ob (Ob Oz))(bp:Nat):Prop where
 cell:∃v h,NG W (N+1) 38 #[v]∧Sl W 9 1 v h g.length (g.map encStr)∧∀b,h=some b→N+5≤b
 body:NG W N 3 #[I bp]
 below:Od N W0 W
theorem GSt.abide {W0 W W':Oc}{N:Nat}{g:Ob (Ob Oz)}{bp:Nat}{S:Ob Nat}(h:GSt W0 W N g bp)(hc:NH S W W')(hS:∀k∈S,N+2≤k∧∀t cs,W.heap[k]?≠some (.cells cs t (0,0))∨k < N+5)(hsz:N≤W.heap.size):GSt W0 W' N g bp:=by
 obtain⟨⟨v,i,d,a,c⟩,e,f⟩:=h
 refine⟨⟨v,i,d.N4 hc (fun hm=>?_),a.N4 hc (fun b hb hm=>?_),c⟩,e.N4 hc (fun hm=>?_),f.trans (hc.below hsz fun k hk=>?_)⟩
 ·have:=(hS _ hm).1
  omega
 ·have j:=c b hb
  rcases a.2 with⟨hn,_⟩|⟨b',off',cap',cur,hh',hv,hB,_⟩
  ·rw[hb] at hn
   cases hn
  ·rw[hb] at hh'
   obtain rfl:=O6 hh'
   rcases(hS b hm).2 _ cur with h7|h7
   ·exact h7 hB
   ·omega
 ·have:=(hS _ hm).1
  omega
 ·have:=(hS k hk).1
  omega
structure GI (W0 W:Oc)(N len:Nat)(pre:Ob Ln):Prop where
 st:GSt W0 W N (Zv pre) len
 ne:∀x∈pre,x.1.1≠[]
 gne:∀t∈Zv pre,t≠[]
 sum:VB (Zv pre)≤pre.length * 2147483648
 glen:(Zv pre).length≤pre.length
 size:N+5≤W.heap.size
structure GX (W0 W:Oc)(N:Nat)(pre:Ob Ln):Prop where
 pre_:∃p0 x,pre=p0++[x]∧x.1.1=[]∧GSt W0 W N (Zv p0) x.1.2∧(∀x∈p0,x.1.1≠[])∧(∀t∈Zv p0,t≠[])∧VB (Zv p0)≤p0.length * 2147483648∧(Zv p0).length≤p0.length
 size:N+5≤W.heap.size
theorem GI.abide {W0 W W':Oc}{N len:Nat}{pre:Ob Ln}{S:Ob Nat}(h:GI W0 W N len pre)(hc:NH S W W')(hS:∀k∈S,N+2≤k∧∀t cs,W.heap[k]?≠some (.cells cs t (0,0))∨k < N+5):GI W0 W' N len pre:=
 ⟨h.st.abide hc hS (by have:=h.size;omega),h.ne,h.gne,h.sum,h.glen,Ol h.size hc.size⟩
theorem GX.abide {W0 W W':Oc}{N:Nat}{pre:Ob Ln}{S:Ob Nat}(h:GX W0 W N pre)(hc:NH S W W')(hS:∀k∈S,N+2≤k∧∀t cs,W.heap[k]?≠some (.cells cs t (0,0))∨k < N+5):GX W0 W' N pre:=by
 obtain⟨⟨f,x,a,b,c,d⟩,e⟩:=h
 exact⟨⟨f,x,a,b,c.abide hc hS O,d⟩,Ol e hc.size⟩
theorem LW {W:Oc}{N:Nat}{row:OC Nat}(hr:∀r,row=some r→N+5≤r∧∃o:Obj,W.heap[r]?=some o∧o.isCells=false):∀k∈row.toList,N+2≤k∧∀t cs,W.heap[k]?≠some (.cells cs t (0,0))∨k < N+5:=by
 intro k hk
 obtain⟨c,o,a,b⟩:=hr k yi
 refine⟨O,fun t cs=>.inl fun e=>?_⟩
 rw[a] at e
 injection e with e
 subst e
 cases b
theorem GI.own (W0:Oc)(N len:Nat):OwnFrom (N+5) (fun pre W=>GI W0 W N len pre):=fun _ _ _ row h hg hr=>h.abide (NH.Qn hg) (LW (row:=row) hr)
theorem GX.own (W0:Oc)(N:Nat):OwnFrom (N+5) (fun pre W=>GX W0 W N pre):=fun _ _ _ row h hg hr=>h.abide (NH.Qn hg) (LW (row:=row) hr)
theorem GI.Nw {W0 W W':Oc}{N len:Nat}{pre:Ob Ln}(h:GI W0 W N len pre)(hc:NH [N+3] W W'):GI W0 W' N len pre:=
 h.abide hc fun k hk=>by
  exact Hm
theorem GX.Nw {W0 W W':Oc}{N:Nat}{pre:Ob Ln}(h:GX W0 W N pre)(hc:NH [N+3] W W'):GX W0 W' N pre:=
 h.abide hc fun k hk=>by
  exact Hm
theorem XV {W W':Oc}{S:Ob Nat}(hc:NH S W W')(hS:∀k∈S,∃t cs,NG W k t cs):KeepsOthers W W':=
 ⟨hc.size,fun k o hk ho=>by
  have hlt:k < W.heap.size:=(Pp.1 hk).1
  rw[hc.block k hlt (fun hm=>by
   obtain⟨t,cs,hB⟩:=hS k hm
   unfold NG at hB
   rw[hk] at hB
   injection hB with hB
   subst hB
   cases ho)]
  exact hk⟩
theorem LQ {N:Nat}{W W':Oc}{S:Ob Nat}(hc:NH S W W')(hS:∀k∈S,k=N∨k=N+1∨N+5≤k)(hsz:N+5≤W.heap.size):KpL (N+3) (N+4) (N+2) W W':=by
 refine⟨hc.block _ O fun hm=>?_,hc.block _ O fun hm=>?_,hc.block _ O fun hm=>?_⟩ <;> (have:=hS _ hm;omega)
theorem Sl.K0 {w:Oc}{e:Pa}{size n:Nat}{v:Oe}{h:OC Nat}{xs:Ob Oe}(hs:Sl w e size v h n xs):∀k∈h.toList,∃t cs,NG w k t cs:=by
 intro k hk
 have hk:h=some k:=yi
 rcases hs.2 with⟨hn,_⟩|⟨b',off',cap',cur,hh,hv,hB,_⟩
 ·rw[hk] at hn
  cases hn
 ·rw[hk] at hh
  obtain rfl:=O6 hh
  exact⟨e,cur,hB⟩
theorem GI.push {w W w2:Oc}{N len:Nat}{pre:Ob Ln}(h:GI w W N len pre)(x:Ln)(hne:x.1.1≠[])(hadd:Zv (pre++[x])=Zv pre++[x.1.1]){n:Nat}(hn:(Zv pre).length=n){v v':Oe}{hh h':OC Nat}(hB:NG W (N+1) 38 #[v])(hs:Sl W 9 1 v hh n ((Zv pre).map encStr))(hf:∀b,hh=some b→N+5≤b)(hs2:Sl w2 9 1 v' h' (n+1) ((Zv pre).map encStr++[encStr x.1.1]))(hc:NH hh.toList W w2)(ho:h'=hh∨∃g,h'=some g∧W.heap.size≤g) :
  KeepsOthers W (w2.setCell (Y (N+1) 0) v')∧KpL (N+3) (N+4) (N+2) W (w2.setCell (Y (N+1) 0) v')∧GI w (w2.setCell (Y (N+1) 0) v') N len (pre++[x]):=by
 subst hn
 have d:=h.size
 have a:NH ((N+1) :: hh.toList) W (w2.setCell (Y (N+1) 0) v'):=(hc.mono fun k hk=>.inl (OP _ hk)).set (.inl zv) v'
 have f:∀k∈(N+1) :: hh.toList,k=N∨k=N+1∨N+5≤k:=fun k hk=>by
  rcases OB.1 hk with rfl|hk
  ·exact .inr (.inl rfl)
  ·exact .inr (.inr (hf k yi))
 have c:∀b,h'=some b→N+5≤b:=fun b hb=>by
  rcases ho with h1|⟨g,h1,h2⟩
  ·exact hf b X8
  ·rw[h1] at hb
   injection hb with hb
   omega
 have i:=x.2.1
 refine⟨XV a fun k hk=>?_,LQ a f d,⟨⟨⟨v',h',?_,?_,c⟩,?_,?_⟩,?_,?_,?_,?_,Ol d a.size⟩⟩
 ·rcases OB.1 hk with rfl|hk
  ·exact⟨_,_,hB⟩
  ·exact hs.K0 k hk
 ·exact(hB.N4 hc (fun hm=>by have:=hf (N+1) yT;omega)).set 0 v'
 ·rw[hadd,Oo,Pf,OQ]
  exact hs2.far (p:=⟨N+1,0,none⟩) (fun e=>by have:=c _ e;simp at this) v'
 ·exact(h.st.body.N4 hc (fun hm=>by have:=hf N yT;omega)).far (p:=⟨N+1,0,none⟩) zv v'
 ·exact h.st.below.trans (a.below O fun k hk=>by have:=f k hk;omega)
 ·exact FN
 ·rw[Yk]
  exact UY h.gne hne
 ·exact Hp
 ·exact FX
theorem GI.join {w W:Oc}{N len:Nat}{pre:Ob Ln}(h:GI w W N len pre)(x:Ln)(hne:x.1.1≠[])(k:Nat)(hk:(Zv pre).length=k+1)(hk2:k < (Zv pre).length)(hadd:Zv (pre++[x])=(Zv pre).set k ((Zv pre)[k]++x.1.1)){b off n cap:Nat}{hh:OC Nat}(hB:NG W (N+1) 38 #[RO (some (Y b off)) n cap])(hn:(Zv pre).length=n)(hs:Sl W 9 1 (RO (some (Y b off)) n cap) hh n ((Zv pre).map encStr))(hf:∀b,hh=some b→N+5≤b) :
  KeepsOthers W (W.setCell (Y b (off+k)) (encStr ((Zv pre)[k]++x.1.1)))∧KpL (N+3) (N+4) (N+2) W (W.setCell (Y b (off+k)) (encStr ((Zv pre)[k]++x.1.1)))∧GI w (W.setCell (Y b (off+k)) (encStr ((Zv pre)[k]++x.1.1))) N len (pre++[x]):=by
 have c:=h.size
 subst hn
 have f:hh=some b:=hs.owner
 have d:=hf b f
 have a:NH [b] W (W.setCell (Y b (off+k)) (encStr ((Zv pre)[k]++x.1.1))):=(NH.refl [b] W).set (.inl zv) _
 have e:∀j∈[b],j=N∨j=N+1∨N+5≤j:=fun j hj=>by
  rw[OI] at hj
  subst hj
  exact .inr (.inr d)
 have g:=x.2.1
 refine⟨XV a fun j hj=>?_,LQ a e c,⟨⟨⟨RO (some (Y b off)) (Zv pre).length cap,hh,?_,?_,hf⟩,?_,?_⟩,?_,?_,?_,?_,Ol c a.size⟩⟩
 ·rw[OI] at hj
  subst hj
  exact hs.K0 j (by rw[f];simp)
 ·exact hB.far (p:=⟨b,off+k,none⟩) (by simp only;omega) _
 ·have h1:=hs.store k (encStr ((Zv pre)[k]++x.1.1))
  rw[hadd,Pd,List.map_set]
  exact h1
 ·exact h.st.body.far (p:=⟨b,off+k,none⟩) (by simp only;omega) _
 ·exact h.st.below.trans (a.below O fun j hj=>by have:=e j hj;omega)
 ·exact FN
 ·rw[Yk]
  exact UY h.gne hne
 ·exact Hp
 ·exact FX
theorem GI.stop {w W:Oc}{N len:Nat}{pre:Ob Ln}(h:GI w W N len pre)(x:Ln)(hx:x.1.1=[]):KeepsOthers W (W.setCell (Y N 0) (I (x.1.2:Nat)))∧GX w (W.setCell (Y N 0) (I (x.1.2:Nat))) N (pre++[x]):=by
 have b:=h.size
 have a:NH [N] W (W.setCell (Y N 0) (I (x.1.2:Nat))):=(NH.refl [N] W).set (.inl zv) _
 obtain⟨v,g,d,f,c⟩:=h.st.cell
 refine⟨XV a fun j hj=>?_,⟨⟨pre,x,rfl,hx,⟨⟨v,g,?_,?_,c⟩,?_,?_⟩,h.ne,h.gne,h.sum,h.glen⟩,Ol b a.size⟩⟩
 ·rw[OI] at hj
  subst hj
  exact⟨_,_,h.st.body⟩
 ·exact d.far (p:=⟨N,0,none⟩) zv _
 ·exact f.far (p:=⟨N,0,none⟩) (fun e=>by have:=c _ e;simp at this;omega) _
 ·exact h.st.body.set 0 _
 ·exact h.st.below.trans (a.below O fun j hj=>by simp at hj;omega)
theorem JO {g:Ob (Ob Oz)}{t:Ob Oz}{k:Nat}(hk:g.length=k+1)(hk2:k < g.length)(hb:vd t=true):uC g t=g.set k (g[k]++t):=by
 have a:g≠[]:=by
  rintro rfl
  simp at hk
 obtain⟨b,z,rfl⟩:∃b z,g=b++[z]:=⟨g.dropLast,g.getLast a,(List.dropLast_concat_getLast _).symm⟩
 have c:b.length=k:=yi
 subst c
 unfold uC
 rw[OG ⟨a,hb⟩]
 simp
theorem VF {g:Ob (Ob Oz)}{t:Ob Oz}(hb:g=[]∨vd t=false):uC g t=g++[t]:=by
 unfold uC
 rw[Om]
 rintro⟨b,a⟩
 rcases hb with hb|hb
 ·exact b hb
 ·rw[hb] at a
  cases a
theorem YB {F:Fence}{n':Nat}{P:Pv}{W:Oc}{cs:Array Oe}{e':Pa}{ops:Array Oper}{rest:Ob Oper}{o:Oper}{a:Act}{Q:Exit→Act→Oc→Prop}(hgd:o.guard=none)(s x:Operand)(t:Pa)(ho:o.op=.call {callee:=.builtin .append,args:=#[s,x],argTypes:=#[t,t]}){e:Pa}{i:TypeInfo}{z:Oe}{size bytes:Nat}(ht:P.underlying t=some (.slice e))(hi:P.info? e=some i)(hz:i.zero=some z)(hsize:i.size=size)(hby:i.bytes=bytes)(hzs:z.cells.size=size)(hsz:0 < size){v:Oe}{h:OC Nat}{n:Nat}{xs:Ob Oe}(hsl:Sl W e size v h n xs)(hs:a.eval s=v)(m c:Nat)(hx:a.eval x=RO (some (Y W.heap.size 0)) m c)(hl:cs.toList.length=m * size)(h1:∀u∈cs.toList,u.oneCell'=true)(h63:n+m≤maxLen)(hbytes:(n+m) * bytes≤140737488355328)(hk:∀v' h' w',Sl w' e size v' h' (n+m) (xs++cs.toList)→NH h.toList W w'→(h'=h∨∃g,h'=some g∧W.heap.size≤g)→wpListIn F n' P ops Q rest (a.put o.dst v') w') :
  wpListIn F n' P ops Q (o :: rest) a (W.alloc (.cells cs e')):=by
 refine wpListIn_plain hgd fun K hK'=>?_
 obtain⟨v',h',w',d,r1,r2,r3⟩:=uJ (P:=P) (W.alloc (.cells cs e')) (ty:=o.type) ht hi hz hsize hby hzs hsz (hsl.alloc _) (Y W.heap.size 0) m c cs.toList hl (fun j u hj=>by
  rw[Addr.ZI,PZ _ _ _ _ rfl]
  simpa using hj) h1 h63 hbytes
 unfold Oper.wpIn
 refine⟨?_,?_⟩
 ·simp[Oper.about,ho,resolve,Target.leads,Sem.run_pure]
 ·rw[Oper.semAt_plain F _ _ (by rw[ho];intro c b;cases b)]
  simp[execOp,ho,resolve,invoke,builtin,hs,hx,d,Result.andThen]
  exact MQ
/-! ### The fields -/
theorem ZG (a b:Ob (Ob Oz)):yX (a++b)=yX a++yX b:=by simp[yX]
def ZV (s:Ob Oz):Ob (Ob Oz×Ob Oz):=if (Ub s).2 then [(Ub s).1] else []
theorem Yj (s:Ob Oz):yX [s]=ZV s:=by
 unfold yX ZV
 by_cases h:(Ub s).2=true <;> simp[h]
theorem iN (s:Ob Oz)(r:Ob (Ob Oz)):yS ((s :: r).take 1)=if vd s=true then [] else ZV s:=by
 show yX (if vd s=true then [] else [s])=_
 split
 ·rfl
 ·exact Yj s
theorem iM (g:Ob (Ob Oz))(k:Nat)(hk:k < g.length)(h0:0 < k):yS (g.take (k+1))=yS (g.take k)++ZV g[k]:=by
 rw[Oh hk]
 cases g with
 |nil=>simp at hk
 |cons s r=>
  obtain⟨j,rfl⟩:∃j,k=j+1:=⟨k - 1,O⟩
  rw[List.take_succ_cons,PO]
  show yX (if vd s=true then _ else _)=yX (if vd s=true then _ else _)++_
  split
  ·rw[ZG,Yj]
  ·rw[←PO,ZG,Yj]
theorem Z7:∀(f:Nat) (s:Ob Oz) (p:Nat),(xX f s p).length≤f
 |0,_,_=>by simp[xX]
 |f+1,s,p=>by
  unfold xX
  split
  ·simp
  ·split
   ·simp
   ·have:=Z7 f (s.drop ((O0 s 10).toNat+1)) (p+((O0 s 10).toNat+1))
    simp only[OT]
    omega
theorem sD (g:Ob (Ob Oz))(k:Nat):(yS (g.take k)).length≤k:=by
 have h:∀l:Ob (Ob Oz),(yS l).length≤l.length:=by
  intro l
  cases l with
  |nil=>simp[yS]
  |cons s r=>
   show (yX _).length≤_
   unfold yX
   refine Ol (List.length_filterMap_le _ _) ?_
   split <;> simp
 exact Ol (h _) Zh
def Jh (l:Ob (Ob Oz×Nat)):Nat:=(l.map fun x=>x.1.length).sum
theorem aB (a b:Ob (Ob Oz×Nat)):Jh (a++b)=Jh a+Jh b:=by simp[Jh]
theorem YV:∀(f:Nat) (s:Ob Oz) (p:Nat),Jh (xX f s p)≤s.length
 |0,_,_=>by simp[xX,Jh]
 |f+1,s,p=>by
  unfold xX
  split
  ·simp[Jh]
  ·split
   ·simp[Jh]
   ·rename_i h2
    have h1:=YV f (s.drop ((O0 s 10).toNat+1)) (p+((O0 s 10).toNat+1))
    have h3:=UK (s.take (O0 s 10).toNat) [13]
    have h4:=XU s 10 h2
    simp only[O8,OU] at h1 h3
    have h5:∀(t:Ob Oz) (q:Nat) (l:Ob (Ob Oz×Nat)),Jh ((t,q) :: l)=t.length+Jh l:=fun t q l=>by simp[Jh]
    rw[h5]
    omega
theorem lG (pre:Ob Ln):VB (Zv pre)=Jh (pre.map (·.1)):=by
 have h:∀(l:Ob Ln) (g:Ob (Ob Oz)),VB (l.foldl (fun g x=>uC g x.1.1) g)=VB g+Jh (l.map (·.1)):=by
  intro l
  induction l with
  |nil=>intro g;simp[Jh]
  |cons x r ih=>
   intro g
   rw[Pm,ih,Y7]
   simp[Jh]
   omega
 have:=h pre []
 simpa[Zv,VB] using this
structure GF (W0 W:Oc)(N:Nat)(s:Ob Oz)(g:Ob (Ob Oz))(bp:Nat):Prop where
 st:GSt W0 W N g bp
 gne:∀t∈g,t≠[]
 sum:VB g≤2147483648
 glen:g.length≤2147483648
 size:N+5≤W.heap.size
 fields:(vP s).1=yS g
 body:(vP s).2=bp
theorem GI.gf {W0 W:Oc}{N:Nat}{s:Ob Oz}{xs:Ob Ln}(h:GI W0 W N s.length xs)(hs:s.length≤2147483648)(hS:xs.map (·.1)=xX s.length s 0):GF W0 W N s (Zv xs) s.length:=by
 have a:=sQ (b:=s.length) hS h.ne
 have e:xs.length≤s.length:=by
  have:=Z7 s.length s 0
  rw[←hS,Ow] at this
  exact this
 have f:VB (Zv xs)≤s.length:=by
  rw[lG,hS]
  exact YV _ _ _
 have g:=h.glen
 have c:(vP s).1=yS (Zv xs):=by
  unfold vP
  rw[a]
 have d:(vP s).2=s.length:=by
  unfold vP
  rw[a]
 exact⟨h.st,h.gne,Ol f hs,Ol g (Ol e hs),h.size,c,d⟩
theorem GX.gf {W0 W:Oc}{N:Nat}{s:Ob Oz}{pre:Ob Ln}(h:GX W0 W N pre)(hs:s.length≤2147483648)(hS:∃r,pre.map (·.1)++r=xX s.length s 0):∃g bp,GF W0 W N s g bp:=by
 obtain⟨⟨c,x,rfl,q,i,e,a,_,d⟩,j⟩:=h
 obtain⟨r,f⟩:=hS
 have k:=mR (b:=s.length) f e q
 have n:c.length≤s.length:=by
  have:=Z7 s.length s 0
  rw[←f] at this
  simp only[Oo,Ow,Pf] at this
  omega
 have o:VB (Zv c)≤s.length:=by
  have p:=YV s.length s 0
  rw[←f,OQ,aB,aB] at p
  rw[lG]
  omega
 have l:(vP s).1=yS (Zv c):=by
  unfold vP
  rw[k]
 have m:(vP s).2=x.1.2:=by
  unfold vP
  rw[k]
 exact⟨Zv c,x.1.2,i,a,Ol o hs,Ol d (Ol n hs),j,l,m⟩
structure gV (w wr:Oc)(N:Nat)(g:Ob (Ob Oz))(bp D:Nat)(gv:Oe)(hg:OC Nat)(k:Nat)(f:Oe):Prop where
 fs:∃h,Sl wr 240 2 f h (yS (g.take k)).length (zU QD (yS (g.take k)))∧∀b,h=some b→N≤b
 gs:Sl wr 9 1 gv hg g.length (g.map encStr)
 gf:∀b,hg=some b→N≤b
 body:NG wr N 3 #[I bp]
 below:Od N w wr
 dD:wr.heap[D]?=some (.deferred (some []))
theorem gV.later {w wr W:Oc}{N:Nat}{g:Ob (Ob Oz)}{bp D:Nat}{gv:Oe}{hg:OC Nat}{k:Nat}{f:Oe}(h:gV w wr N g bp D gv hg k f)(hN:N≤wr.heap.size)(hb:Od wr wr W):gV w W N g bp D gv hg k f:=by
 obtain⟨d,a,c⟩:=h.fs
 exact⟨⟨d,a.keep (fun b hb2=>hb.block b (a.lt b hb2)),c⟩,h.gs.keep (fun b hb2=>hb.block b (h.gs.lt b hb2)),h.gf,h.body.below hb h.body.lt,h.below.trans (hb.mono hN),(hb.block D (Pp.1 h.dD).1).trans h.dD⟩
theorem gV.same {w wr:Oc}{N:Nat}{g:Ob (Ob Oz)}{bp D:Nat}{gv:Oe}{hg:OC Nat}{k k':Nat}{f:Oe}(h:gV w wr N g bp D gv hg k f)(he:yS (g.take k')=yS (g.take k)):gV w wr N g bp D gv hg k' f:=by
 refine⟨?_,h.gs,h.gf,h.body,h.below,h.dD⟩
 rw[he]
 exact h.fs
theorem gV.more {w wr W2:Oc}{N:Nat}{g:Ob (Ob Oz)}{bp D:Nat}{gv:Oe}{hg:OC Nat}{k:Nat}{f f':Oe}{x:Ob Oz×Ob Oz}(h:gV w wr N g bp D gv hg k f)(hN:N≤wr.heap.size)(he:yS (g.take (k+1))=yS (g.take k)++[x]){hh h':OC Nat}(hs:Sl wr 240 2 f hh (yS (g.take k)).length (zU QD (yS (g.take k))))(hf:∀b,hh=some b→N≤b)(hs2:Sl W2 240 2 f' h' ((yS (g.take k)).length+1) (zU QD (yS (g.take k))++QD x))(hc:NH hh.toList wr W2)(ho:h'=hh∨∃g,h'=some g∧wr.heap.size≤g):gV w W2 N g bp D gv hg (k+1) f':=by
 refine⟨⟨h',?_,fun b hb=>?_⟩,h.gs.N4 hc (fun b hb hm=>h.gs.np hs zD b hb yT),h.gf,h.body.N4 hc (fun hm=>hs.vu h.body zD N yT rfl),h.below.trans (hc.below hN fun k hk=>hf k yi),?_⟩
 ·rw[he,Oo,Pf,uI]
  exact hs2
 ·rcases ho with h3|⟨g2,h3,h4⟩
  ·exact hf b V2
  ·rw[h3] at hb
   injection hb with hb
   omega
 ·refine(hc.block D (Pp.1 h.dD).1 fun hm=>?_).trans h.dD
  obtain⟨t,c,a⟩:=hs.K0 D hm
  unfold NG at a
  rw[h.dD] at a
  cases a
theorem gV.done {w wr:Oc}{N:Nat}{g:Ob (Ob Oz)}{bp D:Nat}{gv:Oe}{hg:OC Nat}{k:Nat}{f:Oe}(h:gV w wr N g bp D gv hg k f)(hND:N≠D)(hN:N≤wr.heap.size)(hD:N≤D) :
  (∃hh,Sl ((wr.drew.setCell (Y N 0) (I bp)).putObj D (.deferred none)) 240 2 f hh (yS (g.take k)).length (zU QD (yS (g.take k)))∧∀b,hh=some b→N≤b)∧Od N w ((wr.drew.setCell (Y N 0) (I bp)).putObj D (.deferred none))∧
   ((wr.drew.setCell (Y N 0) (I bp)).putObj D (.deferred none)).cell? (Y N 0)=some (I bp)∧(wr.drew.setCell (Y N 0) (I bp)).heap[D]?=some (.deferred (some [])):=by
 have l:(wr.drew.setCell (Y N 0) (I bp)).heap[D]?=some (.deferred (some [])):=(P3 wr.drew (Y N 0) _ D (fun e=>hND e.symm)).trans h.dD
 have c:NG (wr.drew.setCell (Y N 0) (I bp)) N 3 #[I bp]:=(h.body.heap (w':=wr.drew) rfl).set 0 _
 have n:NH [N,D] wr ((wr.drew.setCell (Y N 0) (I bp)).putObj D (.deferred none)):=by
  have a:NH [N,D] wr (wr.drew.setCell (Y N 0) (I bp)):=((NH.refl [N,D] wr).drew).set (.inl zv) _
  refine⟨a.os,a.tape,a.output,by rw[World.putObj_size];exact a.size,fun j hj hn=>?_⟩
  have m:¬j=N∧¬j=D:=by simpa using hn
  exact(PI m.2).trans (a.block j hj hn)
 obtain⟨hh,i,o⟩:=h.fs
 refine⟨⟨hh,i.N4 n (fun b hb hm=>?_),o⟩,h.below.trans (n.below hN fun j hj=>?_),?_,l⟩
 ·simp only[OB,List.not_mem_nil,or_false] at hm
  rcases hm with rfl|rfl
  ·exact i.vu h.body zD b hb rfl
  ·obtain⟨t,p,d⟩:=i.K0 b xQ
   unfold NG at d
   rw[h.dD] at d
   cases d
 ·simp only[OB,List.not_mem_nil,or_false] at hj
  omega
 ·have d:NG ((wr.drew.setCell (Y N 0) (I bp)).putObj D (.deferred none)) N 3 #[I bp]:=(PI hND).trans c
  exact d.cell 0
theorem LL (s sep:Ob Oz):(PY s sep).1.length≤s.length∧(PY s sep).2.1.length≤s.length:=by
 unfold PY
 split
 ·simp only[OU,O8]
  omega
 ·simp
theorem UI {g:Ob (Ob Oz)}{t:Ob Oz}(h:t∈g):t.length≤VB g:=by
 obtain⟨a,b,rfl⟩:=List.append_of_mem h
 rw[aA,show t :: b=[t]++b from rfl,aA]
 have:VB [t]=t.length:=by simp[VB]
 omega
end
section
attribute [local go_sem ↓] Go.wp_at_zero Go.wp_at_succ
attribute [local go_sem] Oper.semAt_some
theorem Try.infoField:(prog.info? 240).map (fun i=>(i.zero,i.size,i.bytes))=some (some (.agg #[RP ⟨#[]⟩,RP ⟨#[]⟩]),2,32):=zQ
theorem oF (w:Oc)(s:Ob Oz):GI w (((((w.alloc (.cells #[I s.length] 3)).alloc (.cells #[RO none 0 0] 38)).alloc (.cells #[Oa s] 9)).alloc (.cells #[I 0] 3)).alloc (.cells #[I s.length] 3)) w.heap.size s.length []:=by
 refine⟨⟨⟨RO none 0 0,none,?_,Sl.nil _ _ _,fun b hb=>by cases hb⟩,?_,?_⟩,fun x hx=>by simp at hx,fun t ht=>by simp[Zv] at ht,by simp[Zv,VB],by simp[Zv],zv⟩
 ·exact(((Qj w _ _ _).alloc _).alloc _).alloc _
 ·exact((((NG.new w _ _).alloc _).alloc _).alloc _).alloc _
 ·exact zj (zj (zj (zj (zt w _) (zt _ _)) (zt _ _)) (zt _ _)) (zt _ _)
theorem lF (w:Oc)(s:Ob Oz):LSt (((((w.alloc (.cells #[I s.length] 3)).alloc (.cells #[RO none 0 0] 38)).alloc (.cells #[Oa s] 9)).alloc (.cells #[I 0] 3)).alloc (.cells #[I s.length] 3)) (w.heap.size+3) (w.heap.size+4) (w.heap.size+2) s 0:=by
 have a:=NG.new ((w.alloc (.cells #[I s.length] 3)).alloc (.cells #[RO none 0 0] 38)) 9 #[Oa s]
 have b:=NG.new (((w.alloc (.cells #[I s.length] 3)).alloc (.cells #[RO none 0 0] 38)).alloc (.cells #[Oa s] 9)) 3 #[I 0]
 have c:=NG.new ((((w.alloc (.cells #[I s.length] 3)).alloc (.cells #[RO none 0 0] 38)).alloc (.cells #[Oa s] 9)).alloc (.cells #[I 0] 3)) 3 #[I s.length]
 simp only[O3] at a b c
 exact⟨b.alloc _,c,(a.alloc _).alloc _⟩
theorem CB {BA BT BS:Nat}{A B CC:Oc}(h:KpL BA BT BS A B)(k:KpL BA BT BS B CC):KpL BA BT BS A CC:=⟨k.1.trans h.1,k.2.1.trans h.2.1,k.2.2.trans h.2.2⟩
theorem kpL_put {BA BT BS B:Nat}(h:BA < B∧BT < B∧BS < B)(W:Oc)(l:Nat)(o o':Obj)(hl:B≤l)(_:W.heap[l]?=some o)(_:o.isCells=false)(_:o.isWalk=false):KpL BA BT BS W (W.putObj l o'):=
 ⟨PI O,PI O,PI O⟩
theorem DL (s:Ob Oz)(hs:s.length≤2147483648)(w:Oc) :
  C 153 #[Oa s,I 0,I s.length] w fun e w'=>∃v hh,e=RR (.tuple #[v,I ((vP s).2:Nat)])∧Sl w' 240 2 v hh (vP s).1.length (zU QD (vP s).1)∧(∀b,hh=some b→w.heap.size≤b)∧Od w w w':=by
 obtain⟨i0,hi,X,a0,a1⟩:=info_parts Try.infoString
 obtain⟨j0,hj,F9,F7,hj2⟩:=info_parts Try.infoField
 have S:=fun W=>CE ⟨s.toArray⟩ 0 s.length W
 have n1:¬(s.length:Int) < 0:=O
 refine(callsIn_wide (n:=3)).1 ?_
 refine callsIn_of_wp_marks func153 rfl trivial ?_ rfl
 simp only[ntmps153,PC,OT,List.length_nil,Nat.reduceAdd,Nat.reduceSub,Array.replicate_succ,Array.replicate_zero,List.push_toArray,List.append_toArray,PE,PO]
 refine wpIn_wide.2 ?_
 go_wp2_with (first
  |(go_at_call 185;refine(S _).mono ?_;rintro e w1 ⟨rfl,rfl⟩;clear S)
  |fail)
 obtain⟨N,hN⟩:∃N,w.heap.size=N:=⟨_,rfl⟩
 obtain⟨H,q⟩:∃H:Oc,H=((((w.alloc (.cells #[I s.length] 3)).alloc (.cells #[RO none 0 0] 38)).alloc (.cells #[Oa s] 9)).alloc (.cells #[I 0] 3)).alloc (.cells #[I s.length] 3):=⟨_,rfl⟩
 rw[←q]
 have T:H.heap.size=N+5:=by rw[q];simp;omega
 have I6:LSt H (N+3) (N+4) (N+2) s 0:=by
  subst hN
  rw[q]
  exact lF w s
 have I9:GI w H N s.length []:=by
  subst hN
  rw[q]
  exact oF w s
 rw[hN]
 refine' wpIn_wide.1 (VY (F:=RN) (n:=3) (N:=s.length) (B:=N+3) rfl zD (gf:=232) (lb:=#[RQ (some (Y (N+3) 0)),RQ (some (Y (N+4) 0)),RQ (some (Y (N+2) 0))]) rfl trivial (O9 func232 zQ rfl)
  (nd s hs (N+3) (N+4) (N+2) O H I6) O CB (kpL_put O) (fun _=>rfl)
  (fun d W=>GI w W N s.length d) (fun c d W=>c=.exit 0∧GX w W N d) (T ▸ GI.own w N s.length) ?ix (fun d A A' h hc=>h.Nw hc) (fun c d A A' h hc=>⟨h.1,h.2.Nw hc⟩) I9 _ ?assign ?body ?done ?stop)
 case ix=>
  intro c
  rw[T]
  exact fun d A A' row h hg hr=>⟨h.1,GX.own w N d A A' row h.2 hg hr⟩
 case assign=>
  intro l x W K hK
  gi_wp2
  exact hK
 case body=>
  rintro l d x W p a9
  have HI:=V p
  obtain⟨v,hh,hB,j,hf⟩:=p.st.cell
  obtain⟨n,hn⟩:∃n,(Zv d).length=n:=⟨_,rfl⟩
  rw[hn] at j
  have HB:=V hB
  have HF:=V hf
  have J:=V j
  have c1:W.cell? (Y (N+1) 0)=some v:=hB.cell 0
  have f1:W.frozen? (Y (N+1) 0)=false:=hB.frozen 0
  have c0:W.cell? (Y N 0)=some (I s.length):=p.st.body.cell 0
  have f0:W.frozen? (Y N 0)=false:=p.st.body.frozen 0
  have a4:=p.glen
  rw[hn] at a4
  have HN:=V hn
  have aa:=p.sum
  have U:=x.2.1
  clear p hB hf hn
  obtain⟨t,G⟩:∃t,x.1.1=t:=⟨_,rfl⟩
  obtain⟨nx,z⟩:∃nx,x.1.2=nx:=⟨_,rfl⟩
  have y:=V G
  have kr:=V z
  rw[G] at U ⊢
  rw[z]
  clear G z
  obtain⟨A,cap,rfl,a5,a2⟩:=j.form
  clear a5 a2
  rcases t with _|⟨c,r⟩
  ·have E:=HI.o.stop x y.o
   rw[kr.o] at E
   have L:=V E
   clear E
   gi_wp2
   exact⟨L.o.1,rfl,L.o.2⟩
  ·have I8:∀h:0 < (⟨(c :: r).toArray⟩:Oy).size,(⟨(c :: r).toArray⟩:Oy)[0]'h=c:=fun _=>rfl
   have hne:x.1.1≠[]:=by rw[y.o];simp
   have u:=V hne
   clear hne
   have qc:vd (c :: r)=(decide (c=32)||decide (c=9)):=by simp[vd]
   by_cases hg:Zv d=[]
   ·have f:Zv (d++[x])=Zv d++[x.1.1]:=by rw[Yk];exact VF (.inl hg)
    have i:=V f
    have a3:n=0:=by rw[←HN.o,hg];rfl
    subst a3
    clear f qc hg
    ·gi_wp2_with (first
      |(gi_at_builtin;refine YB rfl _ _ 38 rfl underlying38 hi X a0 a1 rfl zD J.o rfl 1 1 rfl rfl ?_ ?_ ?_ ?_)
      |fail)
     any_goals (first|(simp[Value.oneCell'];done)|(unfold maxLen;omega)|omega|rfl)
     ·intro v2 h2 w3 uq F5 qb
      obtain⟨A2,P,rfl,_,_⟩:=uq.form
      have hp:=HI.o.push x u.o i.o HN.o HB.o J.o HF.o (by rw[y.o];exact uq) F5 qb
      have k1:w3.cell? (Y (N+1) 0)=some (RO A 0 cap):=(HB.o.N4 F5 (fun hm=>by have:=HF.o (N+1) yT;omega)).cell 0
      exact EC
   ·obtain⟨k,rfl⟩:∃k,n=k+1:=⟨n - 1,by
     have h1:(Zv d).length≠0:=fun h=>hg (Oi h)
     rw[HN.o] at h1
     omega⟩
    have g0:(0:Int) < (k:Int)+1:=O
    by_cases hb:vd (c :: r)=true
    ·have jb:k < (Zv d).length:=V3
     have f:Zv (d++[x])=(Zv d).set k ((Zv d)[k]++x.1.1):=by
      rw[Yk]
      exact JO HN.o jb (by rw[y.o];exact hb)
     obtain⟨b,a6,a7,ac,hv,_,_,a8,R⟩:=j.at_ O
     injection hv with hv1 hv2 fq
     subst hv1 fq
     clear hv2
     have hp:=HI.o.join x u.o k HN.o jb f HB.o HN.o J.o HF.o
     obtain⟨M,cb⟩:=R k O
     have ca:W.cell? (Y b (a6+k))=some (RP ⟨(Zv d)[k].toArray⟩):=M.trans (by simp[jb,encStr])
     clear M
     have m:(Zv d)[k].length≤VB (Zv d):=UI (Oj jb)
     rw[y.o] at hp
     generalize (Zv d)[k]=la at ca hp m
     have F4:=V hp
     have g5:Ov.wrap ((k:Int)+1 - 1)=(k:Int):=IR
     have g6:Ov.wrap (k:Int)=(k:Int):=Og _ O
     have g7:(k:Int) < (k:Int)+1:=O
     have g8:(0:Int)≤(k:Int):=O
     have ad:r.length+1≤2147483648:=by simpa using U
     have n2:¬9223372036854775807 < la.length+(r.length+1):=O
     have ab:=fun(a b:Ob Oz)=>Pj a b
     have hc:c=32∨c=9:=by
      rw[qc] at hb
      simpa using hb
     clear hb qc R f hg hp m j
     rcases hc with rfl|rfl
     ·gi_wp2
      exact F4.o
     ·gi_wp2
      exact F4.o
    ·have f:Zv (d++[x])=Zv d++[x.1.1]:=by rw[Yk];exact VF (.inr (by rw[y.o];simpa using hb))
     have i:=V f
     have hc:¬c=32∧¬c=9:=by
      rw[qc] at hb
      simpa using hb
     have Dv:¬(c.toNat:Int)=32:=fun h=>hc.1 (by
      have h2:c.toNat=32:=O
      exact UInt8.toNat_inj.1 h2)
     have h9:¬(c.toNat:Int)=9:=fun h=>hc.2 (by
      have h2:c.toNat=9:=O
      exact UInt8.toNat_inj.1 h2)
     have I5:((c.toNat:Int)==32)=false:=by simpa using Dv
     have Ib:((c.toNat:Int)==9)=false:=by simpa using h9
     clear f qc hg hb hc Dv h9
     ·gi_wp2_with (first
       |(gi_at_builtin;refine YB rfl _ _ 38 rfl underlying38 hi X a0 a1 rfl zD J.o rfl 1 1 rfl rfl ?_ ?_ ?_ ?_)
       |fail)
      any_goals (first|(simp[Value.oneCell'];done)|(unfold maxLen;omega)|omega|rfl)
      ·intro v2 h2 w3 uq F5 qb
       obtain⟨A2,P,rfl,_,_⟩:=uq.form
       have hp:=HI.o.push x u.o i.o HN.o HB.o J.o HF.o (by rw[y.o];exact uq) F5 qb
       have k1:w3.cell? (Y (N+1) 0)=some (RO A (k+1) cap):=(HB.o.N4 F5 (fun hm=>by have:=HF.o (N+1) yT;omega)).cell 0
       exact EC
 case done=>
  rintro D xs W hD Q p hK
  obtain⟨g,bp,hF⟩:∃g bp,GF w W N s g bp:=⟨_,_,p.gf hs Q⟩
  clear p Q
  exact zzm2q
 case stop=>
  rintro D c d W hD Q ⟨rfl,hX⟩ hK
  obtain⟨g,bp,hF⟩:=hX.gf hs Q
  clear hX Q
  refine wpIn_wide.2 ?_
  exact zzm2q
end
section
attribute [local go_sem ↓] Go.wp_at_zero Go.wp_at_succ
theorem QJ:∀(L:Ob (Ob Oz×Nat)) (g:Ob (Ob Oz)) (b:Nat),VB (vJ L g b).1≤VB g+Jh L
 |[],g,b=>by simp[vJ,Jh]
 |(t,p) :: r,g,b=>by
  have h5:Jh ((t,p) :: r)=t.length+Jh r:=by simp[Jh]
  rw[vJ]
  split
  ·show VB g≤_
   omega
  ·have a:=QJ r (uC g t) b
   rw[Y7] at a
   omega
theorem Q9 (s:Ob Oz):∀f∈(vP s).1,f.1.length≤s.length:=by
 intro f c
 have d:=QJ (xX s.length s 0) [] s.length
 have k:=YV s.length s 0
 have j:VB ([]:Ob (Ob Oz))=0:=by simp[VB]
 have c:f∈yS (vJ (xX s.length s 0) [] s.length).1:=c
 generalize (vJ (xX s.length s 0) [] s.length).1=g at c d
 have e:∀l:Ob (Ob Oz),f∈yX l→∃t∈l,(Ub t).1=f:=by
  intro l i
  obtain⟨t,a,b⟩:=List.mem_filterMap.1 i
  refine⟨t,a,?_⟩
  split at b
  ·exact O6 b
  ·cases b
 have h:∃t∈g,(Ub t).1=f:=by
  cases g with
  |nil=>cases c
  |cons x r=>
   obtain⟨t,a,b⟩:=e (if vd x=true then r else x :: r) c
   refine⟨t,?_,b⟩
   split at a
   ·exact OP _ a
   ·exact a
 obtain⟨t,a,rfl⟩:=h
 have m:=UI a
 have n:=(LL t [58]).1
 show (PY t [58]).1.length≤_
 omega
theorem qO (t name:Ob Oz)(ht:t.length≤2147483648)(hn:name.length≤4294967296)(w:Oc) :
  C 152 #[Oa t,Oa name] w fun e w'=>e=RR (RP ⟨(yL t name).toArray⟩)∧Od w w w':=by
 have b:=DL t ht w
 have c:=Q9 t
 unfold yL
 generalize (vP t).2=bp at b
 generalize (vP t).1=l at b c ⊢
 have a:=fun W v (hr:NN W [] 2 v l.length (zU QD l))=>Bk W v [] l hr name hn (fun f hf=>by have:=c f hf;omega)
 generalize uR l name=ans at a
 obtain⟨n,p⟩:=ans
 have k:=V a
 clear c a
 go_enter func152,ntmps152
 go_wp2_with (first
  |(go_at_call 153;refine b.mono ?_;rintro e m ⟨v,q,rfl,h,_,d⟩;have a:=k.o m v (h.reads [] zv);have i:=V d;clear b h d)
  |(go_at_call 154;refine a.mono ?_;rintro e r ⟨rfl,g⟩;have j:=V (zj i.o g);clear a g)
  |fail)
 go_ret
 exact⟨rfl,j.o⟩
def irt:Ob Oz:=[105,110,45,114,101,112,108,121,45,116,111]
def mid:Ob Oz:=[109,101,115,115,97,103,101,45,105,100]
theorem eG {α:Type}(p:α→Bool):∀(l:Ob α) (k:Nat) (hk:k < l.length),p l[k]=true→(∀j (hj:j < l.length),j < k→p l[j]=false)→l.find? p=some l[k]
 |x :: r,0,_,h,_=>by
  have h:p x=true:=h
  simp[h]
 |x :: r,k+1,hk,h,hj=>by
  have h0:p x=false:=hj 0 zv O
  rw[Pb (by simp[h0])]
  exact eG p r k yi vZ (fun j hj1 hj2=>hj (j+1) (by simpa using hj1) O)
theorem iR {α:Type}(p:α→Bool)(l:Ob α)(h:∀j (hj:j < l.length),p l[j]=false):l.find? p=none:=by
 rw[List.find?_eq_none]
 intro x a
 obtain⟨j,hj,rfl⟩:=Pg a
 simp[h j hj]
theorem wM (w:Oc)(g:Nat)(q:zW)(x:Acc)(h:zH w g q x)(hn:x.zC.length≤1099511627776)(hm:∀m∈x.zC,m.text.length≤2147483648)(t:Ob Oz)(ht:t.length≤2147483648) :
  C 75 #[Y g 0,Oa t] w fun e w'=>e=RR (I (uN yL x t))∧Od w w w':=by
 have U:=fun W=>qO t irt ht zD W
 obtain⟨J,B⟩:∃J,uN yL x t=J:=⟨_,rfl⟩
 rw[B]
 have u:J=if yL t irt=[] then 0 else match x.zC.find? (fun m=>decide (yL m.text mid=yL t irt)) with
  |some m=>m.thread
  |none=>0:=by
  rw[←B]
  rfl
 obtain⟨L,R⟩:∃L,yL t irt=L:=⟨_,rfl⟩
 rw[R] at u
 have U:∀W,C 152 #[Oa t,RP ⟨#[105,110,45,114,101,112,108,121,45,116,111]⟩] W fun e w'=>e=RR (RP ⟨L.toArray⟩)∧Od W W w':=fun W=>by
  have:=U W
  rw[R] at this
  exact this
 have M:=h.xj
 have a4:=h.blk.lt
 have T:=V u
 have H:=V h
 have HM:=V hm
 obtain⟨A,aa,S,_,_⟩:=h.zC.form
 rw[S] at M
 obtain⟨n,Q⟩:∃n,x.zC.length=n:=⟨_,rfl⟩
 rw[Q] at M hn
 have HN:=V Q
 have a3:=V S
 clear B u R h hm Q S
 cases L with
 |nil=>
  rw[OG rfl] at T
  go_enter func75,ntmps75
  go_wp2_with (first
   |(go_at_call 152;refine(U _).mono ?_;rintro e w1 ⟨rfl,D⟩;clear U)
   |fail)
  go_ret
  exact⟨by rw[T.o];rfl,D⟩
 |cons c r=>
  rw[Om zv] at T
  go_enter func75,ntmps75
  go_wp2_with (first
   |(go_at_call 152;refine(U _).mono ?_;rintro e w1 ⟨rfl,D⟩;have ab:=(D.cell (p:=⟨g,11,none⟩) a4).trans M;have a2:=V D;clear U D)
   |fail)
  go_loopw [19] (fun i wr=>∃k:Nat,k≤n∧i=I k∧Z (Od w w wr)∧Z (∀j (hj:j < x.zC.length),j < k→decide (yL x.zC[j].text mid=c :: r)=false)) (fun i _=>n - (intOf i).toNat)
  case atStart=>exact⟨0,OE _,rfl,a2,V (fun j hj h=>by omega)⟩
  case round=>
   obtain⟨k,hk,rfl,z,HP⟩:=hrel
   by_cases af:k < n
   ·have E:k < x.zC.length:=Zg
    have N:k < q.ms.length:=by rw[H.o.XC];exact E
    obtain⟨b,a,a9,a1,_,_,_,s,l⟩:=H.o.ud k E N
    rw[a3.o,HN.o] at a1
    injection a1 with hv3 hv4 hv5
    subst hv3 hv5
    clear hv4
    have hp:=H.o.msAt k E N
    have F:=HM.o _ (Oj E)
    have f:=eG (fun m:zR=>decide (yL m.text mid=c :: r)) x.zC k E
    have d:decide (yL x.zC[k].text mid=c :: r)=false→∀j (hj:j < x.zC.length),j < k+1→decide (yL x.zC[j].text mid=c :: r)=false:=fun h0 j hj hjk=>by
     by_cases a0:j=k
     ·subst a0
      exact h0
     ·exact HP.o j hj O
    rw[←hp] at F f d
    have l0:=(z.o.cell (p:=⟨b,a+k * 8,none⟩) s).trans (l 0 O).1
    have l1:=(z.o.cell (p:=⟨b,a+k * 8+1,none⟩) s).trans (l 1 O).1
    have l2:=(z.o.cell (p:=⟨b,a+k * 8+2,none⟩) s).trans (l 2 O).1
    have l3:=(z.o.cell (p:=⟨b,a+k * 8+3,none⟩) s).trans (l 3 O).1
    have l4:=(z.o.cell (p:=⟨b,a+k * 8+4,none⟩) s).trans (l 4 O).1
    have l5:=(z.o.cell (p:=⟨b,a+k * 8+5,none⟩) s).trans (l 5 O).1
    have l6:=(z.o.cell (p:=⟨b,a+k * 8+6,none⟩) s).trans (l 6 O).1
    have l7:=(z.o.cell (p:=⟨b,a+k * 8+7,none⟩) s).trans (l 7 O).1
    have K:=H.o.parts _ (Oj N)
    obtain⟨m,P⟩:∃m,m=q.ms[k]:=⟨_,rfl⟩
    rw[←P] at l0 l1 l2 l3 l4 l5 l6 l7 F f d K hp
    obtain⟨⟨id,th,tx,ta,ks,me,mo,bo⟩,kv,mv⟩:=m
    obtain⟨A1,p1,e1,_,_⟩:=K.keys.form
    obtain⟨A2,p2,e2,_,_⟩:=K.mem.form
    have a6:kv=RO A1 ks.length p1:=e1
    have a7:mv=RO A2 me.length p2:=e2
    clear K e1 e2
    subst a6 a7
    have d0:wr.cell? (Y b (a+k * 8))=some (I id):=l0
    have d1:wr.cell? (Y b (a+k * 8+1))=some (I th):=l1
    have d2:wr.cell? (Y b (a+k * 8+2))=some (RP ⟨tx.toArray⟩):=l2
    have d3:wr.cell? (Y b (a+k * 8+3))=some (I ta):=l3
    have d4:wr.cell? (Y b (a+k * 8+4))=some (RO A1 ks.length p1):=l4
    have d5:wr.cell? (Y b (a+k * 8+5))=some (RO A2 me.length p2):=l5
    have d6:wr.cell? (Y b (a+k * 8+6))=some (I mo):=l6
    have d7:wr.cell? (Y b (a+k * 8+7))=some (I bo):=l7
    have y:=fun W=>qO tx mid F zD W
    have y:∀W,C 152 #[Oa tx,RP ⟨#[109,101,115,115,97,103,101,45,105,100]⟩] W fun e w'=>e=RR (RP ⟨(yL tx mid).toArray⟩)∧Od W W w':=y
    simp only at f d
    generalize yL tx mid=hh at y f d
    by_cases he:hh=c :: r
    ·have hf:=f (by simp[he]) HP.o
     have a8:J=th:=by
      rw[T.o,hf]
     clear l f d l0 l1 l2 l3 l4 l5 l6 l7 hp F hf P
     subst he
     go_wp2_with (first
      |(go_at_call 152;refine(y _).mono ?_;rintro e w3 ⟨rfl,v⟩;have z1:w3.cell? (Y wr.heap.size 1)=some (I th):=((NG.new wr _ _).below v zv).cell 1;have G:=V (zj z.o (zj (zt wr _) v));clear y v)
      |fail)
     go_ret
     exact⟨by rw[a8];rfl,G.o⟩
    ·have hq:(hh==c :: r)=false:=Ju
     have X:=V (d Ju)
     clear l f d l0 l1 l2 l3 l4 l5 l6 l7 hp F P
     go_wp2_with (first
      |(go_at_call 152;refine(y _).mono ?_;rintro e w3 ⟨rfl,v⟩;have z1:w3.cell? (Y wr.heap.size 1)=some (I th):=((NG.new wr _ _).below v zv).cell 1;have G:=V (zj z.o (zj (zt wr _) v));clear y v)
      |fail)
     refine⟨?_,zV⟩
     first|exact⟨k+1,O,zE,G,X⟩|((repeat apply OA);exact⟨⟨k+1,O,zE,G,X⟩,rfl⟩)
   ·have a5:k=n:=O
    subst a5
    have hf:=iR (fun m:zR=>decide (yL m.text mid=c :: r)) x.zC (fun j hj=>HP.o j hj (by rw[←HN.o];exact hj))
    rw[hf] at T
    go_wp2_with fail
    go_ret
    exact⟨by rw[T.o];rfl,z.o⟩
end
section
theorem yK {P:Pv}{ops:Array Oper}{o:Oper}{a:Act}{w:Oc}{K:Act→Oc→Prop}{Q:Exit→Act→Oc→Prop}{E:Prop}(hgd:o.guard=none){f:PR}{xs:Array Operand}{ts:Array Pa}(ho:o.op=.call {callee:=.value (.func f),args:=xs,argTypes:=ts})(eg:∀args W,(callFunc f args).run P W=.ok (.enter f args) W){vals:Array Oe}(hv:xs.map a.eval=vals){R:Ending→Oc→Prop}(hc:Calls P f vals w R)(hk:∀e w',R e w'→∃v,e=RR v∧K (a.put o.dst v) w'):if P9 o (yielded ops a.tmps)=true then Oper.wp P o a w K Q else E:=by
 have g:P9 o (yielded ops a.tmps)=true:=by simp[P9,hgd]
 rw[OG g]
 have b:(execOp a.eval o).run P w=.ok (.enter f vals) w:=by
  unfold execOp
  simp only[ho,resolve,Act.eval] at hv ⊢
  simp[Deferred.ofValue,invoke,go_sem,hv,eg]
 unfold Oper.wp
 rw[b,Oper.upon_enter]
 refine hc.mono ?_
 intro e w' d
 obtain⟨v,rfl,c⟩:=hk e w' d
 exact c
section
variable {w W W2:Oc} {g:Nat} {q:zW} {x x1:Acc}
theorem Sl.fresh {e:Pa}{size n:Nat}{v:Oe}{h:OC Nat}{xs:Ob Oe}(hs:Sl W e size v h n xs)(hf:∀b,h=some b→w.heap.size≤b)(hw:zH w g q x)(hc:NH (q.own g) W W2):Sl W2 e size v h n xs:=
 hs.N4 hc fun b hb hm=>by
  have h1:=hw.lt b hm
  have h2:=hf b hb
  omega
theorem NG.fresh {b:Nat}{t:Pa}{cs:Array Oe}(hB:NG W b t cs)(hf:w.heap.size≤b)(hw:zH w g q x)(hc:NH (q.own g) W W2):NG W2 b t cs:=
 hB.N4 hc fun hm=>by
  have h1:=hw.lt b hm
  omega
theorem zL.yO (h:zL w W g q x1 q)(hb:Od W W W2):zL w W2 g q x1 q:=h.trans (zL.of_below h.at_ hb)
end
theorem zH.kX {w:Oc}{g:Nat}{q:zW}{x:Acc}(h:zH w g q x)(v:Int):zL w (w.setCell (Y g 15) (I v)) g q {x with zP:=v} q:=h.vn 15 (I v) {x with zP:=v} rfl rfl rfl rfl
theorem ZO (l:Ob Int)(i:Int)(bs:Ob xA):zM (l++[i]) bs=(JR i (zM l bs).1,(zM l bs).2++[(i,yb (zM l bs).1 i)]):=by simp[zM]
theorem vX:∀(l:Ob Int) (bs:Ob xA),ids (zM l bs).1=ids bs:=by
 intro l bs
 have h:∀(l:Ob Int) (s:Ob xA×Ob (Int×Int)),ids (l.foldl (fun s id=>(JR id s.1,s.2++[(id,yb s.1 id)])) s).1=ids s.1:=by
  intro l
  induction l with
  |nil=>intro s;rfl
  |cons i r ih=>
   intro s
   rw[Pm,ih]
   exact Jd i (fun b=>{b with next:=b.next+1}) (fun b=>rfl) _
 exact h l (bs,[])
theorem vh (l:Ob Int)(bs:Ob xA):(zM l bs).1.length=bs.length:=by
 have:=congrArg List.length (vX l bs)
 simpa[ids] using this
theorem ZN (l:Ob Int)(bs:Ob xA):(zM l bs).2.length=l.length:=by
 have h:∀(l:Ob Int) (s:Ob xA×Ob (Int×Int)),(l.foldl (fun s id=>(JR id s.1,s.2++[(id,yb s.1 id)])) s).2.length=s.2.length+l.length:=by
  intro l
  induction l with
  |nil=>intro s;simp
  |cons i r ih=>
   intro s
   rw[Pm,ih]
   simp
   omega
 have:=h l (bs,[])
 simpa[zM] using this
theorem Yx {c:Ud}{last:Int}{bs:Ob xA}(hc:rK c)(hn:(ids bs).Nodup)(hb:∀b∈bs,Km c last b)(l:Ob Int)(hl:l.Nodup)(hs:∀i∈l,yb bs i≤c.vC)(i:Int)(hi:i∈ids bs) :
  0≤yb (zM l bs).1 i∧yb (zM l bs).1 i≤4294967296:=by
 rw[vT l bs hn hl]
 have f:=ZJ c l bs (fun b a hbl=>by
  have:=hs b.id hbl
  rw[ux hn a] at this
  exact this)
 have d:i∈ids (xE l bs):=by rw[Ym];exact hi
 obtain⟨b,a,rfl⟩:=OL.1 d
 have e:(ids (xE l bs)).Nodup:=by rw[Ym];exact hn
 have g:=f.ok last hb b a
 rw[ux e a]
 have h:=g.next
 have j:=hc.uid
 omega
structure bW (w w5 wr:Oc)(g:Nat)(q:zW)(x2:Acc)(l:Ob Int)(B:Nat)(c0 c1 c2 c3 c4 c6 c7:Oe)(k:Nat)(mv:Oe):Prop where
 st:zL w wr g q {x2 with zg:=(zM (l.take k) x2.zg).1} q
 ch:NH (q.own g) w5 wr
 blk:NG wr B 83 #[c0,c1,c2,c3,c4,mv,c6,c7]
 mem:∃h,Sl wr 153 2 mv h k (zU yC (zM (l.take k) x2.zg).2)∧∀b,h=some b→w5.heap.size≤b
theorem bW.next {w w5 wr W W2:Oc}{g:Nat}{q:zW}{x x2:Acc}{l:Ob Int}{B:Nat}{c0 c1 c2 c3 c4 c6 c7:Oe}{k:Nat}{mv mv':Oe}(h:bW w w5 wr g q x2 l B c0 c1 c2 c3 c4 c6 c7 k mv)(hw:zH w g q x)(hB5:w5.heap.size≤B)(h5:w.heap.size≤w5.heap.size)(hk:k < l.length)(ht:zL wr W g q {x2 with zg:=JR l[k] (zM (l.take k) x2.zg).1} q){hh h':OC Nat}(hs:Sl W 153 2 mv hh k (zU yC (zM (l.take k) x2.zg).2))(hf:∀b,hh=some b→w5.heap.size≤b)(hs2:Sl W2 153 2 mv' h' (k+1) (zU yC (zM (l.take k) x2.zg).2++[I l[k],I (yb (zM (l.take k) x2.zg).1 l[k])]))(hc:NH hh.toList W W2)(ho:h'=hh∨∃g,h'=some g∧W.heap.size≤g) :
  bW w w5 (W2.setCell (Y B 5) mv') g q x2 l B c0 c1 c2 c3 c4 c6 c7 (k+1) mv':=by
 have Bu:=ZO (l.take k) l[k] x2.zg
 rw[←Oh hk] at Bu
 have c:=ht.N4.size
 have d:=h.ch.size
 have a:B < wr.heap.size:=h.blk.lt
 have Bw:NG W B 83 #[c0,c1,c2,c3,c4,mv,c6,c7]:=h.blk.fresh O hw ht.N4
 exact L8
end
end Go.Proofs.YtnofkliaofgiaaaGreatDoor
