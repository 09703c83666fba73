/-
  The walk of the reference's Make. The walk of the reference's once: numbers put in one by one.
-/
import Derived.Test.YtnofkliaofgiaaaGreatDoorGRQ
import Derived.Test.YtnofkliaofgiaaaGreatDoorGU
import Derived.Test.YtnofkliaofgiaaaGreatDoorGX
set_option maxRecDepth 100000
set_option maxHeartbeats 8000000
open Go.Proofs.Tryz
open Bool renaming false_eq_true→Px
open Exists renaming intro→OA
open Go renaming Value→Oe,World→Oc
open Go.Ending renaming returned→RR
open Go.IntKind renaming i64→Ov
open Go.IntWalk renaming i64_in→Og
open Go.RowKit renaming Below→Od
open Go.RowKit.Below renaming refl→Ok
open Go.Value renaming pointer→RQ,slice→RO
open Go.World renaming cell?_alloc_lt→Ox,cell?_alloc_past→Pw,frozen?_alloc_past→Pn
open List renaming append_assoc→O4,drop_eq_getElem_cons→O7,getElem?_eq_getElem→Ot,getElem?_map→O5,getElem_cons_zero→Rm,length_take→OU,map_append→OQ,mem_cons→OB,take_of_length_le→Ou,take_succ_eq_append_getElem→Oh
open Nat renaming le_refl→Oq,lt_of_lt_of_le→OJ,zero_le→OE
open _root_ renaming ByteArray→Oy,List→Ob,Option→OC,decide_eq_false→OD,decide_eq_true→OS,if_neg→Om,if_pos→OG
namespace Go.Proofs.YtnofkliaofgiaaaGreatDoor
attribute [local go_sem ↓] Go.wp_at_zero Go.wp_at_succ
section
open Go.Shelf Go.RowKit
def Zo (w:Oc)(g:Nat)(q:zW)(r:Acc×Int×Int)(e:Ending)(w':Oc):Prop:=e=RR (.tuple #[I r.2.1,I r.2.2])∧∃q',zK w w' g q r.1 q'
theorem XZ {W:Oc}{g:Nat}{q:zW}{x:Acc}(h:zJ W g q x)(hm1:1≤x.log.most)(hm2:x.log.most≤1099511627776)(hn1:x.log.es.length≤1099511627776){e:Ob E4}{A:OC Addr}{c n:Nat}{hh:OC Nat}(hs:Sl W 159 4 (RO A n c) hh n (yR e))(hn:e.length=n)(hn2:n≤1099511627776)(hho:∀b,hh=some b→b∉q.own g) :
  C 117 #[Y q.gl 0,RO A n c] W fun e' w'=>e'=RR (.tuple #[])∧∃q'',q''.gl=q.gl∧zK W w' g q {x with log:=x.log.add e} q'':=by
 subst hn
 refine(tV W q.gl q.hl x.log A c e h.log hm1 hm2 hn1 hn2 (fun hne=>?_)).mono ?_
 ·exact Mv
 ·rintro e' w' ⟨rfl,a,hl,d,f⟩
  exact⟨rfl,{q with hl:=a},rfl,h.DG hl d f⟩
theorem nN {W0 W:Oc}{g:Nat}{q:zW}{x:Acc}(h:zJ W0 g q x)(hf:x.log.most=x.N3.uF∧(x.log.es.length:Int)≤x.N3.uF)(hl:1≤x.N3.uF∧x.N3.uF≤2147483647)(e:E4)(hb:Od (W0.alloc (.cells #[I e.m,I e.k,I e.i,I e.h] 159)).heap.size (W0.alloc (.cells #[I e.m,I e.k,I e.i,I e.h] 159)) W) :
  C 117 #[Y q.gl 0,RO (some (Y W0.heap.size 0)) 1 1] W fun e' w'=>e'=RR (.tuple #[])∧∃q'',q''.gl=q.gl∧zK W0 w' g q {x with log:=x.log.add [e]} q'':=by
 have c:zK W0 W g q x q:=zK.of_below h (zj (zt _ _) hb)
 have d:Sl W 159 4 (RO (some (Y W0.heap.size 0)) 1 1) (some W0.heap.size) 1 (yR [e]):=(eK W0 e).keep (fun b hb2=>hb.block b ((eK W0 e).lt b hb2))
 refine(XZ c.at_ (by rw[hf.1];omega) (by rw[hf.1];omega) O d rfl O (fun b hb hm=>?_)).mono ?_
 ·injection hb with hb
  have:=h.lt b hm
  omega
 ·rintro e' w' ⟨rfl,j,a,f⟩
  exact⟨rfl,j,a,c.trans f⟩
theorem cV (x:Acc)(nl:yx)(zB but:Int)(h:¬(zB≠0∧zZ x.zg zB=false)) :
  xT x nl zB but=if Y3 x nl zB but=true then 5 else if x.N3.xl≤((x.zg.filter fun b=>decide (b.id≠but)).length:Int) then 8 else 0:=by
 unfold xT
 rw[Om h]
 have a:((zB=0∧Zn nl=Zn Z3)∨x.zg.any (fun b=>decide (b.id≠but) && (decide (b.zB=zB) && decide (b.name=nl)))=true)↔Y3 x nl zB but=true:=by
  unfold Y3
  rw[show Zn Z3=[105,110,98,111,120] from by decide,Bool.or_eq_true_iff,Bool.and_eq_true_iff,decide_eq_true_iff,decide_eq_true_iff]
  exact Or.comm
 simp only[a]
theorem QI {x:Acc}(hf:Fit x):(x.zg.filter fun b=>decide (b.id≠0)).length=x.zg.length:=by
 rw[List.filter_eq_self.2 fun b hb=>?_]
 have:=(hf.box b hb).id
 simp
 omega
theorem Dd (w:Oc)(g:Nat)(q:zW)(x:Acc)(nl:yx)(zB:Int)(h:zJ w g q x)(hf:Fit x)(hn:nl.length≤1099511627776) :
  C 57 #[Y g 0,Oa nl,I zB] w (Zo w g q (ue zY x nl zB)):=by
 have J:=dJ ⟨nl.toArray⟩ uP w
 rw[show zY (⟨nl.toArray⟩:Oy).data.toList=zY nl from rfl] at J
 obtain⟨i0,hi,be,bh,bi⟩:=info_parts Try.infoBox
 have ba:=hf.zA
 have bc:=hf.N3.mod
 have bb:=hf.zS
 have aw:=hf.nb
 have F:∀W,Od w w W→C 55 #[q.vb,I zB] W fun e w'=>e=RR (I (xC zB x.zg))∧W=w':=fun W hb=>Yy q.vb [] x.zg zB W ((h.later hb).zg.reads [] zv) O
 have a9:=fun W (hb:Od w w W)=>dM W g q x nl zB 0 (h.later hb) O O
 have b1:=fun W (hb:Od w w W)=>ZQ W g q x (h.later hb) hf
 obtain⟨Ab,cb,M,_,_⟩:=h.zg.form
 have G:∀W,Od w w W→W.cell? (Y g 10)=some (RO Ab x.zg.length cb):=fun W hb=>by rw[←M];exact(h.later hb).yZ
 have a4:∀W,Od w w W→W.cell? (Y g 3)=some (I x.N3.xl):=fun W hb=>(h.later hb).cells 3
 rw[M] at F
 have oo:=ua zB x.zg
 have a:¬(zB≠0∧zZ x.zg zB=false)→zY nl=true→ue zY x nl zB=(if Y3 x nl zB 0=true then (x,0,5) else if x.N3.xl≤(x.zg.length:Int) then (x,0,8) else if x.ends then (x,0,11) else ({x with zA:=x.zA+1,zS:=x.zS+1,zg:=x.zg++[⟨x.zS+1,nl,zB,x.zA+1,1,x.zA+1⟩],log:=x.log.add [⟨x.zA+1,1,x.zS+1,1⟩]},x.zS+1,0)):=fun hA hr=>by
  unfold ue
  rw[hr,cV x nl zB 0 hA,QI hf]
  by_cases n:Y3 x nl zB 0=true
  ·simp[n]
  ·by_cases K:x.N3.xl≤(x.zg.length:Int)
   ·simp[n,K]
   ·simp[n,K]
 have d:zY nl=false→ue zY x nl zB=(x,0,1):=fun hr=>by
  unfold ue
  rw[OG hr]
 have f:zY nl=true→(zB≠0∧zZ x.zg zB=false)→ue zY x nl zB=(x,0,6):=fun hr hA=>by
  unfold ue
  rw[Om (by rw[hr];decide),xT,OG hA]
  simp
 obtain⟨rr,b0⟩:∃rr,ue zY x nl zB=rr:=⟨_,rfl⟩
 rw[b0] at a d f ⊢
 obtain⟨r,a'⟩:∃r,xC zB x.zg=r:=⟨_,rfl⟩
 rw[a'] at F oo
 obtain⟨tw,S⟩:∃tw,Y3 x nl zB 0=tw:=⟨_,rfl⟩
 simp only[S] at a9 a
 obtain⟨nb,a6⟩:∃nb,x.zg.length=nb:=⟨_,rfl⟩
 simp only[a6] at F G a
 obtain⟨mb,av⟩:∃mb,x.N3.xl=mb:=⟨_,rfl⟩
 simp only[av] at a4 a
 have bk:nb≤4294967296:=O
 have br:Ov.wrap (x.zS+1)=x.zS+1:=Og _ O
 have an:=V M
 have X:=V a6
 have HS:=V h
 have HF:=V hf
 have U:=V F
 have am:=V a9
 have b6:=V b1
 have D:=V G
 have b5:=V a4
 have m:=V a
 obtain⟨ru,a7⟩:∃ru,zY nl=ru:=⟨_,rfl⟩
 simp only[a7] at J m d f
 have bl:=V a7
 clear b0 a' S a6 av M h hf F a9 b1 G a4 a a7 ba bc bb aw
 cases ru with
 |false=>
  have P:=V (d rfl)
  clear d f oo
  go_enter func57,ntmps57
  go_wp2_with (first
   |(go_at_call 114;refine J.mono ?_;rintro e w2 ⟨rfl,c⟩;have ay:=V c;clear c)
   |fail)
  go_ret2
  rw[P.o]
  exact⟨rfl,q,zK.of_below HS.o ay.o⟩
 |true=>
 by_cases hA:zB≠0∧zZ x.zg zB=false
 ·have P:=V (f rfl hA)
  rw[hA.2] at oo
  have hp:(zB !=0)=true:=by simpa using hA.1
  have bp:r < 0:=JC
  clear d f oo hA
  go_enter func57,ntmps57
  go_wp2_with (first
   |(go_at_call 114;refine J.mono ?_;rintro e w2 ⟨rfl,c⟩;have ay:=V c;have k:=D.o _ c;have ax:=U.o _ c;clear c)
   |(go_at_call 55;refine ax.mono ?_;rintro e w3 ⟨rfl,rfl⟩;clear ax)
   |fail)
  go_ret2
  rw[P.o]
  exact⟨rfl,q,zK.of_below HS.o ay.o⟩
 have yj:zB=0∨(¬zB=0∧0≤r):=by
  by_cases hp:zB=0
  ·exact .inl hp
  ·have K:zZ x.zg zB=true:=by
    exact pc
   rw[K] at oo
   have h3:¬r < 0:=JC
   exact .inr ⟨hp,O⟩
 have P:=V (m.o hA rfl)
 clear d f oo hA m
 go_enter func57,ntmps57
 go_upto_region 3 with(first
  |(go_at_call 114;refine J.mono ?_;rintro e w2 ⟨rfl,c⟩;have ay:=V c;have k:=D.o _ c;have ax:=U.o _ c;clear c)
  |fail)
 go_cut [12] (fun v wx=>v=.bool false∧Z (Od w w wx))
 case first=>
  exact MB
 case rest=>
  obtain⟨rfl,T⟩:=hcut
  obtain⟨w3,rfl⟩:∃w3:Oc,w3=wc:=⟨_,rfl⟩
  have L:=am.o _ T.o
  clear yj U am k ax ay
  cases tw with
  |true=>
   go_wp2_with (first
    |(go_at_call 115;refine L.mono ?_;rintro e w4 ⟨rfl,E⟩;have A:=V (zj T.o E);clear E L)
    |fail)
   go_ret2
   rw[P.o]
   exact⟨rfl,q,zK.of_below HS.o A.o⟩
  |false=>
  go_upto_region 7 with(first
   |(go_at_call 115;refine L.mono ?_;rintro e w4 ⟨rfl,E⟩;have A:=V (zj T.o E);clear E L)
   |fail)
  have k:=D.o _ A.o
  have c3:=b5.o _ A.o
  by_cases hm:mb≤(nb:Int)
  ·have g1:decide (mb≤(nb:Int))=true:=OS hm
   have s:=P.o
   rw[Om zD,OG hm] at s
   have j:=V s
   clear hm s
   go_quiet (fail)
   go_wp2_with fail
   go_ret2
   rw[j.o]
   exact⟨rfl,q,zK.of_below HS.o (zj A.o (zO (Ok _ _) _))⟩
  have g1:decide (mb≤(nb:Int))=false:=OD hm
  have s:=P.o
  rw[Om zD,Om hm] at s
  have j:=V s
  clear hm s P
  go_quiet (fail)
  have a3:Od w w (w4.drewN nq):=zj A.o (zO (Ok _ _) _)
  have b:=b6.o _ a3
  have ad:=V a3
  clear k c3 a3 g1
  cases he:x.ends with
  |true=>
   rw[he] at b j
   simp only[if_true,Bool.not_true] at b j
   go_wp2_with (first
    |(go_at_call 116;refine b.mono ?_;rintro e w6 ⟨rfl,u⟩;have b7:=V u;clear b u)
    |fail)
   go_ret2
   rw[j.o]
   exact⟨rfl,q,(zK.of_below HS.o ad.o).trans b7.o⟩
  |false=>
   rw[he] at b j
   simp only[Px,if_false,Bool.not_false] at b j
   clear he
   go_upto_region 12 with(first
    |(go_at_call 116;refine b.mono ?_;rintro e w6 ⟨rfl,u⟩;have B:=u.at_.Vs;have b9:=u.at_.frozen 13;have T6:=V u;clear b u)
    |fail)
   obtain⟨z,aa⟩:∃z:Oc,z=w6.setCell (Y g 13) (I (x.zS+1)):=⟨_,rfl⟩
   rw[←aa]
   have i:zK w z g q {x with zA:=x.zA+1,zS:=x.zS+1} q:=by
    rw[aa]
    exact((zK.of_below HS.o ad.o).trans T6.o).trans (T6.o.at_.vn 13 (I (x.zS+1)) {x with zA:=x.zA+1,zS:=x.zS+1} rfl rfl rfl rfl)
   clear aa B b9
   have k:z.cell? (Y g 10)=some (RO Ab nb cb):=by rw[←X.o,←an.o];exact i.at_.yZ
   have ar:z.frozen? (Y g 10)=false:=i.at_.frozen 10
   have B:z.cell? (Y g 13)=some (I (x.zS+1)):=i.at_.Vs
   have c9:z.cell? (Y g 9)=some (I (x.zA+1)):=i.at_.vF
   have t:g < z.heap.size:=i.at_.blk.lt
   have a5:g∉q.hb.toList:=fun hm=>i.at_.apart.hb yT
   have au:Sl z 73 6 (RO Ab nb cb) q.hb nb (zU uZ x.zg):=by
    rw[←X.o,←an.o]
    exact i.at_.zg
   have a1:=V i
   have ae:=V au
   have ap:=(Ox z (.cells #[I (x.zS+1),Oa nl,I zB,I (x.zA+1),I 1,I (x.zA+1)] 73) (Y g 10) t).trans k
   have aq:=(Ox z (.cells #[I (x.zS+1),Oa nl,I zB,I (x.zA+1),I 1,I (x.zA+1)] 73) (Y g 13) t).trans B
   clear i au
   go_cut [] (fun wx=>∃q',Z (zK w wx g q {x with zA:=x.zA+1,zS:=x.zS+1,zg:=x.zg++[⟨x.zS+1,nl,zB,x.zA+1,1,x.zA+1⟩]} q'))
   case first=>
    go_region_law (first
     |(refine ye _ zF (.tmp 56) (.tmp 72) _ zF underlying71 hi be bh bi rfl O ((ae.o.alloc _).heap zF) yl z.heap.size #[I (x.zS+1),Oa nl,I zB,I (x.zA+1),I 1,I (x.zA+1)] (e':=73) (fr:=(0,0)) (heap_alloc_new z _) 1 1 yl zF xt yV O ?_;intro v2 K w9 a8 l az;obtain⟨b3,ao,rfl,_,_⟩:=a8.form;have bm:w9.cell? (Y g 10)=some (RO Ab nb cb):=(l.cell (p:=⟨g,10,none⟩) zT a5).trans ((Pw _ _ _ t).trans k);have bo:w9.frozen? (Y g 10)=false:=(l.frozen (p:=⟨g,10,none⟩) zT a5).trans ((Pn _ _ _ t).trans ar))
     |fail)
    all_goals
     have H:=(a1.o.at_.alloc (.cells #[I (x.zS+1),Oa nl,I zB,I (x.zA+1),I 1,I (x.zA+1)] 73)).nL ⟨x.zS+1,nl,zB,x.zA+1,1,x.zA+1⟩ (v':=RO b3 (nb+1) ao) (h':=K) (w':=w9) (by
      show Sl w9 _ 6 _ K (x.zg.length+1) _
      rw[X.o]
      exact a8) ⟨l.os,l.tape,l.output,l.size,l.block⟩ az
     have a0:=V H
     clear H a8 l az
     go_wp2_with fail
     go_meet
     exact⟨_,V ((a1.o.trans (zK.of_below a1.o.at_ (zt z _))).trans a0.o)⟩
   case rest=>
    obtain⟨q',yt⟩:=hcut
    obtain⟨wf,rfl⟩:∃wf:Oc,wf=wc:=⟨_,rfl⟩
    clear k ar B c9 t a5 ae ap aq
    go_upto_region 13 with(fail)
    obtain⟨x3,qx⟩:∃x3:Acc,x3={x with zA:=x.zA+1,zS:=x.zS+1,zg:=x.zg++[⟨x.zS+1,nl,zB,x.zA+1,1,x.zA+1⟩]}:=⟨_,rfl⟩
    rw[←qx] at yt
    have hK:∀W,Od wf wf W→W.cell? (Y g 12)=some (RQ (some (Y q'.gl 0)))∧W.cell? (Y g 13)=some (I (x.zS+1)):=fun W hb=>by
     have h0:=yt.o.at_.later hb
     have n:=h0.Vs
     rw[qx] at n
     exact⟨h0.xp,n⟩
    have hE:∀W,Od wf wf W→C 118 #[Y g 0,I 1,I (x.zS+1),I 1] W fun e w'=>e=RR (.agg #[I (x.zA+1),I 1,I (x.zS+1),I 1])∧Od W W w':=fun W hb=>by
     have h0:=Zm W g q' x3 1 (x.zS+1) 1 (yt.o.at_.later hb)
     rw[show x3.zA=x.zA+1 by rw[qx]] at h0
     exact h0
    have Q:=fun W0 (hb0:Od wf wf W0) W hb=>nN (W0:=W0) (W:=W) (yt.o.at_.later hb0) fY fZ ⟨x.zA+1,1,x.zS+1,1⟩ hb
    have HK:=V hK
    have HE:=V hE
    have N:=V Q
    have a2:=V qx
    obtain⟨b8,B⟩:=hK wf (Ok _ _)
    have t:g < wf.heap.size:=yt.o.at_.blk.lt
    clear Q qx hK hE
    go_cut [] (fun wx=>∃ab,Z (zK w wx g q {x3 with log:=x3.log.add [⟨x.zA+1,1,x.zS+1,1⟩]} ab))
    case first=>
     go_region_held3 (fun W=>W.cell? (Y g 12)=some (RQ (some (Y q'.gl 0)))∧W.cell? (Y g 13)=some (I (x.zS+1)))
      (first
       |exact b4.o
       |exact HK.o _ (zj Ed.o (zt _ _))
       |exact HK.o _ Ed.o
       |exact HK.o _ (Ok _ _)
       |exact HK.o _ (zG _)
       |go_keep)
      (first
       |(go_at_call 118;refine(HE.o _ uO).mono ?_;rintro e ac ⟨rfl,yo⟩;have Ed:Z (Od wf wf ac):=V pK;obtain⟨bj,bs⟩:=HK.o _ Ed.o;have bd:=World.new_ne ac _ bj;clear yo)
       |(go_at_call 117;refine(N.o ac Ed.o _ ⟨rfl,rfl,rfl,Oq _,fun _ _=>rfl⟩).mono ?_;rintro e b2 ⟨rfl,Ee,R,y⟩;have ve:=V y;have b4:Z (b2.cell? (Y g 12)=some (RQ (some (Y q'.gl 0)))∧b2.cell? (Y g 13)=some (I (x.zS+1))):=V (by have n:=y.at_.xp;rw[R] at n;have K:=y.at_.Vs;simp only[a2.o] at K;exact⟨n,K⟩);clear y R)
       |fail)
     all_goals
      exact oW
    case rest=>
     obtain⟨ab,al⟩:=hcut
     obtain⟨wz,rfl⟩:∃wz:Oc,wz=wc:=⟨_,rfl⟩
     clear b8 B t N HE HK
     have bt:wz.cell? (Y g 13)=some (I (x.zS+1)):=by
      have n:=al.o.at_.Vs
      rw[a2.o] at n
      exact n
     have ag:Z (Zo w g q rr (RR (.tuple #[I (x.zS+1),I 0])) wz):=V (by
      rw[j.o]
      refine⟨rfl,ab,?_⟩
      have n:=al.o
      rw[a2.o] at n
      exact n)
     go_wp2_with fail
     go_ret2
     exact ag.o
end
section
open Go.RowKit
theorem Try.infoIntO:(prog.info? 3).map (fun i=>(i.zero,i.size,i.bytes))=some (some (I 0),1,8):=zQ
section
variable {α:Type}
theorem wE (acc:Ob α)(k:Nat)(hk:0 < k)(hkl:k≤acc.length)(z:α):(acc.take k++z :: acc.drop k)[k - 1]?=some (acc[k - 1]' O):=by
 exact FH
theorem oC (acc:Ob α)(k:Nat)(hk:0 < k)(hkl:k≤acc.length)(z:α) :
  (acc.take k++z :: acc.drop k).set k (acc[k - 1]' O)=acc.take (k - 1)++(acc[k - 1]' O) :: acc.drop (k - 1):=by
 exact Mt
theorem oB (acc:Ob α)(k:Nat)(hkl:k≤acc.length)(z x:α):(acc.take k++z :: acc.drop k).set k x=acc.take k++x :: acc.drop k:=by
 exact FB
end
theorem BR (x:Int):∀(acc:Ob Int) (p:Nat),p≤acc.length→(∀j (hj:j < acc.length),j < p→acc[j] < x)→(∀hp:p < acc.length,¬acc[p] < x)→
  bL x acc=if acc[p]?=some x then acc else acc.take p++x :: acc.drop p
 |[],p,h,_,_=>by
  have:p=0:=vZ
  subst this
  simp[bL]
 |y :: r,0,_,_,h=>by
  have h0:=h zv
  simp only[Rm] at h0
  by_cases he:y=x
  ·subst he
   simp[bL]
  ·have h1:x < y:=O
   have h2:¬x=y:=O
   simp[bL,h1,he]
 |y :: r,p+1,hp,hlt,h=>by
  have hy:=hlt 0 zv O
  simp only[Rm] at hy
  have h1:¬x < y:=O
  have h2:¬x=y:=O
  have ih:=BR x r p YN (fun j hj hjp=>by have:=hlt (j+1) zT O;simpa using this) (fun hpl=>by have:=h zT;simpa using this)
  rw[bL]
  simp only[h1,h2,if_false,ih,List.getElem?_cons_succ]
  split
  ·rfl
  ·simp
structure JM (w wr:Oc)(v:Oe)(h:OC Nat)(acc:Ob Int):Prop where
 sl:Sl wr 3 1 v h acc.length (acc.map yJ)
 own:∀b,h=some b→w.heap.size≤b
 below:Od w w wr
theorem JM.later {w wr w':Oc}{v:Oe}{h:OC Nat}{acc:Ob Int}(q:JM w wr v h acc)(hb:Od wr wr w'):JM w w' v h acc:=
 ⟨q.sl.N4 (NH.of_below hb []) zv,q.own,zj q.below hb⟩
theorem C3 (l:Ob Int)(k:Nat)(hk:k < l.length):rise (l.take (k+1))=bL l[k] (rise (l.take k)):=by
 unfold rise
 rw[Oh hk,List.foldl_append]
 rfl
theorem Lp (l:Ob Int):(rise l).length≤l.length:=by
 have:=ui (rise l) l (xZ l) (fun y h=>(uU l y).1 h)
 exact this
theorem Q2 (w:Oc)(v:Oe)(S:Ob Nat)(l:Ob Int)(hr:NN w S 1 v l.length (l.map yJ))(hin:l.length≤1099511627776) :
  C 127 #[v] w fun e w'=>∃A cap hh,e=RR (RO A (rise l).length cap)∧Sl w' 3 1 (RO A (rise l).length cap) hh (rise l).length ((rise l).map yJ)∧Od w w w'∧∀b,hh=some b→w.heap.size≤b:=by
 obtain⟨i0,hi,aq,ar,au⟩:=info_parts Try.infoIntO
 obtain⟨A,cap,rfl,_,_⟩:=hr.form
 obtain⟨n,hn⟩:∃n,l.length=n:=⟨_,rfl⟩
 have HR:=V (hr.sub (T:=[]) (fun _ _ _ G=>by cases G))
 rw[hn] at hin HR
 have b7:=hin
 rw[hn]
 have HN:=V hn
 clear hr hn hin
 go_enter func127,ntmps127
 go_wp2_with fail
 go_loopw [3,4] (fun o i wr=>∃(k:Nat) (h:OC Nat),k≤n∧i=I k∧Z (JM w wr o h (rise (l.take k)))) (fun _ i _=>n - (intOf i).toNat)
 case atStart=>exact⟨0,none,OE _,rfl,V ⟨Sl.nil _ _ _,(fun b hb=>by cases hb),Ok _ _⟩⟩
 case round=>
  obtain⟨k,h,hk,rfl,Q⟩:=hrel
  by_cases af:k < n
  ·have ab:k < l.length:=Zg
   have M:=C3 l k ab
   have L:(rise (l.take k)).length≤k:=by
    have:=Lp (l.take k)
    rw[OU] at this
    omega
   obtain⟨b,f,av,B,_,_,K,_,a4⟩:=HR.o.at_ O
   injection B with hva1 _ hva3
   subst hva1
   subst hva3
   have E:=a4 k O
   rw[O5,Ot ab] at E
   have d0:wr.cell? (Y b (f+k))=some (I l[k]):=(Q.o.below.cell (p:=⟨b,f+k,none⟩) K).trans E
   have N:Z (w.cell? (Y b (f+k))=some (I l[k])):=V E
   have d:=V M
   have ad:(k:Int) < (n:Int):=O
   have b5:(0:Int)≤(k:Int):=O
   have b6:Ov.wrap ((k:Int)+1)=(k:Int)+1:=Og _ O
   clear M a4 E
   generalize l[k]=x at d0 N d
   generalize rise (l.take k)=acc at Q d L
   obtain⟨m,G⟩:∃m,acc.length=m:=⟨_,rfl⟩
   have HM:=V G
   rw[G] at L
   obtain⟨A1,g,rfl,_,_⟩:=Q.o.sl.form
   rw[G]
   clear G
   go_upto_block 2 with(fail)
   have fu:=Q
   obtain⟨w2,ap⟩:∃w2:Oc,w2=wr:=⟨_,rfl⟩
   subst ap
   have d2:w2.cell? (Y b (f+k))=some (I x):=d0
   clear d0 Q
   go_cut [5] (fun a wx=>∃p q:Nat,p≤m∧a=I p∧Z (∀j (hj:j < acc.length),j < p→acc[j] < x)∧Z (∀hp:p < acc.length,¬acc[p] < x)∧Z (wx=w2.drewN q))
   case first=>
    go_wp2_with fail
    go_loopw [5] (fun a wr=>∃p q:Nat,p≤m∧a=I p∧Z (∀j (hj:j < acc.length),j < p→acc[j] < x)∧Z (wr=w2.drewN q)) (fun a _=>m - (intOf a).toNat)
    case atStart=>exact⟨0,0,OE _,rfl,V (fun j hj h=>by omega),V rfl⟩
    case round=>
     obtain⟨p,q,hp,rfl,HP,HW⟩:=hrel
     have dx:wr.cell? (Y b (f+k))=some (I x):=by rw[HW.o];exact d2
     by_cases yw:p < m
     ·have Cj:p < acc.length:=bE
      obtain⟨b1,F,a3,B,_,_,a6,_,s⟩:=(fu.o.sl.reads [] zv).at_ O
      injection B with hva1 hvx hvy
      subst hva1
      clear hvx hvy
      have u:=s p O
      rw[O5,Ot Cj] at u
      have e1:wr.cell? (Y b1 (F+p))=some (I acc[p]):=by rw[HW.o];exact u
      clear u
      have g1:decide (p < m)=true:=OS yw
      clear s
      by_cases hc:acc[p] < x
      ·have f1:decide (acc[p] < x)=true:=OS hc
       exact Me
      ·have f1:decide (acc[p] < x)=false:=OD hc
       exact MI
     ·exact Mz
   case rest=>
    obtain⟨p,q,hp,rfl,HP,qy,HW⟩:=hcut
    obtain⟨wd,rfl⟩:∃wd:Oc,wd=wc:=⟨_,rfl⟩
    have G7:Z (JM w wd (RO A1 acc.length g) h acc):=V I2
    have aa:=BR x acc p JE HP.o qy.o
    rw[aa] at d
    clear aa HP qy fu d2 HW
    have dx:wd.cell? (Y b (f+k))=some (I x):=(G7.o.below.cell (p:=⟨b,f+k,none⟩) K).trans N.o
    go_upto_region 8 with(fail)
    go_cut [44] (fun t wx=>∃q:Nat,t=.bool (decide (acc[p]?=some x))∧Z (wx=wd.drewN q))
    case first=>
     by_cases yw:p < m
     ·have Cj:p < acc.length:=bE
      obtain⟨b1,F,a3,B,_,_,a6,_,s⟩:=(G7.o.sl.reads [] zv).at_ O
      injection B with hva1 hvx hvy
      subst hva1
      clear hvx hvy
      have u:wd.cell? (Y b1 (F+p))=some (I acc[p]):=by
       have:=s p O
       rw[O5,Ot Cj] at this
       exact this
      clear s
      have g1:decide (p < m)=true:=OS yw
      have hd:decide (acc[p]?=some x)=(acc[p]==x):=by
       rw[Ot Cj]
       by_cases he:acc[p]=x
       ·simp[he]
       ·simp[he]
      have HD:=V hd
      clear hd
      generalize acc[p]=y at u HD
      go_quiet (fail)
      go_wp2_with fail
      go_meet
      exact⟨_,by rw[HD.o],V rfl⟩
     ·exact MP
    case rest=>
     obtain⟨q2,rfl,HW⟩:=hcut
     obtain⟨we,rfl⟩:∃we:Oc,we=wc:=⟨_,rfl⟩
     have G9:Z (JM w we (RO A1 acc.length g) h acc):=V I3
     clear G7 dx HW
     by_cases he:acc[p]?=some x
     ·rw[OS he]
      rw[OG he] at d
      have HZ:Z (JM w we (RO A1 m g) h (rise (l.take (k+1)))):=V (by rw[d.o,←HM.o];exact G9.o)
      exact EU
     ·rw[OD he]
      rw[Om he] at d
      clear he
      have U:=G9.o.sl
      rw[HM.o] at U
      have a0:=V U
      clear U
      go_wp2_with (at_builtin;refine yc rfl _ _ 35 rfl underlying35 hi aq ar au rfl zD a0.o rfl 1 1 rfl rfl ?_ ?_ ?_ ?_)
      ·rfl
      ·unfold maxLen
       omega
      ·omega
      ·intro v2 h2 w3 R a8 qb
       obtain⟨b2,c,D,al,rfl,_,_,az,_⟩:=R.at_ O
       subst al
       have ao:=G9.o.below.size
       have a5:w.heap.size≤b2:=by
        exact Hk
       have H:Z (Od w w w3):=V (G9.o.below.trans (a8.below ao fun k hk=>G9.o.own k yi))
       have ag:Z (∃z,Sl w3 3 1 (RO (some (Y b2 c)) (m+1) D) (some b2) (m+1) ((acc.take m++z :: acc.drop m).map yJ)∧NH [b2] w3 w3):=V ⟨0,by
        rw[Ou YP,List.drop_of_length_le YP,OQ]
        exact R,NH.refl _ _⟩
       have a7:b≠b2:=O
       clear R a8 qb a0
       go_wp2_with fail
       go_loopw [6] (fun a wr=>∃r:Nat,p≤r∧r≤m∧a=I r∧Z (∃z,Sl wr 3 1 (RO (some (Y b2 c)) (m+1) D) (some b2) (m+1) ((acc.take r++z :: acc.drop r).map yJ)∧NH [b2] w3 wr)) (fun a _=>(intOf a).toNat)
       case atStart=>exact⟨m,hp,Oq _,zE,ag⟩
       case round=>
        obtain⟨r,b8,an,rfl,HT⟩:=hrel
        obtain⟨z,W,a9⟩:=HT.o
        have Ga:r≤acc.length:=by rw[HM.o];exact an
        obtain⟨b3,b4,aw,_,B,_,_,a',hcell⟩:=W.at_ O
        injection B with hva1 hvx hvy
        injection hva1 with hva1
        injection hva1 with hv1 hv2 _
        subst hv1
        subst hv2
        clear hvx hvy
        have a1:=V W
        have P:=V a9
        clear W a9
        by_cases b0:p < r
        ·have ae:0 < r:=O
         have q1:=hcell (r - 1) O
         have q2:=hcell r O
         have e1:wr.cell? (Y b2 (c+(r - 1)))=some (I (acc[r - 1]' O)):=by
          rw[q1.1,O5,wE acc r ae Ga z]
          rfl
         have e2:wr.cell? (Y b2 (c+r))=some (I z):=by
          exact fO
         have e3:=q2.2
         have G8:=oC acc r ae Ga z
         have HZ:Z (∃z',Sl (wr.setCell (Y b2 (c+r)) (I (acc[r - 1]' O))) 3 1 (RO (some (Y b2 c)) (m+1) D) (some b2) (m+1) ((acc.take (r - 1)++z' :: acc.drop (r - 1)).map yJ)∧NH [b2] w3 (wr.setCell (Y b2 (c+r)) (I (acc[r - 1]' O)))):=V ⟨acc[r - 1]' O,by
          have X:=a1.o.store r (yJ (acc[r - 1]' O))
          rw[←List.map_set,G8] at X
          exact X,P.o.set (.inl zv) _⟩
         exact Ml
        ·obtain rfl:p=r:=O
         have q2:=hcell p O
         have e2:wr.cell? (Y b2 (c+p))=some (I z):=by
          exact fO
         have e3:=q2.2
         have dx:wr.cell? (Y b (f+k))=some (I x):=(P.o.cell (p:=⟨b,f+k,none⟩) (OJ K H.o.size) (by simpa using a7)).trans ((H.o.cell (p:=⟨b,f+k,none⟩) K).trans N.o)
         have HZ:Z (JM w (wr.setCell (Y b2 (c+p)) (I x)) (RO (some (Y b2 c)) (m+1) D) (some b2) (rise (l.take (k+1)))):=V (by
          rw[d.o]
          have X:=a1.o.store p (yJ x)
          rw[←List.map_set,oB acc p Ga z x] at X
          have ac:(acc.take p++x :: acc.drop p).length=m+1:=by
           have:=X.1
           simpa using this
          refine⟨by rw[ac];exact X,fun b hb=>?_,(H.o.trans (P.o.below H.o.size (by simpa using a5))).setCell a5 _⟩
          injection hb with hb
          omega)
         exact EN
  ·have am:k=n:=O
   subst am
   have J:=Q.o
   rw[Ou V0] at J
   obtain⟨A1,g,rfl,_,_⟩:=J.sl.form
   have a2:=V J
   have ad:¬(k:Int) < (k:Int):=O
   clear J Q
   obtain⟨m,G⟩:∃m,(rise l).length=m:=⟨_,rfl⟩
   rw[G] at a2 ⊢
   have HM:=V G
   clear G
   go_wp2_with fail
   go_ret
   have h1:=a2.o
   have h2:=h1.sl
   rw[←HM.o] at h2
   exact⟨A1,g,by rw[HM.o];rfl,h,h2,h1.below,h1.own⟩
end
end Go.Proofs.YtnofkliaofgiaaaGreatDoor
