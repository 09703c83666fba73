/-
  The reference's comparison of two lists of emails: two that are the same. What the walk of pillarboxlaw18.StoreLogs calls: the store's Log, first of two lists, a number in a range. The walk of the laws' Same: an account of the program's and one of the reference's that hold the same.
-/
import Derived.Test.YtfhlhdmhgheonaaGreatDoorGM
import Derived.Test.YtfhlhdmhgheonaaGreatDoorGA
import Derived.Test.YtfhlhdmhgheonaaGreatDoorGD
import Derived.Test.YtfhlhdmhgheonaaGreatDoorGX
import Derived.Test.YtfhlhdmhgheonaaGreatDoorGZ
import Derived.Test.YtfhlhdmhgheonaaGreatDoorGQ
import Derived.Test.YtfhlhdmhgheonaaGreatDoorGC
import Derived.Deep.QuietTactic
import Derived.BigQuiet
import Derived.Deep.DeepCutAuto
import Derived.Deep.CutBlock
import Derived.Deep.RegionHeld3
set_option maxRecDepth 100000
set_option maxHeartbeats 8000000
namespace Go.Proofs.YtfhlhdmhgheonaaGreatDoor
open Go.Shelf Go.RowKit
attribute [local go_sem ↓] Go.wp_at_zero Go.wp_at_succ
theorem Jd (v1 v2:Value)(S1 S2:List Nat)(l:zN)(w:World)(h1:RdS w S1 1 v1 l.length (l.map encStr))(h2:RdS w S2 1 v2 l.length (l.map encStr))(hn:l.length≤1099511627776) :
  Calls Tryz.prog 131 #[v1,v2] w fun e w'=>e=.returned (.bool true)∧Below w.heap.size w w':=by
 obtain⟨H,I,a,_,_⟩:=h1.form
 obtain⟨J,K,b,_,_⟩:=h2.form
 subst a b
 obtain⟨n,f⟩:∃n,l.length=n:=⟨_,rfl⟩
 have j:=zdG h1
 have m:=zdG h2
 have o:=zdG f
 rw[f] at hn ⊢
 clear h1 h2 f
 go_enter Tryz.func131,Tryz.ntmps131
 go_wp2_with fail
 go_loopw [5] (fun iv wr=>∃k:Nat,k≤n∧iv=.int .i64 k∧Hid (Below w.heap.size w wr)) (fun iv _=>n - (intOf iv).toNat)
 case atStart=>exact⟨0,Nat.zero_le _,rfl,zdG (Below.refl _ _)⟩
 case round=>
  obtain⟨k,L,rfl,i⟩:=hrel
  by_cases p:k < n
  ·have g:(k:Int) < (n:Int):=by omega
   have t:(0:Int)≤(k:Int):=by omega
   have h:k < l.length:=by rw[o.out];exact p
   have u:IntKind.i64.wrap ((k:Int)+1)=(k:Int)+1:=IntWalk.i64_in _ (by omega)
   obtain⟨y,q⟩:∃y,l[k]=y:=⟨_,rfl⟩
   obtain⟨z,A,B,a,_,_,r,_,c⟩:=j.out.at_ (by omega)
   obtain⟨C,D,E,b,_,_,s,_,d⟩:=m.out.at_ (by omega)
   have v:=(Value.slice.inj a).1
   have x:=(Value.slice.inj b).1
   subst v x
   have F:wr.cell? ⟨z,A+k,none⟩=some (.string ⟨y.toArray⟩):=by
    refine(i.out.cell r).trans ((c k (by omega)).trans ?_)
    rw[List.getElem?_map,List.getElem?_eq_getElem h,q]
    rfl
   have G:wr.cell? ⟨C,D+k,none⟩=some (.string ⟨y.toArray⟩):=by
    refine(i.out.cell s).trans ((d k (by omega)).trans ?_)
    rw[List.getElem?_map,List.getElem?_eq_getElem h,q]
    rfl
   clear c d a b q
   go_wp2_with fail
   go_quiet (fail)
   go_wp2_with fail
   refine⟨?_,by simp[intOf];omega⟩
   first|exact⟨k+1,by omega,by go_num,zdG (below_drewN' i.out _)⟩|((repeat apply Exists.intro);exact⟨⟨k+1,by omega,by go_num,zdG (below_drewN' i.out _)⟩,rfl⟩)
  ·have g:¬(k:Int) < (n:Int):=by omega
   go_wp2_with fail
   go_ret
   exact⟨rfl,i.out⟩
theorem Z5.at_ {w:World}{S:List Nat}{v:Value}{l:List zX}(h:Z5 w S v l):∃A c,v=.slice A l.length c∧(∀k (hk:k < l.length),∃b off,A=some ⟨b,off,none⟩∧b < w.heap.size∧∃m:zR,m.p=l[k]∧yD w S m∧∀j,j < 8→w.cell? ⟨b,off+k * 8+j,none⟩=(xP m)[j]?):=by
 obtain⟨f,d,n,s⟩:=h
 obtain⟨A,c,o,_,_⟩:=n.form
 have q:f.length=l.length:=by rw[←d];simp
 refine⟨A,c,by rw[←q];exact o,fun k hk=>?_⟩
 obtain⟨b,off,t,e,_,_,g,_,i⟩:=n.at_ (by omega)
 rw[o] at e
 have r:=(Value.slice.inj e).1
 have a:k < f.length:=by omega
 refine⟨b,off,r,g,f[k],?_,s _ (List.getElem_mem a),fun j hj=>?_⟩
 ·subst d
  simp
 ·rw[Nat.add_assoc,i (k * 8+j) (by omega),zy z8 f k j a hj]
theorem UJ (w:World)(t:TypeId)(c1 c2:Array Value):Blk (((w.alloc (.cells c1 t)).alloc (.cells c2 t)).drew) w.heap.size t c1∧Blk (((w.alloc (.cells c1 t)).alloc (.cells c2 t)).drew) (w.heap.size+1) t c2:=by
 refine⟨((Blk.new w t c1).alloc _).heap (by rfl),?_⟩
 have h:=(Blk.new (w.alloc (.cells c1 t)) t c2).heap (w':=((w.alloc (.cells c1 t)).alloc (.cells c2 t)).drew) (by rfl)
 rw[World.size_alloc] at h
 exact h
theorem zc3 (v1 v2:Value)(S1 S2:List Nat)(l:List zX)(w:World)(h1:Z5 w S1 v1 l)(h2:Z5 w S2 v2 l)(hn:l.length≤1099511627776)(hs:∀m∈l,m.keys.length≤1099511627776∧m.members.length≤1099511627776) :
  Calls Tryz.prog 60 #[v1,v2] w fun e w'=>e=.returned (.bool true)∧Below w.heap.size w w':=by
 obtain⟨A1,c1,E,g1⟩:=h1.at_
 obtain⟨A2,c2,F,g2⟩:=h2.at_
 subst E F
 obtain⟨n,a1⟩:∃n,l.length=n:=⟨_,rfl⟩
 have ad:=zdG g1
 have ae:=zdG g2
 have af:=zdG a1
 have HS:=zdG hs
 rw[a1] at hn ⊢
 clear h1 h2 a1 g1 g2 hs
 go_enter Tryz.func60,Tryz.ntmps60
 go_wp2_with fail
 go_loopw [5] (fun iv wr=>∃k:Nat,k≤n∧iv=.int .i64 k∧Hid (Below w.heap.size w wr)) (fun iv _=>n - (intOf iv).toNat)
 case atStart=>exact⟨0,Nat.zero_le _,rfl,zdG (Below.refl _ _)⟩
 case round=>
  obtain⟨k,hk,rfl,HB⟩:=hrel
  by_cases ai:k < n
  ·have a4:(k:Int) < (n:Int):=by omega
   have ar:(0:Int)≤(k:Int):=by omega
   have Y:k < l.length:=by rw[af.out];exact ai
   have au:IntKind.i64.wrap ((k:Int)+1)=(k:Int)+1:=IntWalk.i64_in _ (by omega)
   obtain⟨x,G,rfl,ab,m1,H,I,c⟩:=ad.out k Y
   obtain⟨A,J,rfl,ac,m2,a2,K,d⟩:=ae.out k Y
   obtain⟨y,hy⟩:∃y,l[k]=y:=⟨_,rfl⟩
   have B:=HS.out l[k] (List.getElem_mem Y)
   rw[hy] at H a2 B
   obtain⟨p1,ax,ay⟩:=m1
   obtain⟨p2,az,a'⟩:=m2
   simp only at H a2
   obtain rfl:p2=p1:=a2.trans H.symm
   obtain rfl:y=p2:=H.symm
   obtain⟨L,M,T,_,_⟩:=I.keys.form
   obtain⟨r,s,U,_,_⟩:=I.mem.form
   obtain⟨N,O,V,_,_⟩:=K.keys.form
   obtain⟨u,v,W,_,_⟩:=K.mem.form
   simp only at U W T V
   subst U W T V
   have a:∀j,j < 8→wr.cell? ⟨x,G+k * 8+j,none⟩=(xP ⟨y,.slice L y.keys.length M,.slice r y.members.length s⟩)[j]?:=fun j hj=>(HB.out.cell ab).trans (c j hj)
   have b:∀j,j < 8→wr.cell? ⟨A,J+k * 8+j,none⟩=(xP ⟨y,.slice N y.keys.length O,.slice u y.members.length v⟩)[j]?:=fun j hj=>(HB.out.cell ac).trans (d j hj)
   have a5:=zdG I
   have a6:=zdG K
   have x0:wr.cell? ⟨x,G+k * 8,none⟩=some (.int .i64 y.id):=a 0 (by omega)
   have x1:wr.cell? ⟨x,G+k * 8+1,none⟩=some (.int .i64 y.thread):=a 1 (by omega)
   have x2:wr.cell? ⟨x,G+k * 8+2,none⟩=some (.string ⟨y.text.toArray⟩):=a 2 (by omega)
   have x3:wr.cell? ⟨x,G+k * 8+3,none⟩=some (.int .i64 y.at_):=a 3 (by omega)
   have x4:wr.cell? ⟨x,G+k * 8+4,none⟩=some (.slice L y.keys.length M):=a 4 (by omega)
   have x5:wr.cell? ⟨x,G+k * 8+5,none⟩=some (.slice r y.members.length s):=a 5 (by omega)
   have x6:wr.cell? ⟨x,G+k * 8+6,none⟩=some (.int .i64 y.mod):=a 6 (by omega)
   have x7:wr.cell? ⟨x,G+k * 8+7,none⟩=some (.int .i64 y.born):=a 7 (by omega)
   have y0:wr.cell? ⟨A,J+k * 8,none⟩=some (.int .i64 y.id):=b 0 (by omega)
   have y1:wr.cell? ⟨A,J+k * 8+1,none⟩=some (.int .i64 y.thread):=b 1 (by omega)
   have y2:wr.cell? ⟨A,J+k * 8+2,none⟩=some (.string ⟨y.text.toArray⟩):=b 2 (by omega)
   have y3:wr.cell? ⟨A,J+k * 8+3,none⟩=some (.int .i64 y.at_):=b 3 (by omega)
   have y4:wr.cell? ⟨A,J+k * 8+4,none⟩=some (.slice N y.keys.length O):=b 4 (by omega)
   have y5:wr.cell? ⟨A,J+k * 8+5,none⟩=some (.slice u y.members.length v):=b 5 (by omega)
   have y6:wr.cell? ⟨A,J+k * 8+6,none⟩=some (.int .i64 y.mod):=b 6 (by omega)
   have y7:wr.cell? ⟨A,J+k * 8+7,none⟩=some (.int .i64 y.born):=b 7 (by omega)
   have am:x < wr.heap.size:=Nat.lt_of_lt_of_le ab HB.out.size
   have an:A < wr.heap.size:=Nat.lt_of_lt_of_le ac HB.out.size
   clear a b c d hy I K
   go_upto_region 6 with(fail)
   go_cut [6,7] (fun t6 t7 wx=>∃o p,t6=.pointer (some ⟨o,0,none⟩)∧t7=.pointer (some ⟨p,0,none⟩)∧Hid (Below wr.heap.size wr wx)∧Hid (Blk wx o 54 #[.int .i64 y.id,.int .i64 y.thread,.string ⟨y.text.toArray⟩,.int .i64 y.at_,.slice L y.keys.length M,.slice r y.members.length s,.int .i64 y.mod,.int .i64 y.born])∧Hid (Blk wx p 54 #[.int .i64 y.id,.int .i64 y.thread,.string ⟨y.text.toArray⟩,.int .i64 y.at_,.slice N y.keys.length O,.slice u y.members.length v,.int .i64 y.mod,.int .i64 y.born]))
   case first=>
    go_region_with fail
    all_goals
     go_wp2_with fail
     go_meet
     first
     |exact⟨_,_,rfl,rfl,zdG (za (za (below_alloc1 _ _) (below_alloc1 _ _)) (zb _)),zdG (UJ _ _ _ _).1,zdG (UJ _ _ _ _).2⟩
     |exact⟨_,_,rfl,rfl,zdG (za (za (below_alloc1 _ _) (below_alloc1 _ _)) (zb _)),zdG (UJ _ _ _ _).2,zdG (UJ _ _ _ _).1⟩
   case rest=>
    obtain⟨o,p,rfl,rfl,aj,f,g⟩:=hcut
    obtain⟨h,rfl⟩:∃h:World,h=wc:=⟨_,rfl⟩
    have C:=za HB.out aj.out
    obtain⟨nk,a3⟩:∃nk,y.keys.length=nk:=⟨_,rfl⟩
    obtain⟨q,P⟩:∃q,y.members.length=q:=⟨_,rfl⟩
    have D:=Jd _ _ S1 S2 y.keys h (a5.out.keys.below C) (a6.out.keys.below C) B.1
    simp only at D
    rw[a3] at D
    rw[a3,P] at f g
    have ag:=zdG C
    have ah:=zdG P
    have ao:q≤1099511627776:=by rw[←P];exact B.2
    clear C a3 P B x0 x1 x2 x3 x4 x5 x6 x7 y0 y1 y2 y3 y4 y5 y6 y7
    have s0:h.cell? ⟨o,0,none⟩=some (.int .i64 y.id):=f.out.cell 0
    have s1:h.cell? ⟨o,1,none⟩=some (.int .i64 y.thread):=f.out.cell 1
    have s2:h.cell? ⟨o,2,none⟩=some (.string ⟨y.text.toArray⟩):=f.out.cell 2
    have s3:h.cell? ⟨o,3,none⟩=some (.int .i64 y.at_):=f.out.cell 3
    have s4:h.cell? ⟨o,4,none⟩=some (.slice L nk M):=f.out.cell 4
    have r0:h.cell? ⟨p,0,none⟩=some (.int .i64 y.id):=g.out.cell 0
    have r1:h.cell? ⟨p,1,none⟩=some (.int .i64 y.thread):=g.out.cell 1
    have r2:h.cell? ⟨p,2,none⟩=some (.string ⟨y.text.toArray⟩):=g.out.cell 2
    have r3:h.cell? ⟨p,3,none⟩=some (.int .i64 y.at_):=g.out.cell 3
    have r4:h.cell? ⟨p,4,none⟩=some (.slice N nk O):=g.out.cell 4
    go_upto_block 2 with(first
     |(go_at_call 131;refine D.mono ?_;rintro e X ⟨rfl,Q⟩;have k1:=f.out.below Q f.out.lt;have k2:=g.out.below Q g.out.lt;have u5:X.cell? ⟨o,5,none⟩=some (.slice r q s):=k1.cell 5;have u6:X.cell? ⟨o,6,none⟩=some (.int .i64 y.mod):=k1.cell 6;have u7:X.cell? ⟨o,7,none⟩=some (.int .i64 y.born):=k1.cell 7;have v5:X.cell? ⟨p,5,none⟩=some (.slice u q v):=k2.cell 5;have v6:X.cell? ⟨p,6,none⟩=some (.int .i64 y.mod):=k2.cell 6;have v7:X.cell? ⟨p,7,none⟩=some (.int .i64 y.born):=k2.cell 7;have R:=zdG k1;have S:=zdG k2;have a7:=zdG (za ag.out Q);clear D Q k1 k2)
     |fail)
    clear s0 s1 s2 s3 s4 r0 r1 r2 r3 r4 u5 u6 u7 v5 v6 v7
    go_wp2_with fail
    go_loopw [8] (fun jv wr=>∃j:Nat,j≤q∧jv=.int .i64 j∧Hid (Below X.heap.size X wr)) (fun jv _=>q - (intOf jv).toNat)
    case atStart=>exact⟨0,Nat.zero_le _,rfl,zdG (Below.refl _ _)⟩
    case round=>
     obtain⟨j,hj,rfl,i⟩:=hrel
     have u5:wr.cell? ⟨o,5,none⟩=some (.slice r q s):=(R.out.below i.out R.out.lt).cell 5
     have v5:wr.cell? ⟨p,5,none⟩=some (.slice u q v):=(S.out.below i.out S.out.lt).cell 5
     by_cases aa:j < q
     ·have Z:(j:Int) < (q:Int):=by omega
      have av:(0:Int)≤(j:Int):=by omega
      have a8:j < y.members.length:=by rw[ah.out];exact aa
      have aw:IntKind.i64.wrap ((j:Int)+1)=(j:Int)+1:=IntWalk.i64_in _ (by omega)
      obtain⟨d1,f1,ap,E,_,_,ak,_,c⟩:=a5.out.mem.at_ (by show 0 < y.members.length;omega)
      obtain⟨d2,f2,aq,F,_,_,al,_,d⟩:=a6.out.mem.at_ (by show 0 < y.members.length;omega)
      have e1:=(Value.slice.inj E).1
      have e2:=(Value.slice.inj F).1
      subst e1 e2
      obtain⟨z,hz⟩:∃z,y.members[j]=z:=⟨_,rfl⟩
      have a0:=za a7.out i.out
      have a:∀t,t < 2→wr.cell? ⟨d1,f1+j * 2+t,none⟩=(zA z)[t]?:=fun t ht=>by
       rw[Nat.add_assoc]
       refine(a0.cell ak).trans ((c (j * 2+t) (by show j * 2+t < y.members.length * 2;omega)).trans ?_)
       show (zk zA y.members)[j * 2+t]?=_
       rw[zy zJ y.members j t a8 ht,hz]
      have b:∀t,t < 2→wr.cell? ⟨d2,f2+j * 2+t,none⟩=(zA z)[t]?:=fun t ht=>by
       rw[Nat.add_assoc]
       refine(a0.cell al).trans ((d (j * 2+t) (by show j * 2+t < y.members.length * 2;omega)).trans ?_)
       show (zk zA y.members)[j * 2+t]?=_
       rw[zy zJ y.members j t a8 ht,hz]
      have m0:wr.cell? ⟨d1,f1+j * 2,none⟩=some (.int .i64 z.1):=a 0 (by omega)
      have m1:wr.cell? ⟨d1,f1+j * 2+1,none⟩=some (.int .i64 z.2):=a 1 (by omega)
      have n0:wr.cell? ⟨d2,f2+j * 2,none⟩=some (.int .i64 z.1):=b 0 (by omega)
      have n1:wr.cell? ⟨d2,f2+j * 2+1,none⟩=some (.int .i64 z.2):=b 1 (by omega)
      clear a b c d E F hz a0
      go_wp2_with fail
      go_quiet (fail)
      go_wp2_with fail
      refine⟨?_,by simp[intOf];omega⟩
      first|exact⟨j+1,by omega,by go_num,zdG (below_drewN' i.out _)⟩|((repeat apply Exists.intro);exact⟨⟨j+1,by omega,by go_num,zdG (below_drewN' i.out _)⟩,rfl⟩)
     ·have Z:¬(j:Int) < (q:Int):=by omega
      have a9:=zdG (za a7.out i.out)
      go_wp2_with fail
      refine⟨?_,by simp[intOf];omega⟩
      first|exact⟨k+1,by omega,by go_num,a9⟩|((repeat apply Exists.intro);exact⟨⟨k+1,by omega,by go_num,a9⟩,rfl⟩)
  ·have a4:¬(k:Int) < (n:Int):=by omega
   go_wp2_with fail
   go_ret
   exact⟨rfl,HB.out⟩
theorem Qw (w:World)(g:Nat)(q:zl)(x:Acc)(h:zh w g q x)(hn:x.log.es.length≤2199023255552) :
  Calls Tryz.prog 58 #[.pointer (some ⟨g,0,none⟩)] w fun e w'=>∃g2 h2,e=.returned (.pointer (some ⟨g2,0,none⟩))∧uF w' g2 h2 x.log∧Below w.heap.size w w'∧w.heap.size≤g2∧∀b,h2=some b→w.heap.size≤b:=by
 have a:=za1 w q.gl q.hl x.log h.log hn
 have i:=h.zV
 clear h
 go_enter Tryz.func58,Tryz.ntmps58
 go_wp2_with (first
  |(go_at_call 64;refine a.mono ?_;rintro e n ⟨g2,h2,rfl,hl,c,d,f⟩;have j:=zdG hl;have k:=zdG c;have l:=zdG d;have m:=zdG f;clear a hl c d f)
  |fail)
 go_ret
 exact⟨g2,h2,rfl,j.out,k.out,l.out,m.out⟩
theorem zi.mailsAt {w:World}{g:Nat}{q:zl}{x:Acc}(h:zi w g q x):Z5 w [] q.vm x.mails:=by
 refine⟨q.ms,h.same,?_,fun m hm=>?_⟩
 ·have b:=h.mails.reads [] (by simp)
  have c:q.ms.length=x.mails.length:=by rw[←h.same];simp
  rw[c]
  exact b
 ·have a:=h.parts m hm
  exact⟨a.keys.sub (fun _ _ _ hm=>by cases hm),a.mem.sub (fun _ _ _ hm=>by cases hm),a.tk,a.tm⟩
theorem zb1 (w:World)(g:Nat)(h:Option Nat)(x:Yc)(hl:uF w g h x) :
  Calls Tryz.prog 63 #[.pointer (some ⟨g,0,none⟩)] w fun e w'=>e=.returned (.int .i64 x.floor)∧w=w':=by
 obtain⟨v,a,_⟩:=hl
 have b:w.cell? ⟨g,2,none⟩=some (.int .i64 x.floor):=a.cell 2
 clear a
 go_enter Tryz.func63,Tryz.ntmps63
 go_wp2
 go_ret
 exact⟨rfl,rfl⟩
theorem UN (w:World)(g:Nat)(q:zl)(g2:Nat)(q2:zl)(x:Acc)(h:zh w g q x)(h2:zi w g2 q2 x)(hf:Fit x) :
  Calls Tryz.prog 15 #[.pointer (some ⟨g,0,none⟩),.pointer (some ⟨g2,0,none⟩)] w fun e w'=>e=.returned (.bool true)∧Below w.heap.size w w':=by
 have c:x.boxes.length≤1099511627776:=by
  have:=hf.nb
  have:=hf.clock
  have:=hf.cfg.mod
  omega
 have n:XJ x:=by
  have k:=hf.nm
  have h2:=hf.clock
  have h3:=hf.cfg.mod
  exact⟨by omega,fun m hm=>⟨by have:=(hf.mail m hm).keys;omega,by have:=hf.Jp hm;omega⟩⟩
 have P:x.log.es.length≤1099511627776:=by
  have k:=hf.log
  have h2:=hf.cfg.log
  omega
 have t:=Qw w g q x h (by omega)
 obtain⟨Ab,cb,H,_,_⟩:=h2.boxes.form
 obtain⟨Am,cm,I,_,_⟩:=h2.mails.form
 obtain⟨lv,i,r⟩:=h2.log
 obtain⟨Al,cl,ac,_,_⟩:=r.form
 subst ac
 have k9:=h2.yo
 have o:=h2.zQ
 have p:=h2.zU
 have A:=h2.zV
 have k1:w.cell? ⟨q2.gl,1,none⟩=some (.slice Al x.log.es.length cl):=i.cell 1
 have k2:w.cell? ⟨q2.gl,2,none⟩=some (.int .i64 x.log.floor):=i.cell 2
 rw[H] at o
 rw[I] at p
 have hK:∀W,Below w.heap.size w W→W.cell? ⟨g2,9,none⟩=some (.int .i64 x.clock)∧W.cell? ⟨g2,10,none⟩=some (.slice Ab x.boxes.length cb)∧W.cell? ⟨g2,11,none⟩=some (.slice Am x.mails.length cm)∧W.cell? ⟨g2,12,none⟩=some (.pointer (some ⟨q2.gl,0,none⟩))∧W.cell? ⟨q2.gl,1,none⟩=some (.slice Al x.log.es.length cl)∧W.cell? ⟨q2.gl,2,none⟩=some (.int .i64 x.log.floor):=fun W hb=>
  ⟨(hb.cell h2.blk.lt).trans k9,(hb.cell h2.blk.lt).trans o,(hb.cell h2.blk.lt).trans p,(hb.cell h2.blk.lt).trans A,(hb.cell i.lt).trans k1,(hb.cell i.lt).trans k2⟩
 have hC:=fun W (hb:Below w.heap.size w W)=>Ym g x.clock W (h.later hb).yo
 have Q:=fun W (hb:Below w.heap.size w W)=>Vi W g q x (h.later hb) c
 have R:∀W v hh,Below w.heap.size w W→Sl W 89 6 v hh x.boxes.length (zk xQ x.boxes)→Calls Tryz.prog 59 #[v,.slice Ab x.boxes.length cb] W fun e w'=>e=.returned (.bool true)∧Below W.heap.size W w':=fun W v hh hb hs=>by
  have k:=((h2.later hb).boxes).reads [] (by simp)
  rw[H] at k
  exact zcM v _ [] [] x.boxes W (hs.reads [] (by simp)) k c
 have hM:=fun W (hb:Below w.heap.size w W)=>zcI W g q x (h.later hb) n
 have T:∀W v S,Below w.heap.size w W→Z5 W S v x.mails→Calls Tryz.prog 60 #[v,.slice Am x.mails.length cm] W fun e w'=>e=.returned (.bool true)∧Below W.heap.size W w':=fun W v S hb hs=>by
  have k:=(h2.later hb).mailsAt
  rw[I] at k
  exact zc3 v _ S [] x.mails W hs k n.1 n.2
 have hE:∀W v hh,Below w.heap.size w W→Sl W 177 4 v hh x.log.es.length (zM x.log.es)→Calls Tryz.prog 61 #[v,.slice Al x.log.es.length cl] W fun e w'=>e=.returned (.bool true)∧Below W.heap.size W w':=fun W v hh hb hs=>by
  have k:=Q5 W v _ x.log.es x.log.es (hs.reads [] (by simp)) ((r.keep (fun b h=>hb.block b (r.lt b h))).reads [] (by simp))
  rw[decide_eq_true rfl] at k
  exact k
 have l:=zdG hK
 have HC:=zdG hC
 have U:=zdG Q
 have V:=zdG R
 have HM:=zdG hM
 have X:=zdG T
 have HE:=zdG hE
 clear hK hC Q R hM T hE k9 o p A k1 k2 i r H I h h2 hf c n
 obtain⟨nb,c⟩:∃nb,x.boxes.length=nb:=⟨_,rfl⟩
 obtain⟨nm,J⟩:∃nm,x.mails.length=nm:=⟨_,rfl⟩
 obtain⟨ne,s⟩:∃ne,x.log.es.length=ne:=⟨_,rfl⟩
 obtain⟨ck,K⟩:∃ck,x.clock=ck:=⟨_,rfl⟩
 obtain⟨fl,L⟩:∃fl,x.log.floor=fl:=⟨_,rfl⟩
 rw[c,J,s,K,L] at l
 rw[K] at HC
 rw[c] at U V
 rw[J] at HM X
 rw[s] at HE
 have a5:=zdG s
 have a6:=zdG L
 have a7:=zdG P
 clear c J s K L P
 go_enter Tryz.func15,Tryz.ntmps15
 go_upto_region 2 with(first
  |(go_at_call 58;refine t.mono ?_;rintro e u ⟨g5,h5,rfl,M,a0,_,_⟩;have B:=fun W (hb:Below u.heap.size u W)=>all_any W g5 h5 x.log (M.chg (Chg.of_below hb []) (by simp) (by simp)) (by have:=a7.out;omega);have C:=fun W (hb:Below u.heap.size u W)=>zb1 W g5 h5 x.log (M.chg (Chg.of_below hb []) (by simp) (by simp));rw[a5.out] at B;rw[a6.out] at C;have a8:=zdG B;have Y:=zdG C;have a:=zdG a0;clear t M a0 B C)
  |fail)
 have a9:=l.out u a.out
 obtain⟨k9,o,p,A,k1,k2⟩:=a9
 go_region_held3 (fun W=>W.cell? ⟨g2,9,none⟩=some (.int .i64 ck)∧W.cell? ⟨g2,10,none⟩=some (.slice Ab nb cb)∧W.cell? ⟨g2,11,none⟩=some (.slice Am nm cm)∧W.cell? ⟨g2,12,none⟩=some (.pointer (some ⟨q2.gl,0,none⟩))∧W.cell? ⟨q2.gl,1,none⟩=some (.slice Al ne cl)∧W.cell? ⟨q2.gl,2,none⟩=some (.int .i64 fl))
  (first
   |exact l.out _ (za a.out f.out)
   |exact l.out _ (za a.out d.out)
   |exact l.out _ (za a.out G.out)
   |exact l.out _ (za a.out F.out)
   |exact l.out _ (za a.out E.out)
   |exact l.out _ (za a.out D.out)
   |exact l.out _ a.out
   |exact l.out _ (za a.out (zb _))
   |go_keep)
  (first
   |(go_at_call 14;refine(HC.out _ (by first|exact a.out|exact za a.out (zb _))).mono ?_;rintro e wA ⟨rfl,rfl⟩)
   |(go_at_call 39;refine(U.out _ (by first|exact a.out|exact za a.out (zb _))).mono ?_;rintro e w6 ⟨v6,h6,rfl,N,_,O⟩;obtain⟨A6,c6,rfl,_,_⟩:=N.form;have aa:=zdG N;have D:Hid (Below u.heap.size u w6):=zdG (by first|exact O|exact za (zb u) O);clear N O)
   |(go_at_call 59;refine(V.out _ _ _ (za a.out D.out) aa.out).mono ?_;rintro e w7 ⟨rfl,a1⟩;have E:=zdG (za D.out a1);clear a1)
   |(go_at_call 18;refine(HM.out _ (za a.out E.out)).mono ?_;rintro e w8 ⟨A8,c8,rfl,a2,a3⟩;have ab:=zdG a2;have F:=zdG (za E.out a3);clear a3 a2)
   |(go_at_call 60;refine(X.out _ _ _ (za a.out F.out) ab.out).mono ?_;rintro e w9 ⟨rfl,a4⟩;have G:=zdG (za F.out a4);clear a4)
   |(go_at_call 62;refine(a8.out _ G.out).mono ?_;rintro e ad ⟨ae,af,rfl,j,y,_⟩;obtain⟨ag,ah,rfl,_,_⟩:=j.form;have Z:=zdG j;have d:=zdG (za G.out y);clear y j)
   |(go_at_call 61;refine(HE.out _ _ _ (za a.out d.out) Z.out).mono ?_;rintro e ai ⟨rfl,z⟩;have f:=zdG (za d.out z);clear z)
   |(go_at_call 63;refine(Y.out _ f.out).mono ?_;rintro e aj ⟨rfl,rfl⟩)
   |fail)
 all_goals
  go_wp2_with fail
  go_ret
  exact⟨rfl,za a.out f.out⟩
end Go.Proofs.YtfhlhdmhgheonaaGreatDoor
