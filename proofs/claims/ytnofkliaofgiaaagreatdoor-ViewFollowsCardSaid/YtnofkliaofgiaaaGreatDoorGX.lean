/-
  The plain law of StoreRefuses: each step leaves the account as it was, or has the clock go on by one and refuses nothing. The plain law of StoreUids: a number that was given in a mailbox is never another email's. The plain law of StoreLogs: what a step adds to the log, and what a Since across it tells. The plain law of StoreLogs, step by step.
-/
import Derived.Test.YtnofkliaofgiaaaGreatDoorGC
set_option maxRecDepth 100000
set_option maxHeartbeats 8000000
open Go.Proofs.Tryz
open Bool renaming or_eq_true→Rb
open Int renaming le_refl→Py
open List renaming any_eq_true→Ps,eraseP_cons_of_neg→P7,eraseP_cons_of_pos→Rj,eraseP_sublist→Rq,filter_sublist→PA,length_cons→OT,map_append→OQ,mem_append→OO,mem_filter→OZ,mem_map→OL,mem_of_find?_eq_some→O2,mem_singleton→OI,nodup_cons→P8
open Nat renaming zero_le→OE
open Option.some renaming inj→O6
open _root_ renaming List→Ob
namespace Go.Proofs.YtnofkliaofgiaaaGreatDoor
def XG (x x':Acc)(e:Int):Prop:=x'=x∨(e=0∧x'.zA=x.zA+1)
theorem tE (right:yx→Bool)(x:Acc)(name:yx)(zB:Int):XG x (ue right x name zB).1 (ue right x name zB).2.2:=by
 unfold ue
 split
 ·exact .inl rfl
 ·exact px
theorem kJ (right:yx→Bool)(x:Acc)(id:Int)(name:yx)(zB:Int):XG x (yB right x id name zB).1 (yB right x id name zB).2:=by
 unfold yB
 split
 ·exact .inl rfl
 ·exact E3
theorem se (x:Acc)(id:Int):XG x (vR x id).1 (vR x id).2:=by
 unfold vR
 exact FR
theorem hZ (head:yx→yx→yx)(x:Acc)(zg:Ob Int)(keys:Ob yx)(at_:Int)(t:yx):XG x (ya head x zg keys at_ t).1 (ya head x zg keys at_ t).2.2:=by
 unfold ya xO
 exact E3
theorem s7 (x:Acc)(id:Int)(keys:Ob yx):XG x (vx x id keys).1 (vx x id keys).2:=by
 unfold vx VN
 exact FR
theorem nD (x:Acc)(id:Int)(zg:Ob Int):XG x (xn x id zg).1 (xn x id zg).2:=by
 unfold xn
 split
 ·exact .inl rfl
 ·split
  ·exact .inl rfl
  ·split
   ·exact .inl rfl
   ·simp only[]
    exact px
theorem eC (x:Acc)(id:Int):XG x (yQ x id).1 (yQ x id).2:=by
 unfold yQ
 exact px
structure NI (x x':Acc):Prop where
 last:x.zS≤x'.zS
 next:∀i∈ids x'.zg,i∈ids x.zg→yb x.zg i≤yb x'.zg i
 newb:∀i∈ids x'.zg,i∉ids x.zg→x.zS < i
 mem:∃one:Int,∀m'∈x'.zC,∀p∈m'.zr,(∃m∈x.zC,m.id=m'.id∧p∈m.zr)∨(m'.id=one∧p.1∈ids x.zg∧p.2=yb x.zg p.1)
theorem NI.refl (x:Acc):NI x x:=⟨Py _,fun _ _ _=>Py _,fun _ h h'=>absurd h h',0,fun m hm _ hp=>.inl ⟨m,hm,rfl,hp⟩⟩
theorem NI.nB {c:Ud}{x x':Acc}(hl:x'.zS=x.zS)(hs:xR c x.zg x'.zg)(hm:∀m'∈x'.zC,∃m∈x.zC,m.id=m'.id∧∀p∈m'.zr,p∈m.zr):NI x x':=
 ⟨by rw[hl];exact Py _,fun i _ _=>hs.next i,fun i h h'=>absurd (by rw[hs.ids] at h;exact h) h',0,fun m' hm' p hp=>by
  obtain⟨m,h1,h2,h3⟩:=hm m' hm'
  exact .inl ⟨m,h1,h2,h3 p hp⟩⟩
theorem CG (right:yx→Bool)(x:Acc)(name:yx)(zB:Int):NI x (ue right x name zB).1:=by
 unfold ue
 split
 ·exact NI.refl x
 ·split
  ·exact NI.refl x
  ·split
   ·exact NI.refl x
   ·refine⟨by show x.zS≤x.zS+1;omega,fun i _ hi=>?_,fun i hi hn=>?_,0,fun m hm p hp=>.inl ⟨m,hm,rfl,hp⟩⟩
    ·show yb x.zg i≤yb (x.zg++[_]) i
     rw[Uz hi]
     exact Py _
    ·have a:i∈ids (x.zg++[(⟨x.zS+1,name,zB,x.zA+1,1,x.zA+1⟩:xA)]):=hi
     unfold ids at a
     rw[OQ,OO] at a
     rcases a with h1|h1
     ·exact absurd h1 hn
     ·have:i=x.zS+1:=xv
      omega
theorem nQ (right:yx→Bool)(hr:∀t,right t=true→t.length≤64){x:Acc}(h:Fit x)(id:Int)(name:yx)(zB:Int):NI x (yB right x id name zB).1:=by
 unfold yB
 split
 ·exact NI.refl x
 ·split
  ·exact NI.refl x
  ·rename_i hright
   split
   ·exact NI.refl x
   ·split
    ·exact NI.refl x
    ·split
     ·exact NI.refl x
     ·split
      ·exact NI.refl x
      ·have a:name.length≤64:=hr name (by
        have:¬right name=false:=fun e=>hright (.inl e)
        simpa using this)
       have d:=Qz x.N3 id name zB a x.zg h.idsB
       have f:=xx x.N3 (x.zA+1) [id] _ (show (ids (xK id (fun b=>{b with name:=name,zB:=zB}) x.zg)).Nodup by rw[d.ids];exact h.idsB)
       exact NI.nB (c:=x.N3) rfl (d.trans f) fun m hm=>⟨m,hm,rfl,fun p hp=>hp⟩
theorem Vz {id:Int}:∀l:Ob xA,(ids l).Nodup→id∉ids (l.eraseP fun b=>decide (b.id=id))
 |[],_=>by simp[ids]
 |b :: r,h=>by
  have h':b.id∉ids r∧(ids r).Nodup:=aR
  by_cases hb:b.id=id
  ·rw[Rj xQ,←hb]
   exact h'.1
  ·rw[P7 xQ]
   have ih:=Vz (id:=id) r h'.2
   intro hm
   have hm':id=b.id∨id∈ids (r.eraseP fun b=>decide (b.id=id)):=by simpa[ids] using hm
   rcases hm' with h1|h1
   ·exact hb h1.symm
   ·exact ih h1
theorem AQ {x:Acc}(h:Fit x)(id:Int):NI x (vR x id).1:=by
 unfold vR
 split
 ·exact NI.refl x
 ·rename_i hhas
  split
  ·exact NI.refl x
  ·split
   ·exact NI.refl x
   ·split
    ·exact NI.refl x
    ·have a:x.zg.any (fun b=>decide (b.id=id))=true:=by
      have:¬zZ x.zg id=false:=hhas
      simpa[zZ] using this
     have e:x.zg.eraseIdx (xC id x.zg).toNat=x.zg.eraseP fun b=>decide (b.id=id):=uu _ _ a
     have d:=Rq (l:=x.zg) (p:=fun b=>decide (b.id=id))
     simp only[e]
     refine⟨Py _,fun i hi _=>?_,fun i hi hn=>?_,0,fun m hm p hp=>.inl ⟨m,hm,rfl,hp⟩⟩
     ·show yb x.zg i≤yb (x.zg.eraseP _) i
      by_cases c:i=id
      ·subst c
       exact absurd hi (Vz x.zg h.idsB)
      ·rw[Xi c]
       exact Py _
     ·exact absurd ((d.map (·.id)).subset hi) hn
theorem iJ {x:Acc}(h:Fit x)(id:Int):NI x (yQ x id).1:=by
 unfold yQ
 split
 ·exact NI.refl x
 ·rename_i m hm
  split
  ·exact NI.refl x
  ·have b:x.zC.any (fun m=>decide (m.id=id))=true:=Ps.2 ⟨m,O2 hm,List.find?_some (p:=fun m:zR=>decide (m.id=id)) hm⟩
   have e:x.zC.eraseIdx (Z4 id x.zC).toNat=x.zC.eraseP fun m=>decide (m.id=id):=uu _ _ b
   have d:=Rq (l:=x.zC) (p:=fun m=>decide (m.id=id))
   simp only[e]
   exact NI.nB (c:=x.N3) rfl (xx x.N3 (x.zA+1) _ x.zg h.idsB) fun a ha=>⟨a,d.subset ha,rfl,fun p hp=>hp⟩
theorem B7 {x:Acc}(h:Fit x)(id:Int)(keys:Ob yx):NI x (vx x id keys).1:=by
 unfold vx VN
 split
 ·exact NI.refl x
 ·split
  ·exact NI.refl x
  ·split
   ·exact NI.refl x
   ·split
    ·exact NI.refl x
    ·refine NI.nB (c:=x.N3) rfl (xx x.N3 (x.zA+1) _ x.zg h.idsB) fun a ha=>?_
     rcases Zc ha with ha|⟨b,hb,rfl⟩
     ·exact⟨a,ha,rfl,fun p hp=>hp⟩
     ·exact⟨b,O2 hb,rfl,fun p hp=>hp⟩
theorem mz (head:yx→yx→yx){x:Acc}(h:Fit x)(zg:Ob Int)(keys:Ob yx)(at_:Int)(t:yx):NI x (ya head x zg keys at_ t).1:=by
 unfold ya xO
 split
 ·exact NI.refl x
 ·split
  ·exact NI.refl x
  ·split
   ·exact NI.refl x
   ·rename_i hhas
    split
    ·exact NI.refl x
    ·split
     ·exact NI.refl x
     ·rename_i hend
      simp only[Rb,not_or,Bool.not_eq_true] at hend
      have c:(rise zg).any (fun id=>!zZ x.zg id)=false:=by simpa using hhas
      have a:∀i∈rise zg,yb x.zg i≤x.N3.vC:=by
       exact Na
      have d:=vT (rise zg) x.zg h.idsB (xZ zg)
      have e:xR x.N3 x.zg (xE (rise zg) x.zg):=ZJ _ _ _ fun b hb hi=>by
       have:=a _ hi
       rwa [ux h.idsB hb] at this
      have f:xR x.N3 (xE (rise zg) x.zg) (zI (x.zA+1) (rise zg) (xE (rise zg) x.zg)):=xx _ _ _ _ fT
      have g:=e.trans f
      simp only[d]
      refine⟨Py _,fun i _ _=>g.next i,fun i hi hn=>absurd (by rw[←g.ids];exact hi) hn,x.zN+1,fun m' hm' p hp=>?_⟩
      rcases OO.1 hm' with hm'|hm'
      ·exact .inl ⟨m',hm',rfl,hp⟩
      ·rw[OI] at hm'
       subst hm'
       obtain⟨i,hi,rfl⟩:=OL.1 hp
       exact .inr ⟨rfl,uS c hi,rfl⟩
theorem tK {x:Acc}(h:Fit x)(id:Int)(zg:Ob Int):NI x (xn x id zg).1:=by
 unfold xn
 split
 ·exact NI.refl x
 ·rename_i m hm
  split
  ·exact NI.refl x
  ·split
   ·exact NI.refl x
   ·rename_i hhas
    simp only[]
    split
    ·exact NI.refl x
    ·split
     ·exact NI.refl x
     ·rename_i hend
      simp only[Rb,not_or,Bool.not_eq_true] at hend
      have c:(rise zg).any (fun id=>!zZ x.zg id)=false:=by simpa using hhas
      have e:=O2 hm
      have g:((rise zg).filter fun b=>!decide (b∈m.zr.map (·.1))).Nodup:=(PA (l:=rise zg)).nodup (xZ zg)
      have a:∀i∈(rise zg).filter (fun b=>!decide (b∈m.zr.map (·.1))),yb x.zg i≤x.N3.vC:=by
       exact Na
      rw[vT _ x.zg h.idsB g]
      have k:xR x.N3 x.zg (xE ((rise zg).filter fun b=>!decide (b∈m.zr.map (·.1))) x.zg):=ZJ _ _ _ fun b hb hi=>by
       have:=a _ hi
       rwa [ux h.idsB hb] at this
      generalize q:rise ((m.zr.map (·.1)).filter (fun b=>!decide (b∈rise zg))++(rise zg).filter (fun b=>!decide (b∈m.zr.map (·.1))))=turned
      have n:xR x.N3 (xE ((rise zg).filter fun b=>!decide (b∈m.zr.map (·.1))) x.zg) (zI (x.zA+1) turned (xE ((rise zg).filter fun b=>!decide (b∈m.zr.map (·.1))) x.zg)):=xx _ _ _ _ fT
      have o:=k.trans n
      simp only[]
      have j:m.id=id:=by
       have:=List.find?_some (p:=fun m:zR=>decide (m.id=id)) hm
       simpa using this
      have d:=(UH (XY (bs:=x.zg) (zg:=zg) (h.mail m e).mem)).2
      refine⟨Py _,fun i _ _=>o.next i,fun i hi hn=>absurd (by rw[←o.ids];exact hi) hn,id,fun m' hm' p hp=>?_⟩
      rcases Zc hm' with hm'|⟨b,hb,rfl⟩
      ·exact .inl ⟨m',hm',rfl,hp⟩
      ·have f:b=m:=by
        rw[hm] at hb
        exact(O6 hb).symm
       subst f
       rcases OO.1 ((d p).1 hp) with h3|h3
       ·exact .inl ⟨b,e,rfl,(OZ.1 h3).1⟩
       ·obtain⟨i,hi,rfl⟩:=OL.1 h3
        exact .inr ⟨j,uS c (OZ.1 hi).1,rfl⟩
structure UseP where
 box:Int
 uid:Int
 mail:Int
structure Qv (x:Acc)(ever:Ob UseP):Prop where
 each:∀y∈ever,y.box≤x.zS∧(y.box∈ids x.zg→y.uid < yb x.zg y.box)∧∀m∈x.zC,(y.box,y.uid)∈m.zr→m.id=y.mail
 uniq:∀m∈x.zC,∀m'∈x.zC,∀p∈m.zr,p∈m'.zr→m.id=m'.id
theorem wQ (c:Ud):Qv (Yt c) []:=⟨fun y hy=>(by cases hy),fun m hm=>(by simp[Yt] at hm)⟩
theorem Qv.step {x x':Acc}{ever:Ob UseP}(h:Qv x ever)(hf:Fit x)(he:NI x x'):Qv x' ever:=by
 obtain⟨g,b⟩:=he.mem
 refine⟨fun y hy=>?_,fun m hm m' hm' p hp hp'=>?_⟩
 ·obtain⟨e,d,f⟩:=h.each y hy
  refine⟨Int.le_trans e he.last,fun hi=>?_,fun m hm hmem=>?_⟩
  ·by_cases c:y.box∈ids x.zg
   ·exact Int.lt_of_lt_of_le (d c) (he.next _ hi c)
   ·have:=he.newb _ hi c
    omega
  ·rcases b m hm _ hmem with⟨a,ha,hid,hap⟩|⟨_,c,hu⟩
   ·rw[←hid]
    exact f a ha hap
   ·have i:=d c
    simp only at hu
    omega
 ·rcases b m hm p hp with⟨a,ha,hid,hap⟩|⟨hid,c,hu⟩
  ·rcases b m' hm' p hp' with⟨a',ha',hid',hap'⟩|⟨_,_,hu'⟩
   ·rw[←hid,←hid']
    exact h.uniq a ha a' ha' p hap hap'
   ·have:=((hf.mail a ha).mem.each p hap).2.2
    omega
  ·rcases b m' hm' p hp' with⟨a',ha',hid',hap'⟩|⟨hid',_,_⟩
   ·have:=((hf.mail a' ha').mem.each p hap').2.2
    omega
   ·rw[hid,hid']
theorem Qv.same {x:Acc}{ever:Ob UseP}(h:Qv x ever){m:zR}(hm:m∈x.zC){p:Int×Int}(hp:p∈m.zr){y:UseP}(hy:y∈ever)(h1:y.box=p.1)(h2:y.uid=p.2):y.mail=m.id:=by
 have:=(h.each y hy).2.2 m hm (by rw[h1,h2];exact hp)
 exact this.symm
theorem ui:∀(l m:Ob Int),l.Nodup→(∀x∈l,x∈m)→l.length≤m.length
 |[],_,_,_=>OE _
 |x :: l,m,hn,hs=>by
  obtain⟨h1,h2⟩:=P8.1 hn
  have hx:x∈m:=hs x zv
  have ih:=ui l (m.erase x) h2 (fun y hy=>by
   have hy2:=hs y (by simp[hy])
   have hne:y≠x:=fun e=>h1 (e ▸ hy)
   exact(List.mem_erase_of_ne hne).2 hy2)
  have:=List.length_erase_of_mem hx
  have hpos:0 < m.length:=List.length_pos_of_mem hx
  rw[OT]
  omega
theorem vA (mod:Int):∀(is:Ob Int) (l:Ob xA),(zI mod is l).length=l.length
 |[],_=>rfl
 |i :: r,l=>by
  have:=vA mod r (xK i (fun b=>{b with mod:=mod}) l)
  rw[Xm] at this
  exact this
end Go.Proofs.YtnofkliaofgiaaaGreatDoor
