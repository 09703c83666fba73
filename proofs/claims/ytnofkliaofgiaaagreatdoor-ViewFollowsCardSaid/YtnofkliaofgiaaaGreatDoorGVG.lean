/-
  The reference's view in plain words, and that it is the program's: the email at a place is found the same, what is told, what is new. What holds of a view along updates: its numbers lie in bounds, it grows by no more than the emails that there are. No program in sight. The reference's view in memory; its list of messages as it is made: plain words. The walk of the reference's there: a mailbox's me
-/
import Derived.Test.YtnofkliaofgiaaaGreatDoorGVA
import Derived.Test.YtnofkliaofgiaaaGreatDoorGRS
import Derived.Test.YtnofkliaofgiaaaGreatDoorGRK
import Derived.Test.YtnofkliaofgiaaaGreatDoorGVC
import Derived.Test.YtnofkliaofgiaaaGreatDoorGRQ
import Derived.Deep.RegionHeld3
set_option maxRecDepth 100000
set_option maxHeartbeats 8000000
open Go.Proofs.Tryz
open Bool renaming and_eq_true→PP
open Exists renaming intro→OA
open Go renaming TypeId→Pa,Value→Oe,World→Oc
open Go.Ending renaming returned→RR
open Go.IntKind renaming i64→Ov
open Go.IntWalk renaming i64_in→Og
open Go.RowKit renaming Below→Od
open Go.RowKit.Below renaming refl→Ok
open Go.Value renaming pointer→RQ,slice→RO,string→RP
open Go.Value.slice renaming inj→OM,injEq→PH
open Int renaming le_refl→Py
open List renaming append_assoc→O4,filterMap_append→RG,find?_cons_of_neg→Pb,find?_cons_of_pos→PN,foldl_cons→Pm,getElem?_eq_getElem→Ot,getElem_mem→Oj,getElem_of_mem→Pg,getElem_set_self→Ph,getElem_take→RB,length_append→Oo,length_cons→OT,length_drop→O8,length_map→Ow,length_set→Pd,length_singleton→Pf,length_take→OU,map_append→OQ,map_cons→OY,mem_append→OO,mem_cons→OB,mem_cons_of_mem→OP,mem_cons_self→PV,mem_filter→OZ,mem_map→OL,mem_map_of_mem→OV,mem_of_find?_eq_some→O2,mem_singleton→OI,nodup_append→P6,nodup_cons→P8,pairwise_cons→Pc,pairwise_iff_getElem→PF,pairwise_map→P0,take_of_length_le→Ou,take_succ_eq_append_getElem→Oh
open List.Pairwise renaming nil→Rz
open Nat renaming add_assoc→O1,le_refl→Oq,le_trans→Ol,zero_le→OE
open Option.some renaming inj→O6,injEq→Pk
open _root_ renaming List→Ob,Option→OC,if_neg→Om,if_pos→OG
namespace Go.Proofs.YtnofkliaofgiaaaGreatDoor
section
def Yz (ms:Ob zR)(box:Int)(m:NL):OC zR:=match ms.find? (fun y=>decide (y.id=m.id)) with
 |none=>none
 |some y=>if yY y.zr box=m.uid then some y else none
theorem mJ {ms:Ob zR}(hn:(ms.map (·.id)).Nodup){y:zR}(hy:y∈ms):ms.find? (fun z=>decide (z.id=y.id))=some y:=by
 induction ms with
 |nil=>cases hy
 |cons a r ih=>
  rw[OY,P8] at hn
  by_cases b:a.id=y.id
  ·rcases OB.1 hy with rfl|h1
   ·simp
   ·exact absurd (by rw[b];exact OV h1) hn.1
  ·rw[Pb (by simpa using b)]
   rcases OB.1 hy with rfl|h1
   ·exact absurd rfl b
   ·exact ih hn.2 h1
theorem eF {x:Acc}(h:NW x)(box:Int)(m:NL)(hm:m.uid≠0):YE (N9 x box) m=(Yz x.zC box m).map fun y=>(m.uid,y):=by
 unfold YE
 cases e:(N9 x box).find? (N7 m) with
 |none=>
  cases a:Yz x.zC box m with
  |none=>rfl
  |some y=>
   unfold Yz at a
   split at a
   ·cases a
   ·rename_i y2 hy2
    split at a
    ·rename_i hu
     injection a with a
     subst a
     have d:=O2 hy2
     have b:y2.id=m.id:=of_decide_eq_true (List.find?_some (p:=fun(y:zR)=>decide (y.id=m.id)) hy2)
     have i:=L0 (x:=x) (box:=box) d (by rw[hu];exact hm)
     have c:=List.find?_eq_none.1 e _ i
     exact absurd (by simp[N7,hu,b]) c
    ·cases a
 |some z=>
  have d:=O2 e
  have b:=List.find?_some e
  simp only[N7,PP,decide_eq_true_eq] at b
  obtain⟨f,g,k⟩:=Xp d
  have c:=mJ h.fit.idsM f
  rw[b.2] at c
  have j:Yz x.zC box m=some z.2:=by
   unfold Yz
   rw[c]
   simp only
   rw[OG (by rw[←g];exact b.1)]
  rw[j]
  show some z=some (m.uid,z.2)
  rw[←b.1]
theorem isV_eq {x:Acc}(h:NW x)(box:Int)(m:NL)(hm:m.uid≠0):N6 (N9 x box) m=(Yz x.zC box m).isSome:=by
 unfold N6
 rw[eF h box m hm]
 cases Yz x.zC box m <;> rfl
theorem Lu {x:Acc}(h:NW x)(box:Int)(m:NL)(hm:m.uid≠0):X4 (N9 x box) m=match Yz x.zC box m with
  |some y=>{m with told:=y.mod}
  |none=>m:=by
 have k:∀z∈N9 x box,∀e∈N9 x box,N7 m z=true→N7 m e=true→z=e:=by
  intro z g e l c d
  simp only[N7,PP,decide_eq_true_eq] at c d
  have o:=mJ h.fit.idsM (Xp g).1
  have j:=mJ h.fit.idsM (Xp l).1
  rw[c.2] at o
  rw[d.2,o] at j
  injection j with j
  exact Prod.ext (c.1.trans d.1.symm) j
 have n:∀(f:Ob (Int×zR)),(∀z∈f,∀e∈f,N7 m z=true→N7 m e=true→z=e)→∀s:NL,f.foldl (fun(s:NL) z=>if N7 m z then {s with told:=z.2.mod} else s) s=match f.find? (N7 m) with
   |some z=>{s with told:=z.2.mod}
   |none=>s:=by
  intro f
  induction f with
  |nil=>intro _ s;rfl
  |cons z r ih=>
   intro k s
   have i:=ih fun a ha b hb=>k a (OP _ ha) b (OP _ hb)
   rw[Pm]
   cases g:N7 m z with
   |false=>
    rw[Pb (by rw[g];decide)]
    simpa using i s
   |true=>
    rw[PN g,OG rfl,i]
    cases p:r.find? (N7 m) with
    |none=>rfl
    |some e=>
     have c:=O2 p
     have d:=k z zv e (OP _ c) g (List.find?_some p)
     rw[←d]
 have c:=n (N9 x box) k m
 have d:=eF h box m hm
 unfold YE at d
 rw[d] at c
 refine c.trans ?_
 cases Yz x.zC box m <;> rfl
def Ua (z:Int×zR):NL:=⟨z.1,z.2.id,z.2.mod⟩
theorem Uq (had:Int):∀(zs:Ob (Int×zR)) (v:yI),(yy had zs v).box=v.box
 |[],_=>rfl
 |z :: r,v=>by
  unfold yy
  rw[Pm]
  have h1:=Uq had r (if had < z.1 then UV v z else v)
  unfold yy at h1
  rw[h1]
  split <;> rfl
theorem mQ (had:Int)(zs:Ob (Int×zR))(z:Int×zR)(v:yI):yy had (zs++[z]) v=if had < z.1 then UV (yy had zs v) z else yy had zs v:=by
 unfold yy
 rw[List.foldl_append]
 rfl
theorem iW (had:Int):∀(zs:Ob (Int×zR)) (v:yI) (b:Int),v.had < b→(∀z∈zs,z.1 < b)→(yy had zs v).had < b
 |[],_,_,h,_=>h
 |z :: r,v,b,h,hz=>by
  unfold yy
  rw[Pm]
  refine iW had r _ b ?_ (fun y hy=>hz y (OP _ hy))
  have h1:=hz z zv
  split
  ·show max v.had z.1 < b
   omega
  ·exact h
theorem qJ (had:Int):∀(zs:Ob (Int×zR)) (v:yI),v.had≤(yy had zs v).had
 |[],_=>Py _
 |z :: r,v=>by
  unfold yy
  rw[Pm]
  refine Int.le_trans ?_ (qJ had r _)
  split
  ·show v.had≤max v.had z.1
   omega
  ·exact Py _
theorem sN {zs:Ob (Int×zR)}(hr:(zs.map (·.1)).Pairwise (· < ·))(v:yI)(k:Nat)(hk:k < zs.length) :
  yy v.had (zs.take (k+1)) v=if (yy v.had (zs.take k) v).had < zs[k].1 then ⟨v.box,(yy v.had (zs.take k) v).l++[Ua zs[k]],zs[k].1⟩ else yy v.had (zs.take k) v:=by
 rw[Oh hk,mQ]
 have a:∀z∈zs.take k,z.1 < zs[k].1:=by
  intro z f
  obtain⟨j,e,rfl⟩:=Pg f
  rw[OU] at e
  rw[RB]
  have c:=PF.1 hr j k zT yi O
  simpa using c
 by_cases h:v.had < zs[k].1
 ·have b:=iW v.had (zs.take k) v zs[k].1 h a
  rw[OG h,OG b]
  unfold UV
  have d:=Uq v.had (zs.take k) v
  rw[d]
  have:max (yy v.had (zs.take k) v).had zs[k].1=zs[k].1:=O
  rw[this]
  rfl
 ·have b:=qJ v.had (zs.take k) v
  rw[Om h,Om O]
theorem nA (box:Int):∀(zs:Ob (Int×zR)),(zs.map (·.1)).Pairwise (· < ·)→(∀z∈zs,1≤z.1)→jV box zs=⟨box,zs.map Ua,match zs.getLast? with|some z=>z.1|none=>0⟩:=by
 have c:∀(zs:Ob (Int×zR)) (v:yI),(zs.map (·.1)).Pairwise (· < ·)→(∀z∈zs,v.had < z.1)→zs.foldl UV v=⟨v.box,v.l++zs.map Ua,match zs.getLast? with|some z=>z.1|none=>v.had⟩:=by
  intro zs
  induction zs with
  |nil=>intro v _ _;simp
  |cons z r ih=>
   intro v a b
   rw[OY,Pc] at a
   have f:=b z zv
   have d:max v.had z.1=z.1:=O
   rw[Pm,ih (UV v z) a.2 (fun y hy=>by
    show max v.had z.1 < y.1
    have:=a.1 y.1 (OV hy)
    omega)]
   unfold UV
   simp only[d,OY,O4,List.singleton_append]
   cases r with
   |nil=>rfl
   |cons y r2=>
    simp only[List.getLast?_cons_cons,OY]
    cases e:(y :: r2).getLast? with
    |none=>simp at e
    |some z2=>simp[Ua]
 intro zs a b
 exact(c zs ⟨box,[],0⟩ a (fun z hz2=>by have:=b z hz2;show (0:Int) < z.1;omega)).trans zv
structure bX (v:yI)(n:Nat):Prop where
 uid:∀m∈v.l,1≤m.uid∧m.uid≤2147483647
 len:v.l.length≤n
theorem bX.more {v:yI}{n n':Nat}(h:bX v n)(hn:n≤n'):bX v n':=⟨h.uid,Ol h.len hn⟩
theorem Us (had:Int):∀(zs:Ob (Int×zR)) (v:yI),(∀m∈(yy had zs v).l,m∈v.l∨∃z∈zs,m=Ua z)∧(yy had zs v).l.length≤v.l.length+zs.length
 |[],v=>⟨fun m hm=>.inl hm,Oq _⟩
 |z :: r,v=>by
  unfold yy
  rw[Pm]
  obtain⟨h1,h2⟩:=Us had r (if had < z.1 then UV v z else v)
  unfold yy at h1 h2
  refine⟨fun m hm=>?_,?_⟩
  ·rcases h1 m hm with h3|⟨y,hy,h3⟩
   ·split at h3
    ·rcases OO.1 h3 with h4|h4
     ·exact .inl h4
     ·exact .inr ⟨z,zv,OI.1 h4⟩
    ·exact .inl h3
   ·exact .inr ⟨y,OP _ hy,h3⟩
  ·refine Ol h2 ?_
   split
   ·show (v.l++[_]).length+r.length≤_
    rw[Oo,Pf,OT]
    omega
   ·rw[OT]
    omega
theorem UQ (zs:Ob (Int×zR))(m:NL):(xi zs m).uid=m.uid∧(xi zs m).id=m.id:=by
 unfold xi
 split
 ·split <;> exact⟨rfl,rfl⟩
 ·exact⟨rfl,rfl⟩
theorem VW (flags:Ob yx→yx){x:Acc}(h:NW x){v:yI}{n:Nat}(hv:bX v n)(box:Int)(all:Bool):bX (yH flags (N9 x box) v all).2 (n+x.zC.length):=by
 unfold yH
 simp only
 obtain⟨c,d⟩:=Us v.had (N9 x box) ⟨v.box,(if all then v.l.filter (N6 (N9 x box)) else v.l).map (xi (N9 x box)),v.had⟩
 have f:(if all then v.l.filter (N6 (N9 x box)) else v.l).length≤v.l.length:=by
  split
  ·exact List.length_filter_le _ _
  ·exact Oq _
 refine⟨fun m hm=>?_,?_⟩
 ·rcases c m hm with b|⟨z,hz,rfl⟩
  ·obtain⟨y,a,rfl⟩:=OL.1 b
   rw[(UQ _ y).1]
   refine hv.uid y ?_
   split at a
   ·exact(OZ.1 a).1
   ·exact a
  ·exact Jp h hz
 ·have b:=YL x box
  have e:=hv.len
  simp only[Ow] at d
  omega
theorem aI (flags:Ob yx→yx)(zs:Ob (Int×zR))(v:yI)(all:Bool):(yH flags zs v all).2.box=v.box:=by
 unfold yH
 exact Uq _ _ _
theorem DO (zs:Ob (Int×zR))(m:NL):(X4 zs m).uid=m.uid∧(X4 zs m).id=m.id:=by
 have b:∀(a:Ob (Int×zR)) (t:NL),(a.foldl (fun(s:NL) z=>if N7 m z then {s with told:=z.2.mod} else s) t).uid=t.uid∧(a.foldl (fun(s:NL) z=>if N7 m z then {s with told:=z.2.mod} else s) t).id=t.id:=by
  intro a
  induction a with
  |nil=>intro t;exact⟨rfl,rfl⟩
  |cons y r ih=>
   intro t
   rw[Pm]
   have h:=ih (if N7 m y then {t with told:=y.2.mod} else t)
   refine⟨h.1.trans ?_,h.2.trans ?_⟩ <;> (split <;> rfl)
 exact b zs m
theorem DX {zs:Ob (Int×zR)}{v:yI}{n:Nat}(hv:bX v n)(at_:Int):bX (Jj zs v at_) n:=by
 unfold Jj
 split
 ·exact hv
 ·refine⟨fun m hm=>?_,?_⟩
  ·obtain⟨j,hj,rfl⟩:=Pg hm
   have a:j < v.l.length:=vL
   have b:=hv.uid v.l[j] (Oj a)
   show 1≤((v.l.modify (at_ - 1).toNat (X4 zs))[j]).uid∧_
   rw[List.getElem_modify]
   split
   ·rw[(DO _ _).1]
    exact b
   ·exact b
  ·show (v.l.modify _ _).length≤n
   rw[List.length_modify]
   exact hv.len
theorem DW (zs:Ob (Int×zR))(v:yI)(at_:Int):(Jj zs v at_).box=v.box:=by
 unfold Jj
 split <;> rfl
theorem rj {x:Acc}(h:NW x)(box:Int):bX (jV box (N9 x box)) x.zC.length∧(jV box (N9 x box)).box=box:=by
 rw[nA box (N9 x box) (uW h box) (fun z a=>(Jp h a).1)]
 refine⟨⟨fun m hm=>?_,?_⟩,rfl⟩
 ·obtain⟨z,a,rfl⟩:=OL.1 hm
  exact Jp h a
 ·show ((N9 x box).map Ua).length≤_
  rw[Ow]
  exact YL x box
end
section
open Go.RowKit
def vG (m:NL):Ob Oe:=[I m.uid,I m.id,I m.told]
theorem vH (m:NL):(vG m).length=3:=rfl
theorem mH (m:NL):∀u∈vG m,u.oneCell'=true:=by
 intro u a
 simp only[vG,OB,List.not_mem_nil,or_false] at a
 rcases a with rfl|rfl|rfl <;> rfl
theorem iU (l:Ob NL)(r:Nat)(hr:r < l.length)(y:NL):(((zU vG l).set (r * 3) (I y.uid)).set (r * 3+1) (I y.id)).set (r * 3+2) (I y.told)=zU vG (l.set r y):=by
 have c:=ub (enc:=vG) vH l r 0 hr O (I y.uid) ⟨y.uid,l[r].id,l[r].told⟩ rfl
 rw[Nat.add_zero] at c
 have a:r < (l.set r ⟨y.uid,l[r].id,l[r].told⟩).length:=by rw[Pd];exact hr
 have d:=ub (enc:=vG) vH _ r 1 a O (I y.id) ⟨y.uid,y.id,l[r].told⟩ pJ
 rw[List.set_set] at d
 have b:r < (l.set r ⟨y.uid,y.id,l[r].told⟩).length:=by rw[Pd];exact hr
 have e:=ub (enc:=vG) vH _ r 2 b O (I y.told) y pJ
 rw[List.set_set] at e
 rw[c,d,e]
theorem Sl.LX {w:Oc}{e:Pa}{b off n cap:Nat}{h:OC Nat}{l:Ob NL}(hs:Sl w e 3 (RO (some (Y b off)) n cap) h n (zU vG l))(r:Nat)(hr:r < l.length)(y:NL) :
  Sl (((w.setCell (Y b (off+r * 3)) (I y.uid)).setCell (Y b (off+r * 3+1)) (I y.id)).setCell (Y b (off+r * 3+2)) (I y.told)) e 3 (RO (some (Y b off)) n cap) h n (zU vG (l.set r y)):=by
 have a:=((hs.store (r * 3) (I y.uid)).store (r * 3+1) (I y.id)).store (r * 3+2) (I y.told)
 rw[iU l r hr y,←O1,←O1] at a
 exact a
theorem Sl.seenAt {w:Oc}{e:Pa}{b off n cap:Nat}{h:OC Nat}{l:Ob NL}(hs:Sl w e 3 (RO (some (Y b off)) n cap) h n (zU vG l))(r:Nat)(hr:r < l.length) :
  w.cell? (Y b (off+r * 3))=some (I l[r].uid)∧w.cell? (Y b (off+r * 3+1))=some (I l[r].id)∧w.cell? (Y b (off+r * 3+2))=some (I l[r].told)∧(∀j,w.frozen? (Y b (off+r * 3+j))=false):=by
 have d:l.length=n:=by
  have c:=hs.1
  rw[xW vH] at c
  omega
 rcases hs.2 with⟨_,hv,_⟩|⟨b',off',cap',cur,hh,hv,hB,hnc,hcm,hcs,ht⟩
 ·cases hv
 ·simp only[PH,Pk,Addr.mk.injEq,and_true,true_and] at hv
  obtain⟨⟨rfl,rfl⟩,rfl⟩:=hv
  have a:∀j,j < 3→w.cell? (Y b (off+r * 3+j))=(vG l[r])[j]?:=fun j hj=>by
   rw[hB.cell,←yv (enc:=vG) vH l r j hr hj,←ht,List.getElem?_take,OG O,List.getElem?_drop,O1]
   simp
  exact⟨a 0 O,a 1 O,a 2 O,fun j=>hB.frozen _⟩
theorem cR:∀{l m:Ob NL},l.Pairwise (fun a b=>a.uid < b.uid)→m.Pairwise (fun a b=>a.uid < b.uid)→(∀y,y∈l↔y∈m)→l=m
 |[],[],_,_,_=>rfl
 |[],y :: m,_,_,h=>pD
 |x :: l,[],_,_,h=>pE
 |x :: l,y :: m,hl,hm,h=>by
  obtain⟨a1,a2⟩:=Pc.1 hl
  obtain⟨b1,b2⟩:=Pc.1 hm
  have hxy:x=y:=by
   exact M9
  subst hxy
  rw[cR a2 b2 fun z=>?_]
  exact MG
def QR (x:Acc)(box:Int)(k:Nat):Ob NL:=((x.zC.take k).filterMap (Xz box)).map Ua
theorem cU (x:Acc)(box:Int)(k:Nat)(hk:k < x.zC.length):QR x box (k+1)=if yY x.zC[k].zr box=0 then QR x box k else QR x box k++[Ua (yY x.zC[k].zr box,x.zC[k])]:=by
 unfold QR
 rw[Oh hk,RG,OQ]
 by_cases a:yY x.zC[k].zr box=0
 ·rw[OG a]
  simp[Xz,a]
 ·rw[Om a]
  simp[Xz,a]
theorem CM {x:Acc}(h:NW x)(box:Int)(k:Nat)(hk:k < x.zC.length)(hu:yY x.zC[k].zr box≠0):∀y∈QR x box k,y.uid≠yY x.zC[k].zr box:=by
 intro y e d
 have b:=aF h box
 rw[←List.take_append_drop (k+1) x.zC,RG,OQ] at b
 have a:=(P6.1 b).1
 rw[Oh hk,RG,OQ] at a
 have c:=(P6.1 a).2.2
 obtain⟨z,f,rfl⟩:=OL.1 e
 exact c z.1 (OV f) (yY x.zC[k].zr box) (by simp[Xz,hu]) d
structure NR (x:Acc)(box:Int)(k:Nat)(ys:Ob NL):Prop where
 rise:ys.Pairwise fun a b=>a.uid < b.uid
 mem:∀y,y∈ys↔y∈QR x box k
theorem rD (x:Acc)(box:Int):NR x box 0 []:=⟨Rz,fun y=>by simp[QR]⟩
theorem NR.skip {x:Acc}{box:Int}{k:Nat}{ys:Ob NL}(h:NR x box k ys)(hk:k < x.zC.length)(hu:yY x.zC[k].zr box=0):NR x box (k+1) ys:=
 ⟨h.rise,fun y=>by rw[cU x box k hk,OG hu];exact h.mem y⟩
theorem NR.ins {x:Acc}{box:Int}{k p:Nat}{ys:Ob NL}(h:NR x box k ys)(hV:NW x)(hk:k < x.zC.length)(hu:yY x.zC[k].zr box≠0)(hp:p≤ys.length)(hhi:∀i (hi:i < ys.length),p≤i→yY x.zC[k].zr box < ys[i].uid)(hlo:∀h0:0 < p,ys[p - 1].uid≤yY x.zC[k].zr box) :
  NR x box (k+1) (ys.take p++Ua (yY x.zC[k].zr box,x.zC[k]) :: ys.drop p):=by
 have f:∀y∈ys,y.uid≠yY x.zC[k].zr box:=fun y g=>CM hV box k hk hu y ((h.mem y).1 g)
 have q:=PF.1 h.rise
 have e:∀y∈ys.take p,y.uid < yY x.zC[k].zr box:=by
  intro y g
  obtain⟨j,l,rfl⟩:=Pg g
  rw[OU] at l
  have m:j < ys.length:=O
  rw[RB]
  have o:=hlo O
  have c:ys[p - 1].uid≠yY x.zC[k].zr box:=f _ (Oj O)
  by_cases n:j=p - 1
  ·subst n
   omega
  ·have r:=q j (p - 1) m O O
   omega
 have d:∀y∈ys.drop p,yY x.zC[k].zr box < y.uid:=by
  intro y g
  obtain⟨j,l,rfl⟩:=Pg g
  rw[O8] at l
  rw[List.getElem_drop]
  exact hhi (p+j) O O
 refine⟨?_,fun y=>?_⟩
 ·rw[List.pairwise_append]
  refine⟨h.rise.sublist (List.take_sublist _ _),?_,fun a ha b hb=>?_⟩
  ·rw[Pc]
   exact⟨d,h.rise.sublist (List.drop_sublist _ _)⟩
  ·rcases OB.1 hb with rfl|hb
   ·exact e a ha
   ·have:=e a ha
    have:=d b hb
    omega
 ·rw[cU x box k hk,Om hu,OO,OO,OB,OI,←h.mem y]
  have o:y∈ys↔y∈ys.take p∨y∈ys.drop p:=by
   rw[←OO,List.take_append_drop]
  rw[o]
  constructor
  ·rintro(c|c|c)
   ·exact .inl (.inl c)
   ·exact .inr c
   ·exact .inl (.inr c)
  ·rintro((c|c)|c)
   ·exact .inl c
   ·exact .inr (.inr c)
   ·exact .inr (.inl c)
theorem NR.all {x:Acc}{box:Int}{ys:Ob NL}(h:NR x box x.zC.length ys)(hV:NW x):ys=(N9 x box).map Ua:=by
 refine cR h.rise ?_ fun y=>?_
 ·have a:=uW hV box
  rw[P0] at a ⊢
  exact a
 ·rw[h.mem y]
  unfold QR
  rw[Ou (Oq _)]
  exact((ZC _).map Ua).mem_iff.symm
theorem jS (x:Acc)(box:Int)(k:Nat):(QR x box k).length≤k:=by
 unfold QR
 rw[Ow]
 exact IE
theorem NR.len {x:Acc}{box:Int}{k:Nat}{ys:Ob NL}(h:NR x box k ys):ys.length≤k:=by
 have b:(ys.map (·.uid)).Nodup:=by
  rw[List.Nodup,P0]
  exact h.rise.imp fun hab=>O
 have a:=ui (ys.map (·.uid)) ((QR x box k).map (·.uid)) b fun u hu=>by
  obtain⟨y,c,rfl⟩:=OL.1 hu
  exact OV ((h.mem y).1 c)
 rw[Ow,Ow] at a
 exact Ol a (jS x box k)
end
end Go.Proofs.YtnofkliaofgiaaaGreatDoor
