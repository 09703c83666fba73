/-
  The walk of the laws' doOne: one act, by its number. What one act does to the plain account: it stays fit, and each act leaves it as it was or has its clock go on by one. What is too much to be played. A slice of acts that came in: their numbers, names, and what their slices of mailboxes and keywords read. The walks of the laws' Heavy and Config.
-/
import Derived.Test.YtnofkliaofgiaaaGreatDoorGO
import Derived.Test.YtnofkliaofgiaaaGreatDoorGN
import Derived.Test.YtnofkliaofgiaaaGreatDoorGF
import Derived.Test.YtnofkliaofgiaaaGreatDoorGX
import Derived.ProofKit
import Derived.Deep.SlicePairs
import Derived.Deep.QuietTactic
set_option maxRecDepth 100000
set_option maxHeartbeats 8000000
open Go.Proofs.Tryz
open Bool renaming or_eq_true→Rb
open Exists renaming intro→OA
open Go renaming Program→Pv,TypeId→Pa,Value→Oe,World→Oc
open Go.DataW renaming trod→Rw,trod_int→Ro
open Go.Ending renaming returned→RR
open Go.IntKind renaming i64→Ov
open Go.IntWalk renaming i64_in→Og
open Go.RowKit renaming Below→Od
open Go.RowKit.Below renaming refl→Ok
open Go.Value renaming slice→RO,string→RP
open Go.Value.slice renaming inj→OM
open Go.World renaming block_lt_of_cell?→OH
open List renaming any_eq_true→Ps,getElem?_eq_getElem→Ot,getElem?_map→O5,getElem_mem→Oj,getElem_of_mem→Pg,getElem_take→RB,length_map→Ow,length_take→OU,mem_map→OL,range→RJ,take_of_length_le→Ou
open Nat renaming add_assoc→O1,zero_le→OE
open _root_ renaming ByteArray→Oy,List→Ob,UInt8→Oz,decide_eq_false→OD,decide_eq_true→OS
namespace Go.Proofs.YtnofkliaofgiaaaGreatDoor
section
open Go.Shelf Go.RowKit
attribute [local go_sem ↓] Go.wp_at_zero Go.wp_at_succ
structure Uc where
 op:Int
 id:Int
 at_:Int
 name:yx
 zg:Ob Int
 keys:yF
def N5 (x:Acc)(a:Uc):Acc×Int:=
 if a.op=0 then ((ue zY x a.name a.at_).1,(ue zY x a.name a.at_).2.2)
 else if a.op=1 then yB zY x a.id a.name a.at_
 else if a.op=2 then vR x a.id
 else if a.op=3∨a.op=4∨a.op=5 then ((ya yL x a.zg a.keys a.at_ a.name).1,(ya yL x a.zg a.keys a.at_ a.name).2.2)
 else if a.op=6∨a.op=7 then vx x a.id a.keys
 else if a.op=8∨a.op=9 then xn x a.id a.zg
 else if a.op=10 then yQ x a.id
 else (x,0)
def PlaceOk:Prop:=∀(w:Oc) (g:Nat) (q:zW) (x:Acc) (id:Int) (bs:Ob Int) (vb:Oe) (Sb:Ob Nat),zH w g q x→Fit x→NN w Sb 1 vb bs.length (bs.map yJ)→bs.length≤4294967296→
 C 36 #[Y g 0,I id,vb] w (xJ w g q (xn x id bs))
end
section
theorem doP_fit {x:Acc}(h:Fit x)(a:Uc):Fit (N5 x a).1:=by
 unfold N5
 split
 ·exact CH zY (fun _ h=>Yc h) h _ _
 split
 ·exact nR zY (fun _ h=>Yc h) h _ _ _
 split
 ·exact AR h _
 split
 ·exact Qx yL h _ _ _ _ (Uu _)
 split
 ·exact B8 h _ _ (Uu _)
 split
 ·exact tL h _ _
 split
 ·exact JV h _
 ·exact h
theorem KF (x:Acc)(a:Uc):XG x (N5 x a).1 (N5 x a).2:=by
 unfold N5
 split
 ·exact tE zY x _ _
 split
 ·exact kJ zY x _ _ _
 split
 ·exact se x _
 split
 ·exact hZ yL x _ _ _ _
 split
 ·exact s7 x _ _
 split
 ·exact nD x _ _
 split
 ·exact eC x _
 ·exact .inl rfl
theorem AO {x:Acc}(h:Fit x)(a:Uc):NI x (N5 x a).1:=by
 unfold N5
 split
 ·exact CG zY x _ _
 split
 ·exact nQ zY (fun _ h=>Yc h) h _ _ _
 split
 ·exact AQ h _
 split
 ·exact mz yL h _ _ _ _
 split
 ·exact B7 h _ _
 split
 ·exact tK h _ _
 split
 ·exact iJ h _
 ·exact NI.refl x
def Xy (a:Uc):Bool:=decide (500 < a.name.length)||decide (20 < a.zg.length)||decide (40 < a.keys.length)||a.keys.any fun k=>decide (100 < k.length)
def Zq (l:Ob Uc):Bool:=(l.take 60).any Xy||decide (60 < l.length)
theorem XT {l:Ob Uc}(h:Zq l=false):l.length≤60∧∀a∈l,a.name.length≤500∧a.zg.length≤20∧a.keys.length≤40∧∀k∈a.keys,k.length≤100:=by
 unfold Zq at h
 rw[Bool.or_eq_false_iff] at h
 obtain⟨c,h2⟩:=h
 have d:l.length≤60:=V7
 refine⟨d,fun a ha=>?_⟩
 rw[Ou d] at c
 have b:=List.any_eq_false.1 c a ha
 unfold Xy at b
 simp only[Rb,decide_eq_true_eq,Ps,not_or,not_exists,not_and] at b
 obtain⟨⟨⟨f,g⟩,i⟩,e⟩:=b
 exact⟨O,O,O,fun k hk=>by have:=e k hk;omega⟩
end
section
open Go.ChangeShapes Go.WideShapes Go.ChangeAt Go.RowKit
theorem DM {w:Oc}{a:Addr}{u:Oe}(h:w.cell? (a.add 0)=some u):a.spot=none:=by
 have e:a.add 0=a:=by unfold Addr.add;simp
 rw[e] at h
 unfold World.cell? at h
 split at h
 ·cases b:a.spot with
  |none=>rfl
  |some q=>simp[b] at h
 ·cases h
structure gP where
 p:Uc
 vb:Oe
 vk:Oe
instance:Inhabited gP:=⟨⟨⟨0,0,0,[],[],[]⟩,RO none 0 0,RO none 0 0⟩⟩
def uQ (a:gP):Ob Oe:=[I a.p.op,I a.p.id,I a.p.at_,RP ⟨a.p.name.toArray⟩,a.vb,a.vk]
theorem Xc (a:gP):(uQ a).length=6:=rfl
def pX (w:Oc)(a:gP):Prop:=NN w [] 1 a.vb a.p.zg.length (a.p.zg.map yJ)∧NN w [] 1 a.vk a.p.keys.length (a.p.keys.map encStr)
section
variable {H:Type} {enc:Pa×Oe→H} {P:Pv} {w:Oc} {base:Nat} {spare:Nat→Bool} {held:Bool}
theorem Ut {α:Type}[Inhabited α](encA:α→Ob Oe)(Q:α→Prop){size:Nat}(hpos:0 < size)(hA:∀a,(encA a).length=size){t e:Pa}(ht:P.underlying t=some (.slice e))(ce:P.cellsOf e=size)(hdec:∀(n:Nat) (cs:Ob Oe) (x:DataW H×Ob MemPlace),cs.length=size→Rw enc P w base spare held n e cs=some x→∃y,cs=encA y∧Q y){fuel:Nat}{v:Oe}{x:DataW H×Ob MemPlace}(h:Rw enc P w base spare held fuel t [v]=some x):∃(l:Ob α),NN w [] size v l.length (zU encA l)∧∀y∈l,Q y:=by
 rcases Deep.open_slice ht h with⟨hcs,_⟩|⟨a,len,cap,m,n,D,Pl,hcs,_,hl,hm,hmm,_,hx⟩
 ·simp at hcs
  subst hcs
  exact⟨[],⟨X7,.inl ⟨rfl,rfl⟩⟩,zv⟩
 ·simp at hcs
  subst hcs
  have G:len≤m:=by
   rw[hmm]
   split <;> omega
  have z:∀i,i < len→∃y:α,(∀j,j < size→w.cell? (a.add (i * size+j))=(encA y)[j]?)∧Q y:=fun i g=>by
   obtain⟨cs,p,s⟩:=hx i O
   rw[ce] at p
   obtain⟨_,c,d⟩:=World.cells?_some p
   obtain⟨y,rfl,J⟩:=hdec n cs _ c s
   refine⟨y,fun j hj=>?_,J⟩
   have o:=d j hj
   rw[Deep.add_add] at o
   exact o
  let f:Nat→α:=fun i=>if g:i < len then (z i g).choose else default
  have F:∀i (g:i < len),f i=(z i g).choose:=fun i g=>by simp only[f,dif_pos g]
  have c:((RJ len).map f).length=len:=zv
  refine⟨(RJ len).map f,⟨by rw[xW hA],.inr ⟨a,cap,by rw[c],by rw[c];exact hl,hm,fun hp=>?_⟩⟩,fun y hy=>?_⟩
  ·rw[c] at hp ⊢
   have d:∀j,j < len * size→w.cell? (a.add j)=(zU encA ((RJ len).map f))[j]?:=fun j hj=>by
    have g:j / size < len:=(Nat.div_lt_iff_lt_mul hpos).2 hj
    have r:j % size < size:=Nat.mod_lt _ hpos
    have p:=(z (j / size) g).choose_spec.1 (j % size) r
    have s:=yv hA ((RJ len).map f) (j / size) (j % size) (by rw[c];exact g) r
    have o:j / size * size+j % size=j:=by
     rw[Nat.mul_comm]
     exact Nat.div_add_mod j size
    rw[o] at p s
    rw[p,s]
    simp only[List.getElem_map,List.getElem_range]
    rw[←F _ g]
   have B:0 < len * size:=Nat.mul_pos hp hpos
   have A:=d 0 B
   have E:(zU encA ((RJ len).map f))[0]?≠none:=by
    rw[Ne,List.getElem?_eq_none_iff,xW hA,c]
    omega
   obtain⟨u,K⟩:=Option.ne_none_iff_exists'.1 E
   rw[K] at A
   have k:a.spot=none:=DM A
   obtain⟨b,L,M⟩:=a
   simp only at k
   subst k
   have:=OH w _ A
   rw[Addr.add_lit] at this
   refine⟨rfl,this,zv,fun j hj=>?_⟩
   have o:=d j hj
   rw[Addr.add_lit] at o
   exact o
  ·obtain⟨i,g,rfl⟩:=OL.1 hy
   have q:=List.mem_range.1 g
   rw[F i q]
   exact(z i q).choose_spec.2
theorem iT {α:Type}(f:α→Oe)(l:Ob α):zU (fun a=>[f a]) l=l.map f:=by
 induction l with
 |nil=>rfl
 |cons a r ih=>
  rw[Zl,ih]
  rfl
theorem KZ {t e:Pa}(ht:P.underlying t=some (.slice e))(he:P.underlying e=some (.int .i64))(ce:P.cellsOf e=1){fuel:Nat}{v:Oe}{x:DataW H×Ob MemPlace}(h:Rw enc P w base spare held fuel t [v]=some x):∃l:Ob Int,NN w [] 1 v l.length (l.map yJ):=by
 obtain⟨l,a,_⟩:=Ut (size:=1) (fun y:Int=>[yJ y]) (fun _=>True) O (fun _=>rfl) ht ce (fun n cs x hl h2=>by
  match cs,hl with
  |[u],_=>
   obtain⟨y,b,_,_⟩:=Ro he h2
   simp at b
   exact⟨y,by rw[b],trivial⟩) h
 rw[iT] at a
 exact⟨l,a⟩
theorem Lt {t e:Pa}(ht:P.underlying t=some (.slice e))(he:P.underlying e=some .string)(ce:P.cellsOf e=1){fuel:Nat}{v:Oe}{x:DataW H×Ob MemPlace}(h:Rw enc P w base spare held fuel t [v]=some x):∃l:yF,NN w [] 1 v l.length (l.map encStr):=by
 obtain⟨l,a,_⟩:=Ut (size:=1) (fun y:Ob Oz=>[encStr y]) (fun _=>True) O (fun _=>rfl) ht ce (fun n cs x hl h2=>by
  match cs,hl with
  |[u],_=>
   obtain⟨b,c,_⟩:=DataW.trod_string he h2
   simp at c
   exact⟨b.data.toList,by rw[c],trivial⟩) h
 rw[iT] at a
 exact⟨l,a⟩
theorem LF {e tb tk eb ek:Pa}{f0 f1 f2 f3 f4 f5:Field}{n:Nat}{cs:Ob Oe}{x:DataW H×Ob MemPlace}(he:P.underlying e=some (.struct #[f0,f1,f2,f3,f4,f5]))(hlen:cs.length=6)(o:(f0.offset=0∧f1.offset=1∧f2.offset=2∧f3.offset=3∧f4.offset=4∧f5.offset=5)∧(P.cellsOf f0.type=1∧P.cellsOf f1.type=1∧P.cellsOf f2.type=1∧P.cellsOf f3.type=1∧P.cellsOf f4.type=1∧P.cellsOf f5.type=1))(u0:P.underlying f0.type=some (.int .i64))(u1:P.underlying f1.type=some (.int .i64))(u2:P.underlying f2.type=some (.int .i64))(u3:P.underlying f3.type=some .string)(e4:f4.type=tb)(e5:f5.type=tk)(htb:P.underlying tb=some (.slice eb))(heb:P.underlying eb=some (.int .i64))(ceb:P.cellsOf eb=1)(htk:P.underlying tk=some (.slice ek))(hek:P.underlying ek=some .string)(cek:P.cellsOf ek=1)(h:Rw enc P w base spare held n e cs=some x):∃y:gP,cs=uQ y∧pX w y:=by
 obtain⟨⟨M,N,Q,R,S,T⟩,z,A,B,D,E,F⟩:=o
 obtain⟨U,k,W,K,_,d,a⟩:=DataW.trod_struct he h
 match cs,hlen with
 |[v0,v1,v2,v3,v4,v5],_=>
  have l:=a 0 f0 rfl
  have m:=a 1 f1 rfl
  have p:=a 2 f2 rfl
  have q:=a 3 f3 rfl
  have b:=a 4 f4 rfl
  have c:=a 5 f5 rfl
  match U,d with
  |[y0,y1,y2,y3,y4,y5],_=>
   simp[M,N,Q,R,S,T,z,A,B,D,E,F] at l m p q b c
   obtain⟨r,f,_,_⟩:=Ro u0 l
   obtain⟨s,g,_,_⟩:=Ro u1 m
   obtain⟨t,i,_,_⟩:=Ro u2 p
   obtain⟨u,j,_⟩:=DataW.trod_string u3 q
   rw[e4] at b
   rw[e5] at c
   obtain⟨v,G⟩:=KZ htb heb ceb b
   obtain⟨L,J⟩:=Lt htk hek cek c
   simp at f g i j
   exact⟨⟨⟨r,s,t,u.data.toList,v,L⟩,v4,v5⟩,by simp[uQ,f,g,i,j],G,J⟩
end
theorem wW {H:Type}{enc:Pa×Oe→H}{w:Oc}{base:Nat}{spare:Nat→Bool}{held:Bool}{fuel:Nat}{v:Oe}{x:DataW H×Ob MemPlace}(h:Rw enc prog w base spare held fuel 22 [v]=some x) :
  ∃l:Ob gP,NN w [] 6 v l.length (zU uQ l)∧∀a∈l,pX w a:=
 Ut uQ (pX w) O Xc underlying22 zQ (fun n cs x hl h2=>
  LF underlying40 hl ⟨⟨rfl,rfl,rfl,rfl,rfl,rfl⟩,zQ,zQ,zQ,zQ,zQ,zQ⟩
   underlying3 underlying3 underlying3 underlying9 rfl rfl underlying35 underlying3 zQ underlying38 underlying9 zQ h2) h
end
section
open Go.Shelf Go.RowKit
attribute [local go_sem ↓] Go.wp_at_zero Go.wp_at_succ
theorem sU {l:Ob Uc}{k:Nat}(hk:k < l.length)(h60:k < 60)(hg:Xy l[k]=true):Zq l=true:=by
 unfold Zq
 rw[Rb]
 left
 rw[Ps]
 refine⟨l[k],?_,hg⟩
 have a:k < (l.take 60).length:=Zh
 have b:(l.take 60)[k]=l[k]:=RB
 rw[←b]
 exact Oj a
theorem sT {l:Ob Uc}(h:∀j (hj:j < l.length),j < 60→Xy l[j]=false):Zq l=decide (60 < l.length):=by
 unfold Zq
 have b:(l.take 60).any Xy=false:=by
  rw[List.any_eq_false]
  intro a c
  obtain⟨j,hj,rfl⟩:=Pg c
  rw[OU] at hj
  rw[RB,h j O O]
  simp
 rw[b,Bool.false_or]
theorem jB (v:Oe)(l:Ob gP)(w:Oc)(hr:NN w [] 6 v l.length (zU uQ l))(ha:∀a∈l,pX w a) :
  C 25 #[v] w fun e w'=>e=RR (.bool (Zq (l.map (·.p))))∧Od w w w':=by
 obtain⟨A,bc,hv,b6,bd⟩:=hr.form
 subst hv
 obtain⟨n,F⟩:∃n,l.length=n:=⟨_,rfl⟩
 obtain⟨r,G⟩:∃r,Zq (l.map (·.p))=r:=⟨_,rfl⟩
 have M:∀k (hk:k < l.length),k < 60→Xy l[k].p=true→r=true:=fun k hk i hg=>by
  rw[←G]
  exact sU (k:=k) yi i (by simpa using hg)
 have ad:(∀j (hj:j < l.length),j < 60→Xy l[j].p=false)→r=decide (60 < n):=fun h=>by
  rw[←G,sT (fun j hj h6=>by simpa using h j vL h6),Ow,F]
 have f:=V M
 have a4:=V ad
 have HR:=V hr
 have HA:=V ha
 have ai:=V F
 rw[F] at b6 ⊢
 rw[G]
 clear hr ha F G M ad
 go_enter func25,ntmps25
 go_wp2_with fail
 go_loopw [3] (fun iv wr=>∃k:Nat,k≤n∧k≤60∧iv=I k∧Z (∀j (hj:j < l.length),j < k→Xy l[j].p=false)∧Z (Od w w wr)) (fun iv _=>60 - (intOf iv).toNat)
 case atStart=>exact⟨0,OE _,O,rfl,V (fun _ _ h=>absurd h O),V (Ok _ _)⟩
 case round=>
  obtain⟨k,hk,bj,rfl,HG,HB⟩:=hrel
  by_cases af:k < n
  ·have ac:(k:Int) < (n:Int):=O
   by_cases i:k < 60
   ·have a5:(k:Int) < 60:=O
    have q:k < l.length:=vN
    have bi:(0:Int)≤(k:Int):=O
    have bk:Ov.wrap ((k:Int)+1)=(k:Int)+1:=Og _ O
    obtain⟨a,D⟩:∃a,l[k]=a:=⟨_,rfl⟩
    obtain⟨Q,o1,ba,ag,_,_,b4,_,K⟩:=HR.o.at_ O
    have e1:=(OM ag).1
    subst e1
    have u:=HA.o l[k] (Oj q)
    rw[D] at u
    obtain⟨⟨op,X,at_,J,R,c⟩,vb,vk⟩:=a
    obtain⟨Ab,cb,am,_,_⟩:=u.1.form
    obtain⟨Ak,ck,an,_,_⟩:=u.2.form
    simp only at am an
    subst am an
    have d:∀j,j < 6→wr.cell? (Y Q (o1+k * 6+j))=(uQ ⟨⟨op,X,at_,J,R,c⟩,RO Ab R.length cb,RO Ak c.length ck⟩)[j]?:=fun j hj=>by
     rw[O1]
     refine(HB.o.cell b4).trans ((K (k * 6+j) O).trans ?_)
     rw[yv Xc l k j q hj,D]
    obtain⟨n3,U⟩:∃n3,J.length=n3:=⟨_,rfl⟩
    obtain⟨N,W⟩:∃N,R.length=N:=⟨_,rfl⟩
    obtain⟨g,E⟩:∃g,c.length=g:=⟨_,rfl⟩
    have p0:wr.cell? (Y Q (o1+k * 6))=some (I op):=d 0 O
    have p1:wr.cell? (Y Q (o1+k * 6+1))=some (I X):=d 1 O
    have p2:wr.cell? (Y Q (o1+k * 6+2))=some (I at_):=d 2 O
    have p3:wr.cell? (Y Q (o1+k * 6+3))=some (RP ⟨J.toArray⟩):=d 3 O
    have p4:wr.cell? (Y Q (o1+k * 6+4))=some (RO Ab R.length cb):=d 4 O
    have p5:wr.cell? (Y Q (o1+k * 6+5))=some (RO Ak c.length ck):=d 5 O
    rw[W] at p4
    rw[E] at p5
    have ae:(⟨J.toArray⟩:Oy).size=n3:=by rw[←U];simp[ByteArray.size]
    have ar:=V ae
    have a8:Xy (Uc.mk op X at_ J R c)=(decide (500 < n3)||decide (20 < N)||decide (40 < g)||c.any fun k=>decide (100 < k.length)):=by
     rw[←U,←W,←E]
     rfl
    have z:=V a8
    have s:=V D
    have ao:=V u
    have a3:=V E
    clear d K ag D a8 u U W E ae
    have hq:=ar.o
    by_cases g1:500 < n3
    ·have b:r=true:=f.o k q i (by rw[s.o,z.o];simp[g1])
     subst b
     have au:(500:Int) < (n3:Int):=O
     exact pw
    have au:¬(500:Int) < (n3:Int):=O
    by_cases g2:20 < N
    ·have b:r=true:=f.o k q i (by rw[s.o,z.o];simp[g2])
     subst b
     have av:(20:Int) < (N:Int):=O
     exact pw
    have av:¬(20:Int) < (N:Int):=O
    by_cases g3:40 < g
    ·have b:r=true:=f.o k q i (by rw[s.o,z.o];simp[g3])
     subst b
     have aw:(40:Int) < (g:Int):=O
     exact pw
    have aw:¬(40:Int) < (g:Int):=O
    have a1:Z (Xy (Uc.mk op X at_ J R c)=c.any fun k=>decide (100 < k.length)):=V (by rw[z.o];simp[g1,g2,g3])
    go_upto_block 2 with(fail)
    obtain⟨w1,H⟩:∃w1:Oc,w1=wr.alloc (.cells #[I op,I X,I at_,Oa J,RO Ab N cb,RO Ak g ck] 40):=⟨_,rfl⟩
    rw[←H]
    obtain⟨B,hB⟩:∃B,B=wr.heap.size:=⟨_,rfl⟩
    rw[←hB]
    have a6:Od w w w1:=by rw[H];exact zj HB.o (zt _ _)
    have a7:NG w1 B 40 #[I op,I X,I at_,Oa J,RO Ab N cb,RO Ak g ck]:=by rw[H,hB];exact NG.new _ _ _
    have y:=V a6
    have ap:=V a7
    clear H hB a6 a7 p0 p1 p2 p3 p4 p5
    have d5:w1.cell? (Y B 5)=some (RO Ak g ck):=ap.o.cell 5
    go_wp2_with fail
    go_loopw [5] (fun jv wr=>∃j:Nat,j≤g∧jv=I j∧Z (∀t (ht:t < c.length),t < j→¬100 < c[t].length)∧wr=w1) (fun jv _=>g - (intOf jv).toNat)
    case atStart=>exact⟨0,OE _,rfl,V (fun _ _ h=>absurd h O),rfl⟩
    case round=>
     obtain⟨j,hj,rfl,HT,b8⟩:=hrel
     subst b8
     by_cases ab:j < g
     ·have T:(j:Int) < (g:Int):=O
      have be:(0:Int)≤(j:Int):=O
      have a9:j < c.length:=by rw[a3.o];exact ab
      have bh:Ov.wrap ((j:Int)+1)=(j:Int)+1:=Og _ O
      obtain⟨b2,o2,bb,al,_,_,b5,_,L⟩:=ao.o.2.at_ (by show 0 < c.length;omega)
      have e2:=(OM al).1
      subst e2
      obtain⟨kt,S⟩:∃kt,c[j]=kt:=⟨_,rfl⟩
      obtain⟨m,hm⟩:∃m,kt.length=m:=⟨_,rfl⟩
      have q0:wr.cell? (Y b2 (o2+j))=some (RP ⟨kt.toArray⟩):=by
       refine(y.o.cell b5).trans ((L j (by show j < c.length * 1;omega)).trans ?_)
       show (c.map encStr)[j]?=_
       rw[O5,Ot a9,S]
       rfl
      have b9:(⟨kt.toArray⟩:Oy).size=m:=by rw[←hm];simp[ByteArray.size]
      have a2:=V S
      have HM:=V hm
      clear L al S hm
      by_cases g4:100 < m
      ·have az:(100:Int) < (m:Int):=O
       have b:r=true:=f.o k q i (by
        rw[s.o,a1.o,Ps]
        exact⟨c[j],Oj a9,by rw[a2.o,HM.o];simpa using g4⟩)
       subst b
       go_wp2_with fail
       go_ret
       exact⟨rfl,y.o⟩
      ·have az:¬(100:Int) < (m:Int):=O
       have P:Z (∀t (ht:t < c.length),t < j+1→¬100 < c[t].length):=V (fun t ht h=>by
        by_cases b7:t < j
        ·exact HT.o t ht b7
        ·obtain rfl:t=j:=O
         rw[a2.o,HM.o]
         exact g4)
       go_wp2_with fail
       refine⟨?_,zV⟩
       first|exact⟨j+1,O,zE,P,rfl⟩|((repeat apply OA);exact⟨⟨j+1,O,zE,P,rfl⟩,rfl⟩)|exact⟨j+1,O,zE,P,trivial⟩
     ·have T:¬(j:Int) < (g:Int):=O
      have aq:Z (Xy (Uc.mk op X at_ J R c)=false):=V (by
       rw[a1.o,List.any_eq_false]
       intro x hx
       obtain⟨t,ht,rfl⟩:=Pg hx
       have:=HT.o t ht (by rw[a3.o] at ht;omega)
       simpa using this)
      have a0:Z (∀j (hj:j < l.length),j < k+1→Xy l[j].p=false):=V (fun j hj h=>by
       by_cases b0:j < k
       ·exact HG.o j hj b0
       ·obtain rfl:j=k:=O
        rw[s.o]
        exact aq.o)
      go_wp2_with fail
      refine⟨?_,zV⟩
      first|exact⟨k+1,O,O,zE,a0,y⟩|((repeat apply OA);exact⟨⟨k+1,O,O,zE,a0,y⟩,rfl⟩)
   ·have aa:k=60:=O
    subst aa
    have a5:¬((60:Nat):Int) < 60:=O
    have a':(60:Int) < (n:Int):=O
    have b:r=true:=by
     rw[a4.o (fun j hj h=>HG.o j hj h)]
     exact OS af
    subst b
    go_wp2_with fail
    go_ret
    exact⟨rfl,HB.o⟩
  ·have b3:k=n:=O
   subst b3
   have ac:¬(k:Int) < (k:Int):=O
   have a':¬(60:Int) < (k:Int):=O
   have b:r=false:=by
    rw[a4.o (fun j hj _=>HG.o j hj (by have:=ai.o;omega))]
    exact OD O
   subst b
   go_wp2_with fail
   go_ret
   exact⟨rfl,HB.o⟩
end
end Go.Proofs.YtnofkliaofgiaaaGreatDoor
