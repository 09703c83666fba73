/-
  The walk of the laws' doOne: one act, by its number. What one act does to the plain account: it stays fit, and each act leaves it as it was or has its clock go on by one. What is too much to be played. A slice of acts that came in: their numbers, names, and what their slices of mailboxes and keywords read. The walks of the laws' Heavy and Config.
-/
import Derived.Test.YtfhlhdmhgheonaaGreatDoorGO
import Derived.Test.YtfhlhdmhgheonaaGreatDoorGN
import Derived.Test.YtfhlhdmhgheonaaGreatDoorGF
import Derived.Test.YtfhlhdmhgheonaaGreatDoorGX
import Derived.ProofKit
import Derived.Deep.SlicePairs
import Derived.Deep.QuietTactic
set_option maxRecDepth 100000
set_option maxHeartbeats 8000000
namespace Go.Proofs.YtfhlhdmhgheonaaGreatDoor
open Go.Shelf Go.RowKit
attribute [local go_sem ↓] Go.wp_at_zero Go.wp_at_succ
structure zcf where
 op:Int
 id:Int
 at_:Int
 name:Text
 boxes:List Int
 keys:zN
def doP (x:Acc)(a:zcf):Acc×Int:=
 if a.op=0 then ((vE zo x a.name a.at_).1,(vE zo x a.name a.at_).2.2)
 else if a.op=1 then zK zo x a.id a.name a.at_
 else if a.op=2 then xW x a.id
 else if a.op=3∨a.op=4∨a.op=5 then ((zq zO x a.boxes a.keys a.at_ a.name).1,(zq zO x a.boxes a.keys a.at_ a.name).2.2)
 else if a.op=6∨a.op=7 then xM x a.id a.keys
 else if a.op=8∨a.op=9 then yB x a.id a.boxes
 else if a.op=10 then yh x a.id
 else (x,0)
def PlaceOk:Prop:=∀(w:World) (g:Nat) (q:zl) (x:Acc) (id:Int) (bs:List Int) (vb:Value) (Sb:List Nat),zh w g q x→Fit x→RdS w Sb 1 vb bs.length (bs.map encI)→bs.length≤4294967296→
 Calls Tryz.prog 53 #[.pointer (some ⟨g,0,none⟩),.int .i64 id,vb] w (yu w g q (yB x id bs))
end Go.Proofs.YtfhlhdmhgheonaaGreatDoor
namespace Go.Proofs.YtfhlhdmhgheonaaGreatDoor
theorem zcy {x:Acc}(h:Fit x)(a:zcf):Fit (doP x a).1:=by
 unfold doP
 split
 ·exact zcP zo (fun _ h=>ZE h) h _ _
 split
 ·exact zat zo (fun _ h=>ZE h) h _ _ _
 split
 ·exact zc5 h _
 split
 ·exact Q6 zO h _ _ _ _ (Y5 _)
 split
 ·exact zdj h _ _ (Y5 _)
 split
 ·exact zb9 h _ _
 split
 ·exact Qx h _
 ·exact h
def Z8 (a:zcf):Bool:=decide (500 < a.name.length)||decide (20 < a.boxes.length)||decide (40 < a.keys.length)||a.keys.any fun k=>decide (100 < k.length)
def Zw (l:List zcf):Bool:=(l.take 60).any Z8||decide (60 < l.length)
theorem Xf {l:List zcf}(h:Zw l=false):l.length≤60∧∀a∈l,a.name.length≤500∧a.boxes.length≤20∧a.keys.length≤40∧∀k∈a.keys,k.length≤100:=by
 unfold Zw at h
 rw[Bool.or_eq_false_iff] at h
 obtain⟨d,e⟩:=h
 have c:l.length≤60:=by simpa using e
 refine⟨c,fun a ha=>?_⟩
 rw[List.take_of_length_le c] at d
 have b:=List.any_eq_false.1 d a ha
 unfold Z8 at b
 simp only[Bool.or_eq_true,decide_eq_true_eq,List.any_eq_true,not_or,not_exists,not_and] at b
 obtain⟨⟨⟨g,i⟩,j⟩,f⟩:=b
 exact⟨by omega,by omega,by omega,fun k hk=>by have:=f k hk;omega⟩
end Go.Proofs.YtfhlhdmhgheonaaGreatDoor
namespace Go.Proofs.YtfhlhdmhgheonaaGreatDoor
open Go.ChangeShapes Go.WideShapes Go.ChangeAt Go.RowKit
theorem zct {w:World}{a:Addr}{u:Value}(h:w.cell? (a.add 0)=some u):a.spot=none:=by
 have e:a.add 0=a:=by unfold Addr.add;simp
 rw[e] at h
 unfold World.cell? at h
 split at h
 ·cases b:a.spot with
  |none=>rfl
  |some q=>simp[b] at h
 ·cases h
structure zcg where
 p:zcf
 vb:Value
 vk:Value
instance:Inhabited zcg:=⟨⟨⟨0,0,0,[],[],[]⟩,.slice none 0 0,.slice none 0 0⟩⟩
def ZL (a:zcg):List Value:=[.int .i64 a.p.op,.int .i64 a.p.id,.int .i64 a.p.at_,.string ⟨a.p.name.toArray⟩,a.vb,a.vk]
theorem uO (a:zcg):(ZL a).length=6:=rfl
def ActR (w:World)(a:zcg):Prop:=RdS w [] 1 a.vb a.p.boxes.length (a.p.boxes.map encI)∧RdS w [] 1 a.vk a.p.keys.length (a.p.keys.map encStr)
section
variable {H:Type} {enc:TypeId×Value→H} {P:Program} {w:World} {base:Nat} {spare:Nat→Bool} {held:Bool}
theorem Vz {α:Type}[Inhabited α](encA:α→List Value)(Q:α→Prop){size:Nat}(hpos:0 < size)(hA:∀a,(encA a).length=size){t e:TypeId}(ht:P.underlying t=some (.slice e))(ce:P.cellsOf e=size)(hdec:∀(n:Nat) (cs:List Value) (x:DataW H×List MemPlace),cs.length=size→DataW.trod enc P w base spare held n e cs=some x→∃y,cs=encA y∧Q y){fuel:Nat}{v:Value}{x:DataW H×List MemPlace}(h:DataW.trod enc P w base spare held fuel t [v]=some x):∃(l:List α),RdS w [] size v l.length (zk encA l)∧∀y∈l,Q y:=by
 rcases Deep.open_slice ht h with⟨hcs,_⟩|⟨a,len,cap,m,n,D,Pl,hcs,_,hl,hm,hmm,_,hx⟩
 ·simp at hcs
  subst hcs
  exact⟨[],⟨by simp[zk],.inl ⟨rfl,rfl⟩⟩,by simp⟩
 ·simp at hcs
  subst hcs
  have F:len≤m:=by
   rw[hmm]
   split <;> omega
  have s:∀i,i < len→∃y:α,(∀j,j < size→w.cell? (a.add (i * size+j))=(encA y)[j]?)∧Q y:=fun i g=>by
   obtain⟨cs,q,z⟩:=hx i (by omega)
   rw[ce] at q
   obtain⟨_,c,d⟩:=World.cells?_some q
   obtain⟨y,rfl,G⟩:=hdec n cs _ c z
   refine⟨y,fun j hj=>?_,G⟩
   have o:=d j hj
   rw[Deep.add_add] at o
   exact o
  let f:Nat→α:=fun i=>if g:i < len then (s i g).choose else default
  have E:∀i (g:i < len),f i=(s i g).choose:=fun i g=>by simp only[f,dif_pos g]
  have c:((List.range len).map f).length=len:=by simp
  refine⟨(List.range len).map f,⟨by rw[yX hA],.inr ⟨a,cap,by rw[c],by rw[c];exact hl,hm,fun hp=>?_⟩⟩,fun y hy=>?_⟩
  ·rw[c] at hp ⊢
   have d:∀j,j < len * size→w.cell? (a.add j)=(zk encA ((List.range len).map f))[j]?:=fun j hj=>by
    have g:j / size < len:=(Nat.div_lt_iff_lt_mul hpos).2 hj
    have p:j % size < size:=Nat.mod_lt _ hpos
    have q:=(s (j / size) g).choose_spec.1 (j % size) p
    have z:=zy hA ((List.range len).map f) (j / size) (j % size) (by rw[c];exact g) p
    have o:j / size * size+j % size=j:=by
     rw[Nat.mul_comm]
     exact Nat.div_add_mod j size
    rw[o] at q z
    rw[q,z]
    simp only[List.getElem_map,List.getElem_range]
    rw[←E _ g]
   have A:0 < len * size:=Nat.mul_pos hp hpos
   have B:=d 0 A
   have C:(zk encA ((List.range len).map f))[0]?≠none:=by
    rw[Ne,List.getElem?_eq_none_iff,yX hA,c]
    omega
   obtain⟨u,I⟩:=Option.ne_none_iff_exists'.1 C
   rw[I] at B
   have k:a.spot=none:=zct B
   obtain⟨b,J,K⟩:=a
   simp only at k
   subst k
   have:=World.block_lt_of_cell? w _ B
   rw[Addr.add_lit] at this
   refine⟨rfl,this,by simp,fun j hj=>?_⟩
   have o:=d j hj
   rw[Addr.add_lit] at o
   exact o
  ·obtain⟨i,g,rfl⟩:=List.mem_map.1 hy
   have r:=List.mem_range.1 g
   rw[E i r]
   exact(s i r).choose_spec.2
theorem Qq {α:Type}(f:α→Value)(l:List α):zk (fun a=>[f a]) l=l.map f:=by
 induction l with
 |nil=>rfl
 |cons a r ih=>
  rw[vG,ih]
  rfl
theorem ints_in6 {t e:TypeId}(ht:P.underlying t=some (.slice e))(he:P.underlying e=some (.int .i64))(ce:P.cellsOf e=1){fuel:Nat}{v:Value}{x:DataW H×List MemPlace}(h:DataW.trod enc P w base spare held fuel t [v]=some x):∃l:List Int,RdS w [] 1 v l.length (l.map encI):=by
 obtain⟨l,a,_⟩:=Vz (size:=1) (fun y:Int=>[encI y]) (fun _=>True) (by omega) (fun _=>rfl) ht ce (fun n cs x hl h2=>by
  match cs,hl with
  |[u],_=>
   obtain⟨y,b,_,_⟩:=DataW.trod_int he h2
   simp at b
   exact⟨y,by rw[b],trivial⟩) h
 rw[Qq] at a
 exact⟨l,a⟩
theorem strs_in6 {t e:TypeId}(ht:P.underlying t=some (.slice e))(he:P.underlying e=some .string)(ce:P.cellsOf e=1){fuel:Nat}{v:Value}{x:DataW H×List MemPlace}(h:DataW.trod enc P w base spare held fuel t [v]=some x):∃l:zN,RdS w [] 1 v l.length (l.map encStr):=by
 obtain⟨l,a,_⟩:=Vz (size:=1) (fun y:List UInt8=>[encStr y]) (fun _=>True) (by omega) (fun _=>rfl) ht ce (fun n cs x hl h2=>by
  match cs,hl with
  |[u],_=>
   obtain⟨b,c,_⟩:=DataW.trod_string he h2
   simp at c
   exact⟨b.data.toList,by rw[c],trivial⟩) h
 rw[Qq] at a
 exact⟨l,a⟩
theorem act_in {e tb tk eb ek:TypeId}{f0 f1 f2 f3 f4 f5:Field}{n:Nat}{cs:List Value}{x:DataW H×List MemPlace}(he:P.underlying e=some (.struct #[f0,f1,f2,f3,f4,f5]))(hlen:cs.length=6)(o:(f0.offset=0∧f1.offset=1∧f2.offset=2∧f3.offset=3∧f4.offset=4∧f5.offset=5)∧(P.cellsOf f0.type=1∧P.cellsOf f1.type=1∧P.cellsOf f2.type=1∧P.cellsOf f3.type=1∧P.cellsOf f4.type=1∧P.cellsOf f5.type=1))(u0:P.underlying f0.type=some (.int .i64))(u1:P.underlying f1.type=some (.int .i64))(u2:P.underlying f2.type=some (.int .i64))(u3:P.underlying f3.type=some .string)(e4:f4.type=tb)(e5:f5.type=tk)(htb:P.underlying tb=some (.slice eb))(heb:P.underlying eb=some (.int .i64))(ceb:P.cellsOf eb=1)(htk:P.underlying tk=some (.slice ek))(hek:P.underlying ek=some .string)(cek:P.cellsOf ek=1)(h:DataW.trod enc P w base spare held n e cs=some x):∃y:zcg,cs=ZL y∧ActR w y:=by
 obtain⟨⟨r,s,t,u,v,z⟩,A,B,C,D,E,F⟩:=o
 obtain⟨G,k,S,I,_,d,a⟩:=DataW.trod_struct he h
 match cs,hlen with
 |[v0,v1,v2,v3,v4,v5],_=>
  have f:=a 0 f0 rfl
  have g:=a 1 f1 rfl
  have i:=a 2 f2 rfl
  have j:=a 3 f3 rfl
  have b:=a 4 f4 rfl
  have c:=a 5 f5 rfl
  match G,d with
  |[y0,y1,y2,y3,y4,y5],_=>
   simp[r,s,t,u,v,z,A,B,C,D,E,F] at f g i j b c
   obtain⟨J,l,_,_⟩:=DataW.trod_int u0 f
   obtain⟨K,m,_,_⟩:=DataW.trod_int u1 g
   obtain⟨L,p,_,_⟩:=DataW.trod_int u2 i
   obtain⟨M,q,_⟩:=DataW.trod_string u3 j
   rw[e4] at b
   rw[e5] at c
   obtain⟨N,O⟩:=ints_in6 htb heb ceb b
   obtain⟨Q,R⟩:=strs_in6 htk hek cek c
   simp at l m p q
   exact⟨⟨⟨J,K,L,M.data.toList,N,Q⟩,v4,v5⟩,by simp[ZL,l,m,p,q],O,R⟩
end
theorem zaf {H:Type}{enc:TypeId×Value→H}{w:World}{base:Nat}{spare:Nat→Bool}{held:Bool}{fuel:Nat}{v:Value}{x:DataW H×List MemPlace}(h:DataW.trod enc Tryz.prog w base spare held fuel 22 [v]=some x) :
  ∃l:List zcg,RdS w [] 6 v l.length (zk ZL l)∧∀a∈l,ActR w a:=
 Vz ZL (ActR w) (by omega) uO Tryz.underlying22 (by kernel_rfl) (fun n cs x hl h2=>
  act_in Tryz.underlying40 hl ⟨⟨rfl,rfl,rfl,rfl,rfl,rfl⟩,by kernel_rfl,by kernel_rfl,by kernel_rfl,by kernel_rfl,by kernel_rfl,by kernel_rfl⟩
   Tryz.underlying3 Tryz.underlying3 Tryz.underlying3 Tryz.underlying9 rfl rfl Tryz.underlying37 Tryz.underlying3 (by kernel_rfl) Tryz.underlying38 Tryz.underlying9 (by kernel_rfl) h2) h
end Go.Proofs.YtfhlhdmhgheonaaGreatDoor
namespace Go.Proofs.YtfhlhdmhgheonaaGreatDoor
open Go.Shelf Go.RowKit
attribute [local go_sem ↓] Go.wp_at_zero Go.wp_at_succ
theorem zbO {l:List zcf}{k:Nat}(hk:k < l.length)(h60:k < 60)(hg:Z8 l[k]=true):Zw l=true:=by
 unfold Zw
 rw[Bool.or_eq_true]
 left
 rw[List.any_eq_true]
 refine⟨l[k],?_,hg⟩
 have a:k < (l.take 60).length:=by rw[List.length_take];omega
 have b:(l.take 60)[k]=l[k]:=List.getElem_take
 rw[←b]
 exact List.getElem_mem a
theorem zbP {l:List zcf}(h:∀j (hj:j < l.length),j < 60→Z8 l[j]=false):Zw l=decide (60 < l.length):=by
 unfold Zw
 have b:(l.take 60).any Z8=false:=by
  rw[List.any_eq_false]
  intro a c
  obtain⟨j,hj,rfl⟩:=List.getElem_of_mem c
  rw[List.length_take] at hj
  rw[List.getElem_take,h j (by omega) (by omega)]
  simp
 rw[b,Bool.false_or]
theorem Vs (v:Value)(l:List zcg)(w:World)(hr:RdS w [] 6 v l.length (zk ZL l))(ha:∀a∈l,ActR w a) :
  Calls Tryz.prog 7 #[v] w fun e w'=>e=.returned (.bool (Zw (l.map (·.p))))∧Below w.heap.size w w':=by
 obtain⟨A,b9,hv,az,ba⟩:=hr.form
 subst hv
 obtain⟨n,C⟩:∃n,l.length=n:=⟨_,rfl⟩
 obtain⟨r,D⟩:∃r,Zw (l.map (·.p))=r:=⟨_,rfl⟩
 have I:∀k (hk:k < l.length),k < 60→Z8 l[k].p=true→r=true:=fun k hk o hg=>by
  rw[←D]
  exact zbO (k:=k) (by simpa using hk) o (by simpa using hg)
 have a0:(∀j (q:j < l.length),j < 60→Z8 l[j].p=false)→r=decide (60 < n):=fun h=>by
  rw[←D,zbP (fun j q h6=>by simpa using h j (by simpa using q) h6),List.length_map,C]
 have f:=zdG I
 have a1:=zdG a0
 have HR:=zdG hr
 have HA:=zdG ha
 have a2:=zdG C
 rw[C] at az ⊢
 rw[D]
 clear hr ha C D I a0
 go_enter Tryz.func7,Tryz.ntmps7
 go_wp2_with fail
 go_loopw [3] (fun iv wr=>∃k:Nat,k≤n∧k≤60∧iv=.int .i64 k∧Hid (∀j (q:j < l.length),j < k→Z8 l[j].p=false)∧Hid (Below w.heap.size w wr)) (fun iv _=>60 - (intOf iv).toNat)
 case atStart=>exact⟨0,Nat.zero_le _,by omega,rfl,zdG (fun _ _ h=>absurd h (by omega)),zdG (Below.refl _ _)⟩
 case round=>
  obtain⟨k,hk,bb,rfl,HG,O⟩:=hrel
  by_cases af:k < n
  ·have a3:(k:Int) < (n:Int):=by omega
   by_cases o:k < 60
   ·have a4:(k:Int) < 60:=by omega
    have i:k < l.length:=by rw[a2.out];exact af
    have b5:(0:Int)≤(k:Int):=by omega
    have b6:IntKind.i64.wrap ((k:Int)+1)=(k:Int)+1:=IntWalk.i64_in _ (by omega)
    obtain⟨a,E⟩:∃a,l[k]=a:=⟨_,rfl⟩
    obtain⟨P,Q,bc,ah,_,_,a',_,J⟩:=HR.out.at_ (by omega)
    have e1:=(Value.slice.inj ah).1
    subst e1
    have s:=HA.out l[k] (List.getElem_mem i)
    rw[E] at s
    obtain⟨⟨R,S,at_,F,T,c⟩,vb,vk⟩:=a
    obtain⟨Ab,cb,ai,_,_⟩:=s.1.form
    obtain⟨Ak,ck,aj,_,_⟩:=s.2.form
    simp only at ai aj
    subst ai aj
    have d:∀j,j < 6→wr.cell? ⟨P,Q+k * 6+j,none⟩=(ZL ⟨⟨R,S,at_,F,T,c⟩,.slice Ab T.length cb,.slice Ak c.length ck⟩)[j]?:=fun j q=>by
     rw[Nat.add_assoc]
     refine(O.out.cell a').trans ((J (k * 6+j) (by omega)).trans ?_)
     rw[zy uO l k j i q,E]
    obtain⟨U,V⟩:∃U,F.length=U:=⟨_,rfl⟩
    obtain⟨K,W⟩:∃K,T.length=K:=⟨_,rfl⟩
    obtain⟨g,G⟩:∃g,c.length=g:=⟨_,rfl⟩
    have p0:wr.cell? ⟨P,Q+k * 6,none⟩=some (.int .i64 R):=d 0 (by omega)
    have p1:wr.cell? ⟨P,Q+k * 6+1,none⟩=some (.int .i64 S):=d 1 (by omega)
    have p2:wr.cell? ⟨P,Q+k * 6+2,none⟩=some (.int .i64 at_):=d 2 (by omega)
    have p3:wr.cell? ⟨P,Q+k * 6+3,none⟩=some (.string ⟨F.toArray⟩):=d 3 (by omega)
    have p4:wr.cell? ⟨P,Q+k * 6+4,none⟩=some (.slice Ab T.length cb):=d 4 (by omega)
    have p5:wr.cell? ⟨P,Q+k * 6+5,none⟩=some (.slice Ak c.length ck):=d 5 (by omega)
    rw[W] at p4
    rw[G] at p5
    have a5:(⟨F.toArray⟩:ByteArray).size=U:=by rw[←V];simp[ByteArray.size]
    have al:=zdG a5
    have a6:Z8 (zcf.mk R S at_ F T c)=(decide (500 < U)||decide (20 < K)||decide (40 < g)||c.any fun k=>decide (100 < k.length)):=by
     rw[←V,←W,←G]
     rfl
    have y:=zdG a6
    have u:=zdG E
    have am:=zdG s
    have a7:=zdG G
    clear d J ah E a6 s V W G a5
    have hq:=al.out
    by_cases g1:500 < U
    ·have b:r=true:=f.out k i o (by rw[u.out,y.out];simp[g1])
     subst b
     have an:(500:Int) < (U:Int):=by omega
     go_wp2_with fail
     go_ret
     exact⟨rfl,za O.out (below_alloc1 _ _)⟩
    have an:¬(500:Int) < (U:Int):=by omega
    by_cases g2:20 < K
    ·have b:r=true:=f.out k i o (by rw[u.out,y.out];simp[g2])
     subst b
     have ao:(20:Int) < (K:Int):=by omega
     go_wp2_with fail
     go_ret
     exact⟨rfl,za O.out (below_alloc1 _ _)⟩
    have ao:¬(20:Int) < (K:Int):=by omega
    by_cases g3:40 < g
    ·have b:r=true:=f.out k i o (by rw[u.out,y.out];simp[g3])
     subst b
     have ap:(40:Int) < (g:Int):=by omega
     go_wp2_with fail
     go_ret
     exact⟨rfl,za O.out (below_alloc1 _ _)⟩
    have ap:¬(40:Int) < (g:Int):=by omega
    have a8:Hid (Z8 (zcf.mk R S at_ F T c)=c.any fun k=>decide (100 < k.length)):=zdG (by rw[y.out];simp[g1,g2,g3])
    go_upto_block 2 with(fail)
    obtain⟨Y,H⟩:∃Y:World,Y=wr.alloc (.cells #[.int .i64 R,.int .i64 S,.int .i64 at_,.string ⟨F.toArray⟩,.slice Ab K cb,.slice Ak g ck] 40):=⟨_,rfl⟩
    rw[←H]
    obtain⟨B,hB⟩:∃B,B=wr.heap.size:=⟨_,rfl⟩
    rw[←hB]
    have a9:Below w.heap.size w Y:=by rw[H];exact za O.out (below_alloc1 _ _)
    have aa:Blk Y B 40 #[.int .i64 R,.int .i64 S,.int .i64 at_,.string ⟨F.toArray⟩,.slice Ab K cb,.slice Ak g ck]:=by rw[H,hB];exact Blk.new _ _ _
    have z:=zdG a9
    have aq:=zdG aa
    clear H hB a9 aa p0 p1 p2 p3 p4 p5
    have d5:Y.cell? ⟨B,5,none⟩=some (.slice Ak g ck):=aq.out.cell 5
    go_wp2_with fail
    go_loopw [5] (fun jv wr=>∃j:Nat,j≤g∧jv=.int .i64 j∧Hid (∀t (Z:t < c.length),t < j→¬100 < c[t].length)∧wr=Y) (fun jv _=>g - (intOf jv).toNat)
    case atStart=>exact⟨0,Nat.zero_le _,rfl,zdG (fun _ _ h=>absurd h (by omega)),rfl⟩
    case round=>
     obtain⟨j,q,rfl,HT,b0⟩:=hrel
     subst b0
     by_cases ag:j < g
     ·have M:(j:Int) < (g:Int):=by omega
      have b7:(0:Int)≤(j:Int):=by omega
      have ab:j < c.length:=by rw[a7.out];exact ag
      have b8:IntKind.i64.wrap ((j:Int)+1)=(j:Int)+1:=IntWalk.i64_in _ (by omega)
      obtain⟨b2,o2,bd,ak,_,_,b3,_,L⟩:=am.out.2.at_ (by show 0 < c.length;omega)
      have e2:=(Value.slice.inj ak).1
      subst e2
      obtain⟨kt,X⟩:∃kt,c[j]=kt:=⟨_,rfl⟩
      obtain⟨m,hm⟩:∃m,kt.length=m:=⟨_,rfl⟩
      have q0:wr.cell? ⟨b2,o2+j,none⟩=some (.string ⟨kt.toArray⟩):=by
       refine(z.out.cell b3).trans ((L j (by show j < c.length * 1;omega)).trans ?_)
       show (c.map encStr)[j]?=_
       rw[List.getElem?_map,List.getElem?_eq_getElem ab,X]
       rfl
      have b4:(⟨kt.toArray⟩:ByteArray).size=m:=by rw[←hm];simp[ByteArray.size]
      have ac:=zdG X
      have HM:=zdG hm
      clear L ak X hm
      by_cases g4:100 < m
      ·have ar:(100:Int) < (m:Int):=by omega
       have b:r=true:=f.out k i o (by
        rw[u.out,a8.out,List.any_eq_true]
        exact⟨c[j],List.getElem_mem ab,by rw[ac.out,HM.out];simpa using g4⟩)
       subst b
       go_wp2_with fail
       go_ret
       exact⟨rfl,z.out⟩
      ·have ar:¬(100:Int) < (m:Int):=by omega
       have N:Hid (∀t (Z:t < c.length),t < j+1→¬100 < c[t].length):=zdG (fun t Z h=>by
        by_cases ax:t < j
        ·exact HT.out t Z ax
        ·obtain rfl:t=j:=by omega
         rw[ac.out,HM.out]
         exact g4)
       go_wp2_with fail
       refine⟨?_,by simp[intOf];omega⟩
       first|exact⟨j+1,by omega,by go_num,N,rfl⟩|((repeat apply Exists.intro);exact⟨⟨j+1,by omega,by go_num,N,rfl⟩,rfl⟩)|exact⟨j+1,by omega,by go_num,N,trivial⟩
     ·have M:¬(j:Int) < (g:Int):=by omega
      have au:Hid (Z8 (zcf.mk R S at_ F T c)=false):=zdG (by
       rw[a8.out,List.any_eq_false]
       intro x hx
       obtain⟨t,Z,rfl⟩:=List.getElem_of_mem hx
       have:=HT.out t Z (by rw[a7.out] at Z;omega)
       simpa using this)
      have ad:Hid (∀j (q:j < l.length),j < k+1→Z8 l[j].p=false):=zdG (fun j q h=>by
       by_cases ay:j < k
       ·exact HG.out j q ay
       ·obtain rfl:j=k:=by omega
        rw[u.out]
        exact au.out)
      go_wp2_with fail
      refine⟨?_,by simp[intOf];omega⟩
      first|exact⟨k+1,by omega,by omega,by go_num,ad,z⟩|((repeat apply Exists.intro);exact⟨⟨k+1,by omega,by omega,by go_num,ad,z⟩,rfl⟩)
   ·have ae:k=60:=by omega
    subst ae
    have a4:¬((60:Nat):Int) < 60:=by omega
    have av:(60:Int) < (n:Int):=by omega
    have b:r=true:=by
     rw[a1.out (fun j q h=>HG.out j q h)]
     exact decide_eq_true af
    subst b
    go_wp2_with fail
    go_ret
    exact⟨rfl,O.out⟩
  ·have aw:k=n:=by omega
   subst aw
   have a3:¬(k:Int) < (k:Int):=by omega
   have av:¬(60:Int) < (k:Int):=by omega
   have b:r=false:=by
    rw[a1.out (fun j q _=>HG.out j q (by have:=a2.out;omega))]
    exact decide_eq_false (by omega)
   subst b
   go_wp2_with fail
   go_ret
   exact⟨rfl,O.out⟩
theorem UH (a b c d e:Nat)(ha:a≤255)(hb:b≤255)(hc:c≤255)(hd:d≤255)(he:e≤255)(w:World) :
  Calls Tryz.prog 10 #[.int .u8 a,.int .u8 b,.int .u8 c,.int .u8 d,.int .u8 e] w fun e' w'=>e'=.returned (.agg #[.string ⟨#[117]⟩,.string ⟨#[112]⟩,.int .i64 (1+((a % 20:Nat):Int)),.int .i64 (1+((b % 8:Nat):Int)),.int .i64 4000,.int .i64 (1+((c % 40:Nat):Int)),.int .i64 (2+(d:Int)),.int .i64 (1+(e:Int)),.int .i64 50])∧Below w.heap.size w w':=by
 obtain⟨f,i⟩:∃f:Int,(1:Int)+(a:Int) % 20=f:=⟨_,rfl⟩
 obtain⟨g,j⟩:∃g:Int,(1:Int)+(b:Int) % 8=g:=⟨_,rfl⟩
 obtain⟨h,k⟩:∃h:Int,(1:Int)+(c:Int) % 40=h:=⟨_,rfl⟩
 obtain⟨l,m⟩:∃l:Int,(2:Int)+(d:Int)=l:=⟨_,rfl⟩
 obtain⟨n,o⟩:∃n:Int,(1:Int)+(e:Int)=n:=⟨_,rfl⟩
 have p:(1:Int)+((a % 20:Nat):Int)=f:=by rw[←i];rfl
 have q:(1:Int)+((b % 8:Nat):Int)=g:=by rw[←j];rfl
 have r:(1:Int)+((c % 40:Nat):Int)=h:=by rw[←k];rfl
 rw[p,q,r,m,o]
 clear p q r
 go_enter Tryz.func10,Tryz.ntmps10
 go_wp2_with fail
 refine bodyPost_ret (v:=.agg #[.string ⟨#[117]⟩,.string ⟨#[112]⟩,.int .i64 f,.int .i64 g,.int .i64 4000,.int .i64 h,.int .i64 l,.int .i64 n,.int .i64 50]) ?_ rfl ⟨rfl,?_⟩
 ·simp[results,Tryz.results10,go_sem]
 ·exact below_alloc1 w _
end Go.Proofs.YtfhlhdmhgheonaaGreatDoor
