/-
  What the view's laws share: an account and a view of the law's own, and what acts and updates do to them; begun without acts; the example. The walk of the view laws' example.
-/
import Derived.Test.YtnofkliaofgiaaaGreatDoorGVF
import Derived.Test.YtnofkliaofgiaaaGreatDoorGVD
import Derived.Test.YtnofkliaofgiaaaGreatDoorGVA
import Derived.Test.YtnofkliaofgiaaaGreatDoorGNS
import Derived.Test.YtnofkliaofgiaaaGreatDoorGH
import Derived.Test.YtnofkliaofgiaaaGreatDoorGF
set_option maxRecDepth 100000
set_option maxHeartbeats 8000000
open Go.Proofs.Tryz
open Go renaming World→Oc
open Go.Ending renaming returned→RR
open Go.RowKit renaming Below→Od
open Go.Value renaming slice→RO,string→RP
open List renaming length_map→Ow,mem_map→OL,mem_singleton→OI
open List.Perm renaming refl→Rp
open Nat renaming le_trans→Ol
open UInt8 renaming ofNat→OW
open _root_ renaming List→Ob
namespace Go.Proofs.YtnofkliaofgiaaaGreatDoor
open Go.Shelf Go.RowKit Go.Lib
attribute [local go_sem ↓] Go.wp_at_zero Go.wp_at_succ
theorem Fit.J9 {x:Acc}(h:Fit x):Qt x:=by
 have a:=h.nm
 have b:=h.zA
 have c:=h.N3.mod
 exact⟨O,fun m hm=>⟨by have:=(h.mail m hm).keys;omega,by have:=h.lW hm;omega⟩⟩
theorem AC (w:Oc):C 7 #[RO none 0 0] w fun e w'=>∃g q g2,e=RR (.tuple #[Y g 0,Y g2 0])∧yP w w' g q (Yt YK):=by
 have y:=fun W=>rH W
 have v:=fun W=>rh 1000 100 1048576 1073741824 1073741824 10000 200 Zu Zu Zu Zu Zu Zu Zu W
 have x:=fun W=>dH [117] [112] zD zD 1000 100 1048576 1073741824 1073741824 10000 200 7 O (fun j hj=>by
  have:j=0∨j=1∨j=2∨j=3∨j=4∨j=5∨j=6:=O
  rcases this with rfl|rfl|rfl|rfl|rfl|rfl|rfl <;> (unfold lim;decide)) (fun h=>by omega) true zD W
 have c:=fun W n=>Zd W n
 have u:=V y
 have z:=V v
 have B:=V x
 have s:=V c
 clear y v x c
 go_enter func7,ntmps7
 go_wp2_with (first
  |(go_at_call 27;refine(z.o _).mono ?_;rintro e D ⟨g,q,rfl,l⟩;have A:=V l;clear l)
  |(go_at_call 29;refine(B.o _).mono ?_;rintro e E ⟨l,_⟩;obtain⟨g2,F,rfl,m⟩:=l rfl;have a:=V (A.o.later (zj r.o m.below));clear m l)
  |(go_at_call 28;with_reducible refine(u.o D).mono ?_;rintro e H ⟨rfl,f⟩;have r:=V f;clear f)
  |(go_at_call 28;with_reducible refine(u.o w).mono ?_;rintro e G ⟨rfl,d⟩;have b:=V d;clear d)
  |(go_at_call 9;refine(s.o _ _).mono ?_;rintro e J ⟨rfl,rfl⟩)
  |fail)
 have t:Z (yP w E g q (Yt YK)):=V ⟨a.o.at_,zj b.o a.o.below,fun k hk=>Ol b.o.size (a.o.own k hk)⟩
 go_loopw [8] (fun i wr=>i=I 0∧Z (yP w wr g q (Yt YK))) (fun _ _=>0)
 case atStart=>exact⟨rfl,t⟩
 case round=>
  obtain⟨rfl,p⟩:=hrel
  go_wp2_with fail
  go_ret2
  first|exact⟨g,q,g2,rfl,p.o⟩|exact⟨g,⟨g2,rfl⟩,q,p.o⟩|exact⟨g,g2,rfl,q,p.o⟩|exact⟨g,q,p.o⟩
structure Ki (ms:Ob zR):Prop where
 one:∀m∈ms,m.zr=[(1,m.id)]
 keys:∀m∈ms,m.keys.length≤100∧∀s∈m.keys,s.length≤300
 num:∀m∈ms,m.id≤4294967296∧m.mod≤4294967296
 rising:(ms.map (·.id)).Pairwise (· < ·)
 few:ms.length≤1000
section
variable {w wr:Oc} {g gv:Nat} {q:zW} {x:Acc} {qv:xa} {v:yI} {ms:Ob zR}
theorem Ki.N8 (h:Ki ms):∀z∈gT ms,NY z:=fun z hz=>by
 obtain⟨m,hm,rfl⟩:=OL.1 hz
 obtain⟨h1,h2⟩:=h.num m hm
 obtain⟨h3,h4⟩:=h.keys m hm
 exact⟨Int.le_trans h1 zD,Int.le_trans h2 zD,h3,h4⟩
theorem Ki.rise (h:Ki ms):((gT ms).map (·.1)).Pairwise (· < ·):=by
 have e:(gT ms).map (·.1)=ms.map (·.id):=by simp[gT]
 rw[e]
 exact h.rising
theorem Ki.len (h:Ki ms):(gT ms).length≤1000:=by
 unfold gT
 rw[Ow]
 exact h.few
theorem oK (hO:yP w wr g q x)(hf:Fit x)(hV:xN w wr gv qv v)(hx:x.zC=ms)(hm:Ki ms)(hb:v.box=1)(hl:v.l.length≤1000)(hu:∀m∈v.l,m.uid≤4294967296)(ht:Vm w)(all:Bool) :
  C 12 #[Y gv 0,Y g 0,.bool all] wr fun e w'=>e=RR (RP ⟨(yH yq (gT ms) v all).1.toArray⟩)∧∃qv',yP w w' g q x∧xN w w' gv qv' (yH yq (gT ms) v all).2:=by
 have b:=hm.len
 have a:UpIn wr w.heap.size g q x gv qv v (gT ms):=⟨hO.at_,hf.J9,hV.at_,O,by rw[hx,hb,Ji hm.one];exact Rp _,hm.rise,O,hm.N8,fun m hm2=>Int.le_trans (hu m hm2) zD,hO.below.size,hV.own,fun W hW=>ht.later (hO.below.trans hW)⟩
 refine(Jm wr w.heap.size g q x gv qv v (gT ms) all a).mono ?_
 rintro e w' ⟨rfl,qv',c⟩
 exact⟨rfl,qv',hO.viewed hV c,hV.turned hO.below.size c⟩
theorem new_law (hO:yP w wr g q x)(hf:Fit x)(hx:x.zC=ms)(hm:Ki ms)(hbx:zZ x.zg 1=true) :
  C 8 #[Y g 0,I 1] wr fun e w'=>∃gv qv,e=RR (.tuple #[Y gv 0,I 0])∧yP w w' g q x∧xN w w' gv qv (jV 1 (gT ms)):=by
 have a:=hm.len
 have d:=hf.nb
 have f:=hf.zA
 have h:=hf.N3.mod
 refine(VO wr g q x hO.at_ hf.J9 O 1 hbx (gT ms) (by rw[hx,Ji hm.one];exact Rp _) hm.rise O).mono ?_
 rintro e w' ⟨gv,qv,rfl,b,c⟩
 exact⟨gv,qv,rfl,hO.later c,⟨b.at_,fun k hk=>Ol hO.below.size (b.own k hk)⟩⟩
def Acted (w wr:Oc)(g:Nat)(x':Acc)(w':Oc):Prop:=∃q',yP w w' g q' x'∧∀gv qv v,xN w wr gv qv v→xN w w' gv qv v
theorem rR (hO:yP w wr g q x)(hf:Fit x)(t:yx)(ht:t.length≤1099511627776){x':Acc}{i:Int}(hp:ya yL x [1] [] 0 t=(x',i,0)) :
  C 26 #[Y g 0,RO (some (Y wr.heap.size 0)) 1 1,RO none 0 0,I 0,Oa t] (wr.alloc (.cells #[I 1] 3)) fun e w'=>e=RR (.tuple #[I i,I 0])∧Acted w wr g x' w':=by
 have b:=VH _ g q x [1] _ [] [] _ [] 0 t (one_in hO.at_ hf t ht)
 rw[hp] at b
 refine b.mono ?_
 rintro e w' ⟨rfl,d,c⟩
 have a:=zt wr (.cells #[I 1] 3)
 exact⟨rfl,d,(hO.later a).turned c,fun gv qv v hV=>(hV.later a).stored (hO.later a).at_ c⟩
end
theorem ra:Ki []:=⟨zv,zv,zv,zv,zv⟩
theorem KD {n:Int}(h:0≤n)(h2:n < 10):XD n=[OW (48+n.toNat)]:=by
 unfold XD
 rw[Lib.decDigits_one O]
theorem Kn.has {x:Acc}{k c:Nat}{ms:Ob zR}(h:Kn x k c ms):zZ x.zg 1=true:=by
 obtain⟨b,d,a,_⟩:=h.zg
 rw[d]
 simp[zZ,a]
theorem rb (t:yx)(i c:Nat)(h1:i≤4294967296)(h2:c≤4294967296):Ki [Vo t i c]:=by
 refine⟨fun m hm=>?_,fun m hm=>?_,fun m hm=>?_,zv,zv⟩ <;> rw[OI.1 hm]
 ·rfl
 ·exact⟨by simp[Vo],by simp[Vo]⟩
 ·exact⟨by show (i:Int)≤_;omega,by show (c:Int)≤_;omega⟩
def awV:yI:=⟨1,[⟨1,1,2⟩],1⟩
def awT:yx:=[42,32,49,32,69,88,73,83,84,83,13,10]
theorem aw_u0:yH yq (gT []) ⟨1,[],0⟩ true=([],⟨1,[],0⟩):=Qe yq zv zv (by simp[gT])
theorem aw_u1:yH yq (gT [Vo [97] 1 2]) ⟨1,[],0⟩ true=(awT,awV):=by
 have h:=oL yq (zs:=[]) (z:=((1:Int),Vo [97] 1 2)) (v:=⟨1,[],0⟩) zv zv zD
 have e:gT [Vo [97] 1 2]=[]++[((1:Int),Vo [97] 1 2)]:=rfl
 rw[e,h]
 have a:XD 1=[49]:=KD O O
 simp[YF,VT,xS,awT,awV,UV,a,Vo,List.filter]
 decide
theorem aw_u2:yH yq (gT [Vo [97] 1 2]) awV true=([],awV):=by
 refine Qe yq (fun m hm=>?_) (fun _ m hm=>?_) (fun z hz=>?_)
 ·rw[show awV.l=[⟨1,1,2⟩] from rfl,OI] at hm
  rw[hm]
  exact .inr ⟨(1,Vo [97] 1 2),zD,zD⟩
 ·rw[show awV.l=[⟨1,1,2⟩] from rfl,OI] at hm
  rw[hm]
  decide
 ·rw[show gT [Vo [97] 1 2]=[((1:Int),Vo [97] 1 2)] from rfl,OI] at hz
  rw[hz]
  decide
theorem bY (w:Oc)(ht:Vm w):C 6 #[] w fun e w'=>e=RR (.bool true)∧Od w w w':=by
 obtain⟨u,p,f⟩:=UT.app [97] rfl headF_a O O
 have i:u.zC=[Vo [97] 1 2]:=f.zC
 have k:=AC w
 have n:∀wr g q,yP w wr g q (Yt YK)→C 8 #[Y g 0,I 1] wr fun e w'=>∃a d,e=RR (.tuple #[Y a 0,I 0])∧yP w w' g q (Yt YK)∧xN w w' a d ⟨1,[],0⟩:=fun wr g q hO=>new_law hO UT.fit rfl ra UT.has
 have r:∀wr g q a d,yP w wr g q (Yt YK)→xN w wr a d ⟨1,[],0⟩→C 12 #[Y a 0,Y g 0,.bool true] wr fun e w'=>e=RR (RP ⟨#[]⟩)∧∃qv',yP w w' g q (Yt YK)∧xN w w' a qv' ⟨1,[],0⟩:=fun wr g q a d hO hV=>by
  have h:=oK hO UT.fit hV (ms:=[]) rfl ra rfl zv zv ht true
  rw[aw_u0] at h
  exact h
 have j:∀wr g q,yP w wr g q (Yt YK)→_:=fun wr g q hO=>rR hO UT.fit [97] zD p
 have s:∀wr g q a d,yP w wr g q u→xN w wr a d ⟨1,[],0⟩→C 12 #[Y a 0,Y g 0,.bool true] wr fun e w'=>e=RR (RP ⟨#[42,32,49,32,69,88,73,83,84,83,13,10]⟩)∧∃qv',yP w w' g q u∧xN w w' a qv' awV:=fun wr g q a d hO hV=>by
  have h:=oK hO f.fit hV (ms:=[Vo [97] 1 2]) i (rb _ _ _ O O) rfl zv zv ht true
  rw[aw_u1] at h
  exact h
 have t:∀wr g q a d,yP w wr g q u→xN w wr a d awV→C 12 #[Y a 0,Y g 0,.bool true] wr fun e w'=>e=RR (RP ⟨#[]⟩)∧∃qv',yP w w' g q u∧xN w w' a qv' awV:=fun wr g q a d hO hV=>by
  have h:=oK hO f.fit hV (ms:=[Vo [97] 1 2]) i (rb _ _ _ O O) rfl zD (fun m hm=>by rw[show awV.l=[⟨1,1,2⟩] from rfl,OI] at hm;rw[hm];decide) ht true
  rw[aw_u2] at h
  exact h
 have y:=V n
 have G:=V r
 have v:=V j
 have H:=V s
 have J:=V t
 have x:=V k
 clear n r j s t p f i k ht
 go_enter func6,ntmps6
 go_wp2_with (first
  |(go_at_call 7;refine x.o.mono ?_;rintro e U ⟨g,q,S,rfl,b⟩;have z:=V b;clear b)
  |(go_at_call 8;refine(y.o _ _ _ z.o).mono ?_;rintro e W ⟨a,d,rfl,b,c⟩;have A:=V b;have K:=V c;clear b c)
  |(go_at_call 9;refine(Zd _ _).mono ?_;rintro e wn ⟨rfl,rfl⟩)
  |(go_at_call 26;refine(v.o _ _ _ B.o).mono ?_;rintro e w4 ⟨rfl,T,b,c⟩;have D:=V b;have M:=V (c _ _ _ L.o);clear b c)
  |(go_at_call 12;refine(J.o _ _ _ _ _ E.o N.o).mono ?_;rintro e w6 ⟨rfl,R,b,c⟩;have F:=V b;clear b c)
  |(go_at_call 12;refine(H.o _ _ _ _ _ D.o M.o).mono ?_;rintro e w5 ⟨rfl,Q,b,c⟩;have E:=V b;have N:=V c;clear b c)
  |(go_at_call 12;refine(G.o _ _ _ _ _ A.o K.o).mono ?_;rintro e X ⟨rfl,P,b,c⟩;have B:=V b;have L:=V c;clear b c)
  |fail)
 go_ret
 exact⟨rfl,F.o.below⟩
end Go.Proofs.YtnofkliaofgiaaaGreatDoor
