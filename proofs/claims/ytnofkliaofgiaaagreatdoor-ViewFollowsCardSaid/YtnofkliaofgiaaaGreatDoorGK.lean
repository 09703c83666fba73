/-
  The walk of the store's Keys: what it hands back, and the account behind it, are keysP's.
-/
import Derived.Test.YtnofkliaofgiaaaGreatDoorGF
import Derived.Test.YtnofkliaofgiaaaGreatDoorGD
import Derived.Test.YtnofkliaofgiaaaGreatDoorGC
set_option maxRecDepth 100000
set_option maxHeartbeats 8000000
open Go.Proofs.Tryz
open Go renaming Value→Oe,World→Oc
open Go.Ending renaming returned→RR
open Go.RowKit renaming Below→Od
open Go.RowKit.Below renaming refl→Ok
open Go.Value renaming slice→RO,string→RP
open List renaming find?_cons_of_neg→Pb,getElem_mem→Oj,getElem_set_self→Ph,length_set→Pd,map_cons→OY,mem_cons→OB,mem_map_of_mem→OV
open Nat renaming le_refl→Oq,le_trans→Ol
open _root_ renaming List→Ob,decide_eq_false→OD,decide_eq_true→OS,if_neg→Om,if_pos→OG
namespace Go.Proofs.YtnofkliaofgiaaaGreatDoor
open Go.Shelf Go.RowKit
attribute [local go_sem ↓] Go.wp_at_zero Go.wp_at_succ
theorem YI:∀{l:Ob xd} {id:Int},id∈Zb (l.map (·.p))→∃k,∃hk:k < l.length,yU (fun m:xd=>decide (m.p.id=id)) l=(k:Int)∧Z4 id (l.map (·.p))=(k:Int)∧l[k].p.id=id∧(∀f,xz id f (l.map (·.p))=(l.map (·.p)).set k (f l[k].p))∧(l.map (·.p)).find? (fun m=>decide (m.id=id))=some l[k].p
 |[],id,h=>by simp[Zb] at h
 |b :: r,id,h=>by
  by_cases hb:b.p.id=id
  ·exact⟨0,zv,by simp[yU,hb],by simp[Z4,yU,hb],hb,fun f=>by simp[xz,hb],by simp[hb]⟩
  ·have h':id∈Zb (r.map (·.p)):=by
    simp only[Zb,OY,OB] at h
    rcases h with h|h
    ·exact absurd h.symm hb
    ·exact h
   obtain⟨k,hk,e,d,g,i,j⟩:=YI h'
   have a:¬decide (b.p.id=id)=true:=xQ
   refine⟨k+1,yi,?_,?_,g,fun f=>?_,?_⟩
   ·unfold yU
    rw[Om a,e,Om O]
    omega
   ·have c:yU (fun m:zR=>decide (m.id=id)) (r.map (·.p))=k:=d
    unfold Z4
    rw[OY]
    unfold yU
    rw[Om a,c,Om O]
    omega
   ·simp only[OY,xz,Om hb,i f,List.set_cons_succ,List.getElem_cons_succ]
   ·rw[OY,Pb xQ]
    exact j
theorem Uw:∀{l:Ob xd} {id:Int},id∉Zb (l.map (·.p))→yU (fun m:xd=>decide (m.p.id=id)) l= -1∧(l.map (·.p)).find? (fun m=>decide (m.id=id))=none
 |[],id,_=>⟨rfl,rfl⟩
 |b :: r,id,h=>by
  simp only[Zb,OY,OB,not_or] at h
  obtain⟨h1,h2⟩:=h
  obtain⟨h3,h4⟩:=Uw (l:=r) (id:=id) h2
  have hb':¬decide (b.p.id=id)=true:=by simpa using fun e=>h1 e.symm
  refine⟨?_,?_⟩
  ·unfold yU
   rw[Om hb',h3]
   rfl
  ·have a:decide (b.p.id=id)=false:=by simpa using hb'
   simp only[OY,List.find?_cons,a]
   exact h4
theorem Uu (l:yF):(yz l).1.length≤16:=by
 unfold yz
 split
 ·simp
 ·split
  ·simp
  ·simp only
   omega
def xJ (w:Oc)(g:Nat)(q:zW)(r:Acc×Int)(e:Ending)(w':Oc):Prop:=e=RR (I r.2)∧∃q',zL w w' g q r.1 q'
structure gX (w:Oc)(g:Nat)(q:zW)(x:Acc)(ks:yF)(vk:Oe)(Sk:Ob Nat):Prop where
 at_:zH w g q x
 fit:Fit x
 keys:NN w Sk 1 vk ks.length (ks.map encStr)
 nk:ks.length≤1099511627776
 short:dX ks
section
variable {w:Oc} {g:Nat} {q:zW} {x:Acc} {ks:yF} {vk:Oe} {Sk:Ob Nat}
theorem zH.mc (h:zH w g q x)(hf:Fit x)(id:Int):C 87 #[Y g 0,I id] w fun e w'=>e=RR (I (yU (fun m=>decide (m.p.id=id)) q.ms))∧Od w w w':=by
 have a:=h.XC
 have b:=hf.nm
 have c:=hf.zA
 have d:=hf.N3.mod
 refine Lb g q.vm [] q.ms id w h.xj ?_ O
 rw[a]
 exact h.zC.reads [] zv
theorem gX.kc (h:gX w g q x ks vk Sk)(W:Oc)(hb:Od w w W):C 69 #[vk] W fun e w'=>∃A cap hh,e=RR (.tuple #[RO A (yz ks).1.length cap,I (yz ks).2])∧Sl w' 9 1 (RO A (yz ks).1.length cap) hh (yz ks).1.length ((yz ks).1.map encStr)∧Od W W w'∧∀b,hh=some b→W.heap.size≤b:=
 qV W vk ks.length ks rfl h.nk ((h.keys.below hb).sub (fun _ _ _ hm=>by cases hm)) h.short
end
theorem Cl (w:Oc)(g:Nat)(q:zW)(x:Acc)(id:Int)(ks:yF)(vk:Oe)(Sk:Ob Nat)(h:gX w g q x ks vk Sk)(hno:id∉Zb x.zC) :
  C 35 #[Y g 0,I id,vk] w (xJ w g q (vx x id ks)):=by
 have a:id∉Zb (q.ms.map (·.p)):=by rw[h.at_.same];exact hno
 obtain⟨j,i⟩:=Uw a
 rw[h.at_.same] at i
 have b:vx x id ks=(x,6):=by
  unfold vx VN
  rw[i]
 rw[b]
 have d:=h.at_.mc h.fit id
 rw[j] at d
 have H:=V h
 clear hno a j i b h
 go_enter func35,ntmps35
 go_wp2_with (first
  |(go_at_call 87;refine d.mono ?_;rintro e k ⟨rfl,c⟩;have f:=V c;clear c)
  |fail)
 go_ret
 exact⟨rfl,q,zL.of_below H.o.at_ f.o⟩
theorem K7 (w:Oc)(g:Nat)(q:zW)(x:Acc)(id:Int)(ks:yF)(vk:Oe)(Sk:Ob Nat)(h:gX w g q x ks vk Sk)(i:Nat)(hi:i < q.ms.length)(hpl:yU (fun m:xd=>decide (m.p.id=id)) q.ms=(i:Int))(hfi:x.zC.find? (fun m=>decide (m.id=id))=some q.ms[i].p)(hke:(yz ks).2≠0) :
  C 35 #[Y g 0,I id,vk] w (xJ w g q (vx x id ks)):=by
 have b:vx x id ks=(x,(yz ks).2):=by
  unfold vx VN
  rw[hfi]
  simp only
  rw[OG hke]
 rw[b]
 have d:=h.at_.mc h.fit id
 rw[hpl] at d
 have a:=h.kc
 obtain⟨A,z,k,_,_⟩:=h.keys.form
 rw[k] at a ⊢
 have H:=V h
 generalize yz ks=kf at a hke ⊢
 obtain⟨E,u⟩:=kf
 simp only at a hke ⊢
 have r:=V a
 have D:(u==0)=false:=by simpa using hke
 have t:¬(i:Int) < 0:=O
 clear b hpl hfi k a h hke
 go_enter func35,ntmps35
 go_wp2_with (first
  |(go_at_call 87;refine d.mono ?_;rintro e v ⟨rfl,c⟩;have j:=r.o v c;have l:=V c;clear c d)
  |(go_at_call 69;refine j.mono ?_;rintro e F ⟨y,B,s,rfl,_,f,_⟩;have n:=V (zj l.o f);clear j f)
  |fail)
 go_ret
 exact⟨rfl,q,zL.of_below H.o.at_ n.o⟩
theorem Cp (w:Oc)(g:Nat)(q:zW)(x:Acc)(id:Int)(ks:yF)(vk:Oe)(Sk:Ob Nat)(h:gX w g q x ks vk Sk)(i:Nat)(hi:i < q.ms.length)(hpl:yU (fun m:xd=>decide (m.p.id=id)) q.ms=(i:Int))(hfi:x.zC.find? (fun m=>decide (m.id=id))=some q.ms[i].p)(hke:(yz ks).2=0)(hsame:(yz ks).1=q.ms[i].p.keys) :
  C 35 #[Y g 0,I id,vk] w (xJ w g q (vx x id ks)):=by
 have L:i < x.zC.length:=by rw[←h.at_.XC];exact hi
 obtain⟨b,y,a0,hv,an,a3,am,J,f⟩:=h.at_.ud i L hi
 have uz:=h.at_.parts _ (Oj hi)
 obtain⟨d,hm0⟩:∃d,q.ms[i]=d:=⟨_,rfl⟩
 rw[hm0] at f uz hfi
 obtain⟨z,E,E8,_,_⟩:=uz.keys.form
 obtain⟨a6,al,Q,_,_⟩:=uz.mem.form
 have s:=h.at_.mc h.fit id
 rw[hpl] at s
 have c:=h.kc
 obtain⟨A,ca,R,_,_⟩:=h.keys.form
 rw[R] at c ⊢
 have D:w.cell? (Y g 11)=some (RO (some (Y b y)) x.zC.length a0):=h.at_.xj.trans (by rw[hv])
 have e4:w.cell? (Y b (y+i * 8+4))=some (RO z d.p.keys.length E):=((f 4 O).1).trans (by rw[←E8];rfl)
 have P:∀W,Od w w W→NN W [] 1 (RO z d.p.keys.length E) d.p.keys.length (d.p.keys.map encStr):=fun W hb=>by
  exact py
 have a4:d.p.keys.length≤16:=(h.fit.mail d.p Jy).keys
 have t:d.p∈x.zC:=Jy
 have a5:=h.fit.lW t
 have ac:=V t
 have a1:=h.at_.blk.lt
 obtain⟨n,u⟩:∃n,x.zC.length=n:=⟨_,rfl⟩
 rw[u] at D L a3
 have ao:(i:Int) < (n:Int):=O
 have ap:(0:Int)≤(i:Int):=O
 have aq:¬(i:Int) < 0:=O
 have H:=V h
 have X:=V P
 have HV:=V hv
 have a7:=V f
 have aa:=V hm0
 have ae:=V uz
 have ad:=V u
 have ab:=V Q
 have a9:=V E8
 rw[hm0] at hsame
 have j:vx x id ks=(x,0):=by
  unfold vx VN
  rw[hfi]
  simp only
  rw[Om (by rw[hke];decide),OG hsame]
 rw[j]
 have N:(yz ks).1.length≤16:=Uu ks
 generalize yz ks=kf at c hke N hsame
 obtain⟨kl,ke⟩:=kf
 simp only at c hke N hsame
 subst hke
 have U:=V c
 have k:=V hsame
 clear j hfi hsame
 clear t hpl c P hv f hm0 uz u R E8 Q h
 go_enter func35,ntmps35
 go_wp2_with (first
  |(go_at_call 87;refine s.mono ?_;rintro e w1 ⟨rfl,l⟩;have M:=U.o w1 l;have B:=V l;clear l s)
  |(go_at_call 69;refine M.mono ?_;rintro e w2 ⟨Ak,ck,a2,rfl,v,G,K⟩;have a:=zj B.o G;have ar:=(a.cell (p:=⟨g,11,none⟩) a1).trans D;have k4:=(a.cell (p:=⟨b,y+i * 8+4,none⟩) J).trans e4;have r:=U1 w2 _ _ [] [] kl d.p.keys (v.reads [] zv) (X.o w2 a) O O;rw[OS k.o] at r;have ag:=V v;have T:=V a;have a8:Z (∀b,a2=some b→w.heap.size≤b):=V (fun b hb=>Ol B.o.size (K b hb));clear M G v K a)
  |(go_at_call 88;refine r.mono ?_;rintro e w3 ⟨rfl,F⟩;have S:=V (zj T.o F);clear r F)
  |fail)
 go_ret
 exact⟨rfl,q,zL.of_below H.o.at_ S.o⟩
theorem B9 (w:Oc)(g:Nat)(q:zW)(x:Acc)(id:Int)(ks:yF)(vk:Oe)(Sk:Ob Nat)(h:gX w g q x ks vk Sk)(i:Nat)(hi:i < q.ms.length)(hpl:yU (fun m:xd=>decide (m.p.id=id)) q.ms=(i:Int))(hfi:x.zC.find? (fun m=>decide (m.id=id))=some q.ms[i].p)(hke:(yz ks).2=0)(hsame:¬(yz ks).1=q.ms[i].p.keys)(hen:x.N3.ym≤x.zA) :
  C 35 #[Y g 0,I id,vk] w (xJ w g q (vx x id ks)):=by
 have L:i < x.zC.length:=by rw[←h.at_.XC];exact hi
 obtain⟨b,y,X,hv,am,a2,al,J,f⟩:=h.at_.ud i L hi
 have uz:=h.at_.parts _ (Oj hi)
 obtain⟨d,hm0⟩:∃d,q.ms[i]=d:=⟨_,rfl⟩
 rw[hm0] at f uz hfi
 obtain⟨z,E,E8,_,_⟩:=uz.keys.form
 obtain⟨a5,ag,Q,_,_⟩:=uz.mem.form
 have s:=h.at_.mc h.fit id
 rw[hpl] at s
 have c:=h.kc
 obtain⟨A,ca,R,_,_⟩:=h.keys.form
 rw[R] at c ⊢
 have D:w.cell? (Y g 11)=some (RO (some (Y b y)) x.zC.length X):=h.at_.xj.trans (by rw[hv])
 have e4:w.cell? (Y b (y+i * 8+4))=some (RO z d.p.keys.length E):=((f 4 O).1).trans (by rw[←E8];rfl)
 have P:∀W,Od w w W→NN W [] 1 (RO z d.p.keys.length E) d.p.keys.length (d.p.keys.map encStr):=fun W hb=>by
  exact py
 have a3:d.p.keys.length≤16:=(h.fit.mail d.p Jy).keys
 have t:d.p∈x.zC:=Jy
 have a4:=h.fit.lW t
 have ab:=V t
 have a0:=h.at_.blk.lt
 obtain⟨n,u⟩:∃n,x.zC.length=n:=⟨_,rfl⟩
 rw[u] at D L a2
 have an:(i:Int) < (n:Int):=O
 have ao:(0:Int)≤(i:Int):=O
 have ap:¬(i:Int) < 0:=O
 have H:=V h
 have U:=V P
 have HV:=V hv
 have a6:=V f
 have a9:=V hm0
 have ad:=V uz
 have ac:=V u
 have aa:=V Q
 have a8:=V E8
 rw[hm0] at hsame
 have j:vx x id ks=(x,11):=by
  unfold vx VN
  rw[hfi]
  simp only
  rw[Om (by rw[hke];decide),Om hsame,OG Va]
 rw[j]
 have N:(yz ks).1.length≤16:=Uu ks
 generalize yz ks=kf at c hke N hsame
 obtain⟨kl,ke⟩:=kf
 simp only at c hke N hsame
 subst hke
 have T:=V c
 clear j hfi
 clear t hpl c P hv f hm0 uz u R E8 Q h
 go_enter func35,ntmps35
 go_wp2_with (first
  |(go_at_call 87;refine s.mono ?_;rintro e w1 ⟨rfl,l⟩;have M:=T.o w1 l;have B:=V l;clear l s)
  |(go_at_call 69;refine M.mono ?_;rintro e w2 ⟨Ak,ck,a1,rfl,v,G,K⟩;have a:=zj B.o G;have aq:=(a.cell (p:=⟨g,11,none⟩) a0).trans D;have k4:=(a.cell (p:=⟨b,y+i * 8+4,none⟩) J).trans e4;have r:=U1 w2 _ _ [] [] kl d.p.keys (v.reads [] zv) (U.o w2 a) O O;rw[OD hsame] at r;have ae:=V v;have S:=V a;have a7:Z (∀b,a1=some b→w.heap.size≤b):=V (fun b hb=>Ol B.o.size (K b hb));clear M G v K a)
  |(go_at_call 88;refine r.mono ?_;rintro e w3 ⟨rfl,F⟩;have k:=V (zj S.o F);have c6:w3.cell? (Y g 6)=some (I x.N3.ym):=(H.o.at_.later k.o).cells 6;have c9:=(H.o.at_.later k.o).vF;clear r F)
  |(go_at_call 71;refine(vQ g x.zA x.N3.ym _ ((yD (w:=w3) zF _).trans c9) ((yD (w:=w3) zF _).trans c6)).mono ?_;rintro e w4 ⟨rfl,ne,rfl⟩)
  |fail)
 go_ret
 exact⟨rfl,q,(zL.of_below H.o.at_ k.o).yO (zO (Ok _ _) _)⟩
theorem keys_ok (w:Oc)(g:Nat)(q:zW)(x:Acc)(id:Int)(ks:yF)(vk:Oe)(Sk:Ob Nat)(h:gX w g q x ks vk Sk)(i:Nat)(hi:i < q.ms.length)(hpl:yU (fun m:xd=>decide (m.p.id=id)) q.ms=(i:Int))(hfi:x.zC.find? (fun m=>decide (m.id=id))=some q.ms[i].p)(hke:(yz ks).2=0)(hsame:¬(yz ks).1=q.ms[i].p.keys)(hen:¬x.N3.ym≤x.zA)(hset:∀f,xz id f x.zC=x.zC.set i (f q.ms[i].p)) :
  C 35 #[Y g 0,I id,vk] w (xJ w g q (vx x id ks)):=by
 have Fb:i < x.zC.length:=by rw[←h.at_.XC];exact hi
 obtain⟨b,off,cap,hv,de,d8,dd,c,a3⟩:=h.at_.ud i Fb hi
 have uz:=h.at_.parts _ (Oj hi)
 obtain⟨a,hm0⟩:∃a,q.ms[i]=a:=⟨_,rfl⟩
 rw[hm0] at a3 uz hfi
 obtain⟨t,u,E8,_,_⟩:=uz.keys.form
 obtain⟨bi,bw,ch,_,_⟩:=uz.mem.form
 have ap:=h.at_.mc h.fit id
 rw[hpl] at ap
 have S:=h.kc
 obtain⟨A,ca,co,_,_⟩:=h.keys.form
 rw[co] at S ⊢
 have ad:w.cell? (Y g 11)=some (RO (some (Y b off)) x.zC.length cap):=h.at_.xj.trans (by rw[hv])
 have e4:w.cell? (Y b (off+i * 8+4))=some (RO t a.p.keys.length u):=((a3 4 O).1).trans (by rw[←E8];rfl)
 have cf:∀W,Od w w W→NN W [] 1 (RO t a.p.keys.length u) a.p.keys.length (a.p.keys.map encStr):=fun W hb=>by
  exact py
 have da:a.p.keys.length≤16:=(h.fit.mail a.p Jy).keys
 have ar:a.p∈x.zC:=Jy
 have ci:=h.fit.lW ar
 have d0:=V ar
 have cb:=h.at_.blk.lt
 obtain⟨n,au⟩:∃n,x.zC.length=n:=⟨_,rfl⟩
 rw[au] at ad Fb d8
 have df:(i:Int) < (n:Int):=O
 have dg:(0:Int)≤(i:Int):=O
 have dj:¬(i:Int) < 0:=O
 have H:=V h
 have cz:=V cf
 have HV:=V hv
 have db:=V a3
 have M:=V hm0
 have d2:=V uz
 have ai:=V au
 have y8:=V ch
 have c':=V E8
 rw[hm0] at hsame hset
 obtain⟨rr,aw⟩:∃rr,vx x id ks=rr:=⟨_,rfl⟩
 rw[aw]
 obtain⟨l,R⟩:∃l,l=if decide (YY∈(yz ks).1)≠decide (YY∈a.p.keys) then x9 a.p.zr else []:=⟨_,rfl⟩
 have E:rr=({x with zA:=x.zA+1,zg:=zI (x.zA+1) (rise l) x.zg,zC:=x.zC.set i {a.p with keys:=(yz ks).1,mod:=x.zA+1},log:=x.log.add (zX (x.zA+1) (rise l)++[⟨x.zA+1,2,id,2⟩])},0):=by
  rw[←aw]
  unfold vx VN
  rw[hfi]
  simp only
  rw[Om (by rw[hke];decide),Om hsame,Om Jz,hset,R]
  by_cases hs:decide (YY∈(yz ks).1)=decide (YY∈a.p.keys)
  ·rw[Om (by simpa using hs),Om (by simpa using hs)]
   rfl
  ·rw[OG hs,OG hs]
   rfl
 have ce:(yz ks).1.length≤16:=Uu ks
 generalize yz ks=kf at S hke ce hsame E R
 obtain⟨r,ke⟩:=kf
 simp only at S hke ce hsame E R
 subst hke
 have cy:=V S
 have bp:=V E
 have cx:=V R
 have dc:=H.o.fit.zA
 have dk:=H.o.fit.N3.mod
 clear E aw hset hfi R
 clear ar hpl S cf hv a3 hm0 uz au co E8 ch h
 go_enter func35,ntmps35
 go_upto_region 15 with(first
  |(go_at_call 87;refine ap.mono ?_;rintro e w1 ⟨rfl,al⟩;have cd:=cy.o w1 al;have bj:=V al;clear al ap)
  |(go_at_call 69;refine cd.mono ?_;rintro e w2 ⟨Ak,ck,ao,rfl,ba,c0,c7⟩;have Q:=zj bj.o c0;have dl:=(Q.cell (p:=⟨g,11,none⟩) cb).trans ad;have k4:=(Q.cell (p:=⟨b,off+i * 8+4,none⟩) c).trans e4;have an:=U1 w2 _ _ [] [] r a.p.keys (ba.reads [] zv) (cz.o w2 Q) O O;rw[OD hsame] at an;have bs:=V ba;have cs:=V Q;have bm:Z (∀b,ao=some b→w.heap.size≤b):=V (fun b hb=>Ol bj.o.size (c7 b hb));clear cd c0 ba c7 Q)
  |(go_at_call 88;refine an.mono ?_;rintro e w3 ⟨rfl,y⟩;have ac:=V (zj cs.o y);have c6:w3.cell? (Y g 6)=some (I x.N3.ym):=(H.o.at_.later ac.o).cells 6;have c9:=(H.o.at_.later ac.o).vF;have bt:=V (bs.o.keep (fun b hb=>y.block b (bs.o.lt b hb)));clear an y)
  |(go_at_call 71;refine(vQ g x.zA x.N3.ym _ ((yD (w:=w3) zF _).trans c9) ((yD (w:=w3) zF _).trans c6)).mono ?_;rintro e w4 ⟨rfl,ne,rfl⟩;have am:=(zj ac.o (zO (Ok w3.heap.size w3) ne));have H5:=V (H.o.at_.later am);have ab:=YA g x.zA _ H5.o.vF (H5.o.frozen 9) O;have cr:=V am;clear am)
  |(go_at_call 74;refine ab.mono ?_;rintro e w6 ⟨rfl,bc⟩;have t6:=H5.o.vn 9 (I (x.zA+1)) {x with zA:=x.zA+1} rfl rfl rfl rfl;rw[←bc] at t6;have d9:=t6.at_.xj;rw[HV.o,ai.o] at d9;have N:Z (Sl w6 9 1 (RO Ak r.length ck) ao r.length (r.map encStr)):=V (by rw[bc];exact(bt.o.heap zF).far (p:=⟨g,9,none⟩) (fun e=>absurd (bm.o g e) O) _);have T6:=V ((zL.of_below H.o.at_ cr.o).trans t6);clear ab bc t6)
  |fail)
 clear c6 c9 ad e4 cb c
 go_upto_region 16 with(fail)
 obtain⟨s1,az⟩:∃s1,decide (YY∈r)=s1:=⟨_,rfl⟩
 obtain⟨s2,a'⟩:∃s2,decide (YY∈a.p.keys)=s2:=⟨_,rfl⟩
 have aa:l=if s1=s2 then [] else x9 a.p.zr:=by
  rw[cx.o,az,a']
  cases s1 <;> cases s2 <;> rfl
 have X:=T6.o.at_
 obtain⟨b',cq,bv,a0,_,_,_,c,D⟩:=X.ud i aX hi
 rw[HV.o] at a0
 injection a0 with hv1 _ hv3
 injection hv1 with hv1
 injection hv1 with hv1 hv2
 subst hv1 hv2 hv3
 rw[M.o] at D
 have av:xB w6 (q.own g) a:=by
  rw[←M.o]
  exact X.parts _ (Oj hi)
 have T:a.kv=RO t a.p.keys.length u:=by
  have h1:=d2.o.keys
  exact c'.o
 have a4:w6.cell? (Y b (off+i * 8+4))=some (RO t a.p.keys.length u):=((D 4 O).1).trans (by rw[←T];rfl)
 have c2:∀W,W.heap=w6.heap→C 89 #[RO Ak r.length ck,RP ⟨#[36,115,101,101,110]⟩] W fun e w'=>e=RR (.bool s1)∧W=w':=fun W he=>by
  rw[←az]
  exact qN W _ [] r YY ((N.o.heap he).reads [] zv) O
 have c3:∀W,W.heap=w6.heap→C 89 #[RO t a.p.keys.length u,RP ⟨#[36,115,101,101,110]⟩] W fun e w'=>e=RR (.bool s2)∧W=w':=fun W he=>by
  rw[←a',←T]
  exact qN W _ (q.own g) a.p.keys YY (av.keys.keep (Nat.le_of_eq (by rw[he])) (fun b _ _=>by rw[he]) (fun _ _ h=>h)) O
 have ct:=V c2
 have cu:=V c3
 have B:=V aa
 have k:=V D
 have d3:=V av
 clear c2 c3 aa D av X az a' T
 go_cut [58] (fun v wx=>∃bd:Bool,v=.bool bd∧Z (bd=(s1 !=s2))∧Z (Od w6 w6 wx))
 case first=>
  cases s1 <;> cases s2
  all_goals
   go_region_with (first
    |(go_at_call 89;refine(ct.o _ zF).mono ?_;rintro e K ⟨rfl,rfl⟩)
    |(go_at_call 89;refine(cu.o _ zF).mono ?_;rintro e K ⟨rfl,rfl⟩)
    |fail)
   all_goals
    go_wp2_with fail
    go_meet
    exact⟨_,rfl,V rfl,V ⟨rfl,rfl,rfl,Oq _,fun _ _=>rfl⟩⟩
 case rest=>
  obtain⟨bd,rfl,bk,d⟩:=hcut
  obtain⟨K,rfl⟩:∃K:Oc,K=wc:=⟨_,rfl⟩
  have b0:K.cell? (Y b (off+i * 8))=some (I a.p.id):=(d.o.cell c).trans (k.o 0 O).1
  have b1:K.cell? (Y b (off+i * 8+1))=some (I a.p.thread):=(d.o.cell c).trans (k.o 1 O).1
  have b2:K.cell? (Y b (off+i * 8+2))=some (RP ⟨a.p.text.toArray⟩):=(d.o.cell c).trans (k.o 2 O).1
  have b3:K.cell? (Y b (off+i * 8+3))=some (I a.p.at_):=(d.o.cell c).trans (k.o 3 O).1
  have b4:K.cell? (Y b (off+i * 8+4))=some (RO t a.p.keys.length u):=(d.o.cell c).trans a4
  have b5:K.cell? (Y b (off+i * 8+5))=some (RO bi a.p.zr.length bw):=(d.o.cell c).trans ((k.o 5 O).1.trans V4)
  have b6:K.cell? (Y b (off+i * 8+6))=some (I a.p.mod):=(d.o.cell c).trans (k.o 6 O).1
  have b7:K.cell? (Y b (off+i * 8+7))=some (I a.p.born):=(d.o.cell c).trans (k.o 7 O).1
  have cp:=Yf K a.p.id a.p.thread a.p.at_ a.p.mod a.p.born ⟨a.p.text.toArray⟩ (RO t a.p.keys.length u) (RO bi a.p.zr.length bw) a.p.zr (by
   rw[←y8.o]
   exact d3.o.mem.keep d.o.size (fun b hb _=>d.o.block b hb) (fun _ _ _ hm=>by cases hm)) O
  have bu:=V cp
  clear cp
  go_upto_if 58 with(fail)
  go_cut [12] (fun v wx=>∃A3 J p3,v=RO A3 J p3∧Z (J=l.length)∧Z (∃h3,Sl wx 3 1 (RO A3 J p3) h3 J (l.map yJ)∧∀b,h3=some b→w6.heap.size≤b)∧Z (Od w6 w6 wx))
  case first=>
   cases bd with
   |false=>
    have z:=B.o
    rw[OG (by have h:=bk.o;cases s1 <;> cases s2 <;> first|rfl|exact absurd h zD)] at z
    have L:=V z
    clear z
    go_wp2_with fail
    go_meet
    exact⟨none,0,0,rfl,V (by rw[L.o];rfl),V ⟨none,by rw[L.o];exact Sl.nil _ _ _,fun b hb=>by cases hb⟩,d⟩
   |true=>
    have z:=B.o
    rw[Om (by have h:=bk.o;cases s1 <;> cases s2 <;> first|decide|exact absurd h zD)] at z
    have L:=V z
    clear z
    go_upto_region 15 with(first
     |(go_at_call 90;go_loud (refine bu.o.mono ?_);rintro e w8 ⟨v8,h8,rfl,b8,c5,bz⟩;obtain⟨A8,c8,rfl,_,_⟩:=b8.form;have d5:=V b8;have cw:=V c5;have F:=V bz;clear b8 c5 bz)
     |fail)
    go_meet
    exact⟨A8,a.p.zr.length,c8,rfl,V (by rw[L.o];simp[x9]),V ⟨h8,by rw[L.o];exact d5.o,fun b hb=>Ol d.o.size (cw.o b hb)⟩,V (zj d.o F.o)⟩
  case rest=>
   obtain⟨A3,J,p3,rfl,d1,d4,F⟩:=hcut
   obtain⟨wh,rfl⟩:∃wh:Oc,wh=wc:=⟨_,rfl⟩
   obtain⟨h3,cm,c4⟩:=d4.o
   have ag:=T6.o.yO F.o
   have bb:=HV.o
   rw[ai.o] at bb
   have aq:∀j,j < 8→wh.frozen? (Y b (off+i * 8+j))=false:=fun j hj=>by
    obtain⟨b',cq,bv,a0,_,_,_,_,bx⟩:=ag.at_.ud i aX hi
    rw[HV.o] at a0
    injection a0 with hv1 _ hv3
    injection hv1 with hv1
    injection hv1 with hv1 hv2
    subst hv1 hv2
    exact(bx j hj).2
   have g4:=aq 4 O
   have g6:=aq 6 O
   have r4:=(F.o.cell (p:=⟨b,off+i * 8+4,none⟩) c).trans a4
   have r6:wh.cell? (Y b (off+i * 8+6))=some (I a.p.mod):=(F.o.cell (p:=⟨b,off+i * 8+6,none⟩) c).trans (k.o 6 O).1
   have a7:Z (Sl wh 9 1 (RO Ak r.length ck) ao r.length (r.map encStr)):=V (N.o.keep (fun b hb=>F.o.block b (N.o.lt b hb)))
   have a2:=V ag
   have br:=V cm
   have cv:=V c4
   clear ag cm c4 aq b0 b1 b2 b3 b4 b5 b6 b7 bu
   go_upto_region 19 with(fail)
   obtain⟨wg,a6⟩:∃wg:Oc,wg=(wh.setCell (Y b (off+i * 8+4)) (RO Ak r.length ck)).setCell (Y b (off+i * 8+6)) (I (x.zA+1)):=⟨_,rfl⟩
   rw[←a6]
   have cj:xB wh (q.own g) ⟨{a.p with keys:=r},RO Ak r.length ck,a.mv⟩:=by
    refine⟨a7.o.reads _ (fun b hb hm=>?_),?_,a7.o.ty,?_⟩
    ·have h1:=H.o.at_.lt b hm
     have h2:=bm.o b hb
     omega
    ·have h1:=a2.o.at_.parts _ (Oj hi)
     rw[M.o] at h1
     exact h1.mem
    ·have h1:=a2.o.at_.parts _ (Oj hi)
     rw[M.o] at h1
     exact h1.tm
   have t9:=a2.o.at_.Ze (b:=b) (off:=off) (n:=n) (cap:=cap) bb i aX hi 4 O (RO Ak r.length ck) ⟨{a.p with keys:=r},RO Ak r.length ck,a.mv⟩ (by rw[M.o];rfl) cj
   have G:i < (q.ms.set i ⟨{a.p with keys:=r},RO Ak r.length ck,a.mv⟩).length:=vq
   have bh:=t9.at_.Ze (b:=b) (off:=off) (n:=n) (cap:=cap) bb i (by show i < (x.zC.set i _).length;rw[Pd,ai.o];exact Fb) G 6 O (I (x.zA+1)) ⟨{a.p with keys:=r,mod:=x.zA+1},RO Ak r.length ck,a.mv⟩ pJ ⟨(t9.at_.parts _ (Oj G)|> fun h=>by rw[Ph] at h;exact h.keys),(t9.at_.parts _ (Oj G)|> fun h=>by rw[Ph] at h;exact h.mem),(t9.at_.parts _ (Oj G)|> fun h=>by rw[Ph] at h;exact h.tk),(t9.at_.parts _ (Oj G)|> fun h=>by rw[Ph] at h;exact h.tm)⟩
   rw[←a6] at bh
   have ae:=(a2.o.trans t9).trans bh
   simp only[List.set_set] at ae
   obtain⟨q3,cl⟩:∃q3:zW,q3={q with ms:=q.ms.set i ⟨{a.p with keys:=r,mod:=x.zA+1},RO Ak r.length ck,a.mv⟩}:=⟨_,rfl⟩
   obtain⟨s,a1⟩:∃s:Acc,s={x with zA:=x.zA+1,zC:=x.zC.set i {a.p with keys:=r,mod:=x.zA+1}}:=⟨_,rfl⟩
   have P:zL w wg g q s q3:=by
    rw[a1,cl]
    exact ae
   have b9:Sl wg 3 1 (RO A3 J p3) h3 J (l.map yJ):=by
    rw[a6]
    have a5:h3≠some b:=fun e=>by
     have h1:=cv.o b e
     omega
    exact(br.o.far (p:=⟨b,off+i * 8+4,none⟩) a5 _).far (p:=⟨b,off+i * 8+6,none⟩) a5 _
   have y:s.zg=x.zg:=by rw[a1]
   have cg:s.log=x.log:=by rw[a1]
   have cc:l.length≤4294967296:=by
    rw[B.o]
    split
    ·simp
    ·simpa[x9] using ci
   have a9:∀j∈l,j∈ids x.zg:=by
    rw[B.o]
    split
    ·simp
    ·exact H.o.fit.Nz d0.o
   have c1:x.zg.length≤1099511627776:=by
    have:=H.o.fit.nb
    omega
   have cn:∀W,Od wg wg W→C 78 #[Y g 0,I (x.zA+1),RO A3 J p3] W fun e w'=>∃v' hh,e=RR v'∧Sl w' 159 4 v' hh (rise l).length (yR (zX (x.zA+1) (rise l)))∧(∀b,hh=some b→W.heap.size≤b)∧zL W w' g q3 {s with zg:=zI (x.zA+1) (rise l) s.zg} q3:=fun W hb=>by
    have h2:Sl W 3 1 (RO A3 J p3) h3 J (l.map yJ):=b9.keep (fun b hb2=>hb.block b (b9.lt b hb2))
    have h3:NN W [] 1 (RO A3 J p3) l.length (l.map yJ):=by
     rw[←d1.o]
     exact h2.reads [] zv
    exact Y2 W g q3 s (P.at_.later hb) (by rw[y];exact c1) (x.zA+1) l (RO A3 J p3) [] h3 O (by rw[y];exact a9)
   have U:1≤s.log.most∧s.log.most≤1099511627776∧s.log.es.length≤1099511627776:=by
    rw[cg]
    exact pA
   have a5:(rise l).length≤4294967296:=Ol (xG l) cc
   have Ff:=V P
   have d6:=V cn
   have bo:=V U
   have d7:=V a1
   clear cj t9 G bh ae cl P b9 y cg a9 c1 cn U a1 a6 g4 g6 r4 r6
   go_cut [] (fun wx=>∃be,Z (zL w wx g q {{s with zg:=zI (x.zA+1) (rise l) s.zg} with log:=s.log.add (zX (x.zA+1) (rise l)++[⟨x.zA+1,2,id,2⟩])} be))
   case first=>
    refine CA wg g q3 s {s with zg:=zI (x.zA+1) (rise l) s.zg} (x.zA+1) id (rise l).length J A3 p3 (zX (x.zA+1) (rise l)) _ _ _ _ _ _ _ _ _ _ _ _ _ _ _ _ _ _ _ _ _ _ _ _ _ _ _ _ _ _ _ _ _ _ _ _ _ _ _ _ _ _ _ _ _ _ _ _ _ _ _ _ _ _ _ _ _ _ _ _ _ _ _ _ _ _ _ _ _ _ _ _ _ _ _ _ _ _ _ _ _ _ _ _ Ff.o.at_ (xP _ _) a5 bo.o d6.o ?_
    intro dp dq dr ds dt du dv dx dy d' e0 e1 e2 e3 wx Fe ol
    exact Hb
   case rest=>
    obtain⟨be,a8⟩:=hcut
    obtain⟨wz,rfl⟩:∃wz:Oc,wz=wc:=⟨_,rfl⟩
    have bl:Z (xJ w g q rr (RR (I 0)) wz):=V (by
     rw[bp.o]
     refine⟨rfl,be,?_⟩
     have h1:=a8.o
     rw[d7.o] at h1
     exact h1)
    clear a8
    go_wp2_with fail
    go_ret
    exact bl.o
theorem QO (w:Oc)(g:Nat)(q:zW)(x:Acc)(id:Int)(ks:yF)(vk:Oe)(Sk:Ob Nat)(h:gX w g q x ks vk Sk) :
  C 35 #[Y g 0,I id,vk] w (xJ w g q (vx x id ks)):=by
 by_cases k:id∈Zb x.zC
 case neg=>exact Cl w g q x id ks vk Sk h k
 have f:id∈Zb (q.ms.map (·.p)):=by rw[h.at_.same];exact k
 obtain⟨i,e,b,_,_,c,a⟩:=YI f
 rw[h.at_.same] at c a
 by_cases d:(yz ks).2=0
 case neg=>exact K7 w g q x id ks vk Sk h i e b a d
 by_cases j:(yz ks).1=q.ms[i].p.keys
 ·exact Cp w g q x id ks vk Sk h i e b a d j
 by_cases l:x.N3.ym≤x.zA
 ·exact B9 w g q x id ks vk Sk h i e b a d j l
 ·exact keys_ok w g q x id ks vk Sk h i e b a d j l c
end Go.Proofs.YtnofkliaofgiaaaGreatDoor
