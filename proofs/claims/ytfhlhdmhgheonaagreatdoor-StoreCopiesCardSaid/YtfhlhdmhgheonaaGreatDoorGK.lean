/-
  The walk of the store's Keys: what it hands back, and the account behind it, are keysP's.
-/
import Derived.Test.YtfhlhdmhgheonaaGreatDoorGF
import Derived.Test.YtfhlhdmhgheonaaGreatDoorGD
import Derived.Test.YtfhlhdmhgheonaaGreatDoorGC
set_option maxRecDepth 100000
set_option maxHeartbeats 8000000
namespace Go.Proofs.YtfhlhdmhgheonaaGreatDoor
open Go.Shelf Go.RowKit
attribute [local go_sem ↓] Go.wp_at_zero Go.wp_at_succ
theorem Zh:∀{l:List zR} {id:Int},id∈vw (l.map (·.p))→∃k,∃hk:k < l.length,place (fun m:zR=>decide (m.p.id=id)) l=(k:Int)∧Yi id (l.map (·.p))=(k:Int)∧l[k].p.id=id∧(∀f,zZ id f (l.map (·.p))=(l.map (·.p)).set k (f l[k].p))∧(l.map (·.p)).find? (fun m=>decide (m.id=id))=some l[k].p
 |[],id,h=>by simp[vw] at h
 |b :: r,id,h=>by
  by_cases hb:b.p.id=id
  ·exact⟨0,by simp,by simp[place,hb],by simp[Yi,place,hb],hb,fun f=>by simp[zZ,hb],by simp[hb]⟩
  ·have h':id∈vw (r.map (·.p)):=by
    simp only[vw,List.map_cons,List.mem_cons] at h
    rcases h with h|h
    ·exact absurd h.symm hb
    ·exact h
   obtain⟨k,hk,e,d,g,i,j⟩:=Zh h'
   have a:¬decide (b.p.id=id)=true:=by simpa using hb
   refine⟨k+1,by simpa using hk,?_,?_,g,fun f=>?_,?_⟩
   ·unfold place
    rw[if_neg a,e,if_neg (by omega)]
    omega
   ·have c:place (fun m:zX=>decide (m.id=id)) (r.map (·.p))=k:=d
    unfold Yi
    rw[List.map_cons]
    unfold place
    rw[if_neg a,c,if_neg (by omega)]
    omega
   ·simp only[List.map_cons,zZ,if_neg hb,i f,List.set_cons_succ,List.getElem_cons_succ]
   ·rw[List.map_cons,List.find?_cons_of_neg (by simpa using hb)]
    exact j
theorem Y4:∀{l:List zR} {id:Int},id∉vw (l.map (·.p))→place (fun m:zR=>decide (m.p.id=id)) l= -1∧(l.map (·.p)).find? (fun m=>decide (m.id=id))=none
 |[],id,_=>⟨rfl,rfl⟩
 |b :: r,id,h=>by
  simp only[vw,List.map_cons,List.mem_cons,not_or] at h
  obtain⟨h1,h2⟩:=h
  obtain⟨h3,h4⟩:=Y4 (l:=r) (id:=id) h2
  have hb':¬decide (b.p.id=id)=true:=by simpa using fun e=>h1 e.symm
  refine⟨?_,?_⟩
  ·unfold place
   rw[if_neg hb',h3]
   rfl
  ·have a:decide (b.p.id=id)=false:=by simpa using hb'
   simp only[List.map_cons,List.find?_cons,a]
   exact h4
theorem Y5 (l:zN):(zG l).1.length≤16:=by
 unfold zG
 split
 ·simp
 ·split
  ·simp
  ·simp only
   omega
def yu (w:World)(g:Nat)(q:zl)(r:Acc×Int)(e:Ending)(w':World):Prop:=e=.returned (.int .i64 r.2)∧∃q',Turned w w' g q r.1 q'
structure JD (w:World)(g:Nat)(q:zl)(x:Acc)(ks:zN)(vk:Value)(Sk:List Nat):Prop where
 at_:zh w g q x
 fit:Fit x
 keys:RdS w Sk 1 vk ks.length (ks.map encStr)
 nk:ks.length≤1099511627776
 short:Short ks
section
variable {w:World} {g:Nat} {q:zl} {x:Acc} {ks:zN} {vk:Value} {Sk:List Nat}
theorem zh.mc (h:zh w g q x)(hf:Fit x)(id:Int):Calls Tryz.prog 126 #[.pointer (some ⟨g,0,none⟩),.int .i64 id] w fun e w'=>e=.returned (.int .i64 (place (fun m=>decide (m.p.id=id)) q.ms))∧Below w.heap.size w w':=by
 have a:=h.Za
 have b:=hf.nm
 have c:=hf.clock
 have d:=hf.cfg.mod
 refine mail_any g q.vm [] q.ms id w h.zU ?_ (by omega)
 rw[a]
 exact h.mails.reads [] (by simp)
theorem JD.kc (h:JD w g q x ks vk Sk)(W:World)(hb:Below w.heap.size w W):Calls Tryz.prog 90 #[vk] W fun e w'=>∃A cap hh,e=.returned (.tuple #[.slice A (zG ks).1.length cap,.int .i64 (zG ks).2])∧Sl w' 9 1 (.slice A (zG ks).1.length cap) hh (zG ks).1.length ((zG ks).1.map encStr)∧Below W.heap.size W w'∧∀b,hh=some b→W.heap.size≤b:=
 zaR W vk ks.length ks rfl h.nk ((h.keys.below hb).sub (fun _ _ _ hm=>by cases hm)) h.short
end
theorem zdu (w:World)(g:Nat)(q:zl)(x:Acc)(id:Int)(ks:zN)(vk:Value)(Sk:List Nat)(h:JD w g q x ks vk Sk)(hno:id∉vw x.mails) :
  Calls Tryz.prog 51 #[.pointer (some ⟨g,0,none⟩),.int .i64 id,vk] w (yu w g q (xM x id ks)):=by
 have a:id∉vw (q.ms.map (·.p)):=by rw[h.at_.same];exact hno
 obtain⟨j,i⟩:=Y4 a
 rw[h.at_.same] at i
 have b:xM x id ks=(x,6):=by
  unfold xM Vk
  rw[i]
 rw[b]
 have c:=h.at_.mc h.fit id
 rw[j] at c
 have H:=zdG h
 clear hno a j i b h
 go_enter Tryz.func51,Tryz.ntmps51
 go_wp2_with (first
  |(go_at_call 126;refine c.mono ?_;rintro e k ⟨rfl,d⟩;have f:=zdG d;clear d)
  |fail)
 go_ret
 exact⟨rfl,q,Turned.of_below H.out.at_ f.out⟩
theorem keys_bad (w:World)(g:Nat)(q:zl)(x:Acc)(id:Int)(ks:zN)(vk:Value)(Sk:List Nat)(h:JD w g q x ks vk Sk)(i:Nat)(hi:i < q.ms.length)(hpl:place (fun m:zR=>decide (m.p.id=id)) q.ms=(i:Int))(hfi:x.mails.find? (fun m=>decide (m.id=id))=some q.ms[i].p)(hke:(zG ks).2≠0) :
  Calls Tryz.prog 51 #[.pointer (some ⟨g,0,none⟩),.int .i64 id,vk] w (yu w g q (xM x id ks)):=by
 have b:xM x id ks=(x,(zG ks).2):=by
  unfold xM Vk
  rw[hfi]
  simp only
  rw[if_pos hke]
 rw[b]
 have c:=h.at_.mc h.fit id
 rw[hpl] at c
 have a:=h.kc
 obtain⟨A,y,j,_,_⟩:=h.keys.form
 rw[j] at a ⊢
 have H:=zdG h
 generalize zG ks=kf at a hke ⊢
 obtain⟨z,s⟩:=kf
 simp only at a hke ⊢
 have l:=zdG a
 have v:(s==0)=false:=by simpa using hke
 have r:¬(i:Int) < 0:=by omega
 clear b hpl hfi j a h hke
 go_enter Tryz.func51,Tryz.ntmps51
 go_wp2_with (first
  |(go_at_call 126;refine c.mono ?_;rintro e t ⟨rfl,d⟩;have f:=l.out t d;have n:=zdG d;clear d c)
  |(go_at_call 90;refine f.mono ?_;rintro e B ⟨C,D,u,rfl,_,k,_⟩;have o:=zdG (za n.out k);clear f k)
  |fail)
 go_ret
 exact⟨rfl,q,Turned.of_below H.out.at_ o.out⟩
theorem zdl (w:World)(g:Nat)(q:zl)(x:Acc)(id:Int)(ks:zN)(vk:Value)(Sk:List Nat)(h:JD w g q x ks vk Sk)(i:Nat)(hi:i < q.ms.length)(hpl:place (fun m:zR=>decide (m.p.id=id)) q.ms=(i:Int))(hfi:x.mails.find? (fun m=>decide (m.id=id))=some q.ms[i].p)(hke:(zG ks).2=0)(hsame:(zG ks).1=q.ms[i].p.keys) :
  Calls Tryz.prog 51 #[.pointer (some ⟨g,0,none⟩),.int .i64 id,vk] w (yu w g q (xM x id ks)):=by
 have C:i < x.mails.length:=by rw[←h.at_.Za];exact hi
 obtain⟨b,v,X,Y,ag,Z,ah,J,k⟩:=h.at_.xu i C hi
 have a:=h.at_.parts _ (List.getElem_mem hi)
 obtain⟨j,c⟩:∃j,q.ms[i]=j:=⟨_,rfl⟩
 rw[c] at k a hfi
 obtain⟨K,L,l,_,_⟩:=a.keys.form
 obtain⟨ai,aj,M,_,_⟩:=a.mem.form
 have r:=h.at_.mc h.fit id
 rw[hpl] at r
 have d:=h.kc
 obtain⟨A,ca,N,_,_⟩:=h.keys.form
 rw[N] at d ⊢
 have D:w.cell? ⟨g,11,none⟩=some (.slice (some ⟨b,v,none⟩) x.mails.length X):=h.at_.zU.trans (by rw[Y])
 have e4:w.cell? ⟨b,v+i * 8+4,none⟩=some (.slice K j.p.keys.length L):=((k 4 (by omega)).1).trans (by rw[←l];rfl)
 have E:∀W,Below w.heap.size w W→RdS W [] 1 (.slice K j.p.keys.length L) j.p.keys.length (j.p.keys.map encStr):=fun W hb=>by
  rw[←l]
  exact(a.keys.below hb).sub (fun _ _ _ hm=>by cases hm)
 have a1:j.p.keys.length≤16:=(h.fit.mail j.p (by rw[←h.at_.same,←c];exact List.mem_map_of_mem (List.getElem_mem hi))).keys
 have s:j.p∈x.mails:=by rw[←h.at_.same,←c];exact List.mem_map_of_mem (List.getElem_mem hi)
 have a2:=h.fit.Jp s
 have a3:=zdG s
 have R:=h.at_.blk.lt
 obtain⟨n,y⟩:∃n,x.mails.length=n:=⟨_,rfl⟩
 rw[y] at D C Z
 have a4:(i:Int) < (n:Int):=by omega
 have a5:(0:Int)≤(i:Int):=by omega
 have a6:¬(i:Int) < 0:=by omega
 have H:=zdG h
 have S:=zdG E
 have HV:=zdG Y
 have a7:=zdG k
 have a8:=zdG c
 have a9:=zdG a
 have aa:=zdG y
 have ab:=zdG M
 have ac:=zdG l
 rw[c] at hsame
 have o:xM x id ks=(x,0):=by
  unfold xM Vk
  rw[hfi]
  simp only
  rw[if_neg (by rw[hke];decide),if_pos hsame]
 rw[o]
 have F:(zG ks).1.length≤16:=Y5 ks
 generalize zG ks=kf at d hke F hsame
 obtain⟨kl,ke⟩:=kf
 simp only at d hke F hsame
 subst hke
 have T:=zdG d
 have t:=zdG hsame
 clear o hfi hsame
 clear s hpl d E Y k c a y N l M h
 go_enter Tryz.func51,Tryz.ntmps51
 go_wp2_with (first
  |(go_at_call 126;refine r.mono ?_;rintro e w1 ⟨rfl,z⟩;have G:=T.out w1 z;have I:=zdG z;clear z r)
  |(go_at_call 90;refine G.mono ?_;rintro e w2 ⟨Ak,ck,a0,rfl,B,O,P⟩;have f:=za I.out O;have ad:=(f.cell (p:=⟨g,11,none⟩) R).trans D;have k4:=(f.cell (p:=⟨b,v+i * 8+4,none⟩) J).trans e4;have u:=Xj w2 _ _ [] [] kl j.p.keys (B.reads [] (by simp)) (S.out w2 f) (by omega) (by omega);rw[decide_eq_true t.out] at u;have ae:=zdG B;have U:=zdG f;have af:Hid (∀b,a0=some b→w.heap.size≤b):=zdG (fun b hb=>Nat.le_trans I.out.size (P b hb));clear G O B P f)
  |(go_at_call 127;refine u.mono ?_;rintro e w3 ⟨rfl,Q⟩;have V:=zdG (za U.out Q);clear u Q)
  |fail)
 go_ret
 exact⟨rfl,q,Turned.of_below H.out.at_ V.out⟩
theorem zcB (w:World)(g:Nat)(q:zl)(x:Acc)(id:Int)(ks:zN)(vk:Value)(Sk:List Nat)(h:JD w g q x ks vk Sk)(i:Nat)(hi:i < q.ms.length)(hpl:place (fun m:zR=>decide (m.p.id=id)) q.ms=(i:Int))(hfi:x.mails.find? (fun m=>decide (m.id=id))=some q.ms[i].p)(hke:(zG ks).2=0)(hsame:¬(zG ks).1=q.ms[i].p.keys)(hen:x.cfg.maxMod≤x.clock) :
  Calls Tryz.prog 51 #[.pointer (some ⟨g,0,none⟩),.int .i64 id,vk] w (yu w g q (xM x id ks)):=by
 have C:i < x.mails.length:=by rw[←h.at_.Za];exact hi
 obtain⟨b,v,V,X,af,Y,ag,J,k⟩:=h.at_.xu i C hi
 have a:=h.at_.parts _ (List.getElem_mem hi)
 obtain⟨j,c⟩:∃j,q.ms[i]=j:=⟨_,rfl⟩
 rw[c] at k a hfi
 obtain⟨K,L,l,_,_⟩:=a.keys.form
 obtain⟨ah,ai,M,_,_⟩:=a.mem.form
 have r:=h.at_.mc h.fit id
 rw[hpl] at r
 have d:=h.kc
 obtain⟨A,ca,N,_,_⟩:=h.keys.form
 rw[N] at d ⊢
 have D:w.cell? ⟨g,11,none⟩=some (.slice (some ⟨b,v,none⟩) x.mails.length V):=h.at_.zU.trans (by rw[X])
 have e4:w.cell? ⟨b,v+i * 8+4,none⟩=some (.slice K j.p.keys.length L):=((k 4 (by omega)).1).trans (by rw[←l];rfl)
 have E:∀W,Below w.heap.size w W→RdS W [] 1 (.slice K j.p.keys.length L) j.p.keys.length (j.p.keys.map encStr):=fun W hb=>by
  rw[←l]
  exact(a.keys.below hb).sub (fun _ _ _ hm=>by cases hm)
 have a0:j.p.keys.length≤16:=(h.fit.mail j.p (by rw[←h.at_.same,←c];exact List.mem_map_of_mem (List.getElem_mem hi))).keys
 have s:j.p∈x.mails:=by rw[←h.at_.same,←c];exact List.mem_map_of_mem (List.getElem_mem hi)
 have a1:=h.fit.Jp s
 have a2:=zdG s
 have R:=h.at_.blk.lt
 obtain⟨n,y⟩:∃n,x.mails.length=n:=⟨_,rfl⟩
 rw[y] at D C Y
 have a3:(i:Int) < (n:Int):=by omega
 have a4:(0:Int)≤(i:Int):=by omega
 have a5:¬(i:Int) < 0:=by omega
 have H:=zdG h
 have S:=zdG E
 have HV:=zdG X
 have a6:=zdG k
 have a7:=zdG c
 have a8:=zdG a
 have a9:=zdG y
 have aa:=zdG M
 have ab:=zdG l
 rw[c] at hsame
 have o:xM x id ks=(x,11):=by
  unfold xM Vk
  rw[hfi]
  simp only
  rw[if_neg (by rw[hke];decide),if_neg hsame,if_pos (by simp[Acc.ends,hen])]
 rw[o]
 have F:(zG ks).1.length≤16:=Y5 ks
 generalize zG ks=kf at d hke F hsame
 obtain⟨kl,ke⟩:=kf
 simp only at d hke F hsame
 subst hke
 have T:=zdG d
 clear o hfi
 clear s hpl d E X k c a y N l M h
 go_enter Tryz.func51,Tryz.ntmps51
 go_wp2_with (first
  |(go_at_call 126;refine r.mono ?_;rintro e w1 ⟨rfl,z⟩;have G:=T.out w1 z;have I:=zdG z;clear z r)
  |(go_at_call 90;refine G.mono ?_;rintro e w2 ⟨Ak,ck,Z,rfl,B,O,P⟩;have f:=za I.out O;have ac:=(f.cell (p:=⟨g,11,none⟩) R).trans D;have k4:=(f.cell (p:=⟨b,v+i * 8+4,none⟩) J).trans e4;have t:=Xj w2 _ _ [] [] kl j.p.keys (B.reads [] (by simp)) (S.out w2 f) (by omega) (by omega);rw[decide_eq_false hsame] at t;have ad:=zdG B;have U:=zdG f;have ae:Hid (∀b,Z=some b→w.heap.size≤b):=zdG (fun b hb=>Nat.le_trans I.out.size (P b hb));clear G O B P f)
  |(go_at_call 127;refine t.mono ?_;rintro e w3 ⟨rfl,Q⟩;have u:=zdG (za U.out Q);have c6:w3.cell? ⟨g,6,none⟩=some (.int .i64 x.cfg.maxMod):=(H.out.at_.later u.out).cells 6;have c9:=(H.out.at_.later u.out).yo;clear t Q)
  |(go_at_call 92;refine(yQ g x.clock x.cfg.maxMod _ ((zB (w:=w3) (by rfl) _).trans c9) ((zB (w:=w3) (by rfl) _).trans c6)).mono ?_;rintro e w4 ⟨rfl,ne,rfl⟩)
  |fail)
 go_ret
 exact⟨rfl,q,(Turned.of_below H.out.at_ u.out).zL (below_drewN' (Below.refl _ _) _)⟩
theorem keys_ok (w:World)(g:Nat)(q:zl)(x:Acc)(id:Int)(ks:zN)(vk:Value)(Sk:List Nat)(h:JD w g q x ks vk Sk)(i:Nat)(hi:i < q.ms.length)(hpl:place (fun m:zR=>decide (m.p.id=id)) q.ms=(i:Int))(hfi:x.mails.find? (fun m=>decide (m.id=id))=some q.ms[i].p)(hke:(zG ks).2=0)(hsame:¬(zG ks).1=q.ms[i].p.keys)(hen:¬x.cfg.maxMod≤x.clock)(hset:∀f,zZ id f x.mails=x.mails.set i (f q.ms[i].p)) :
  Calls Tryz.prog 51 #[.pointer (some ⟨g,0,none⟩),.int .i64 id,vk] w (yu w g q (xM x id ks)):=by
 have D:i < x.mails.length:=by rw[←h.at_.Za];exact hi
 obtain⟨b,off,cap,hv,db,c',dc,c,a2⟩:=h.at_.xu i D hi
 have E:=h.at_.parts _ (List.getElem_mem hi)
 obtain⟨a,K⟩:∃a,q.ms[i]=a:=⟨_,rfl⟩
 rw[K] at a2 E hfi
 obtain⟨u,y,a3,_,_⟩:=E.keys.form
 obtain⟨bz,c0,c1,_,_⟩:=E.mem.form
 have ac:=h.at_.mc h.fit id
 rw[hpl] at ac
 have N:=h.kc
 obtain⟨A,ca,c2,_,_⟩:=h.keys.form
 rw[c2] at N ⊢
 have ad:w.cell? ⟨g,11,none⟩=some (.slice (some ⟨b,off,none⟩) x.mails.length cap):=h.at_.zU.trans (by rw[hv])
 have e4:w.cell? ⟨b,off+i * 8+4,none⟩=some (.slice u a.p.keys.length y):=((a2 4 (by omega)).1).trans (by rw[←a3];rfl)
 have b8:∀W,Below w.heap.size w W→RdS W [] 1 (.slice u a.p.keys.length y) a.p.keys.length (a.p.keys.map encStr):=fun W hb=>by
  rw[←a3]
  exact(E.keys.below hb).sub (fun _ _ _ hm=>by cases hm)
 have d3:a.p.keys.length≤16:=(h.fit.mail a.p (by rw[←h.at_.same,←K];exact List.mem_map_of_mem (List.getElem_mem hi))).keys
 have ae:a.p∈x.mails:=by rw[←h.at_.same,←K];exact List.mem_map_of_mem (List.getElem_mem hi)
 have b9:=h.fit.Jp ae
 have ci:=zdG ae
 have ba:=h.at_.blk.lt
 obtain⟨n,ap⟩:∃n,x.mails.length=n:=⟨_,rfl⟩
 rw[ap] at ad D c'
 have d4:(i:Int) < (n:Int):=by omega
 have d5:(0:Int)≤(i:Int):=by omega
 have d6:¬(i:Int) < 0:=by omega
 have H:=zdG h
 have cj:=zdG b8
 have HV:=zdG hv
 have d7:=zdG a2
 have O:=zdG K
 have cl:=zdG E
 have F:=zdG ap
 have bb:=zdG c1
 have cm:=zdG a3
 rw[K] at hsame hset
 obtain⟨rr,aq⟩:∃rr,xM x id ks=rr:=⟨_,rfl⟩
 rw[aq]
 obtain⟨l,X⟩:∃l,l=if decide (ZA∈(zG ks).1)≠decide (ZA∈a.p.keys) then yF a.p.members else []:=⟨_,rfl⟩
 have z:rr=({x with clock:=x.clock+1,boxes:=zf (x.clock+1) (rise l) x.boxes,mails:=x.mails.set i {a.p with keys:=(zG ks).1,mod:=x.clock+1},log:=x.log.add (zn (x.clock+1) (rise l)++[⟨x.clock+1,2,id,2⟩])},0):=by
  rw[←aq]
  unfold xM Vk
  rw[hfi]
  simp only
  rw[if_neg (by rw[hke];decide),if_neg hsame,if_neg (by simp[Acc.ends];omega),hset,X]
  by_cases hs:decide (ZA∈(zG ks).1)=decide (ZA∈a.p.keys)
  ·rw[if_neg (by simpa using hs),if_neg (by simpa using hs)]
   rfl
  ·rw[if_pos hs,if_pos hs]
   rfl
 have bc:(zG ks).1.length≤16:=Y5 ks
 generalize zG ks=kf at N hke bc hsame z X
 obtain⟨o,ke⟩:=kf
 simp only at N hke bc hsame z X
 subst hke
 have cn:=zdG N
 have be:=zdG z
 have co:=zdG X
 have d8:=H.out.fit.clock
 have d9:=H.out.fit.cfg.mod
 clear z aq hset hfi X
 clear ae hpl N b8 hv a2 K E ap c2 a3 c1 h
 go_enter Tryz.func51,Tryz.ntmps51
 go_upto_region 15 with(first
  |(go_at_call 126;refine ac.mono ?_;rintro e w1 ⟨rfl,ar⟩;have bf:=cn.out w1 ar;have bg:=zdG ar;clear ar ac)
  |(go_at_call 90;refine bf.mono ?_;rintro e w2 ⟨Ak,ck,au,rfl,av,c3,c4⟩;have P:=za bg.out c3;have da:=(P.cell (p:=⟨g,11,none⟩) ba).trans ad;have k4:=(P.cell (p:=⟨b,off+i * 8+4,none⟩) c).trans e4;have af:=Xj w2 _ _ [] [] o a.p.keys (av.reads [] (by simp)) (cj.out w2 P) (by omega) (by omega);rw[decide_eq_false hsame] at af;have bh:=zdG av;have cp:=zdG P;have bi:Hid (∀b,au=some b→w.heap.size≤b):=zdG (fun b hb=>Nat.le_trans bg.out.size (c4 b hb));clear bf c3 av c4 P)
  |(go_at_call 127;refine af.mono ?_;rintro e w3 ⟨rfl,t⟩;have ag:=zdG (za cp.out t);have c6:w3.cell? ⟨g,6,none⟩=some (.int .i64 x.cfg.maxMod):=(H.out.at_.later ag.out).cells 6;have c9:=(H.out.at_.later ag.out).yo;have bj:=zdG (bh.out.keep (fun b hb=>t.block b (bh.out.lt b hb)));clear af t)
  |(go_at_call 92;refine(yQ g x.clock x.cfg.maxMod _ ((zB (w:=w3) (by rfl) _).trans c9) ((zB (w:=w3) (by rfl) _).trans c6)).mono ?_;rintro e w4 ⟨rfl,ne,rfl⟩;have ah:=(za ag.out (below_drewN' (Below.refl w3.heap.size w3) ne));have H5:=zdG (H.out.at_.later ah);have a6:=uo g x.clock _ H5.out.yo (H5.out.frozen 9) (by omega);have cq:=zdG ah;clear ah)
  |(go_at_call 95;refine a6.mono ?_;rintro e w6 ⟨rfl,aw⟩;have t6:=H5.out.yj 9 (.int .i64 (x.clock+1)) {x with clock:=x.clock+1} rfl rfl rfl rfl;rw[←aw] at t6;have cr:=t6.at_.zU;rw[HV.out,F.out] at cr;have Q:Hid (Sl w6 9 1 (.slice Ak o.length ck) au o.length (o.map encStr)):=zdG (by rw[aw];exact(bj.out.heap (by rfl)).far (p:=⟨g,9,none⟩) (fun e=>absurd (bi.out g e) (by omega)) _);have T6:=zdG ((Turned.of_below H.out.at_ cq.out).trans t6);clear a6 aw t6)
  |fail)
 clear c6 c9 ad e4 ba c
 go_upto_region 16 with(fail)
 obtain⟨s1,ax⟩:∃s1,decide (ZA∈o)=s1:=⟨_,rfl⟩
 obtain⟨s2,ay⟩:∃s2,decide (ZA∈a.p.keys)=s2:=⟨_,rfl⟩
 have a7:l=if s1=s2 then [] else yF a.p.members:=by
  rw[co.out,ax,ay]
  cases s1 <;> cases s2 <;> rfl
 have R:=T6.out.at_
 obtain⟨b',c5,c7,Y,_,_,_,c,C⟩:=R.xu i (by show i < x.mails.length;rw[F.out];exact D) hi
 rw[HV.out] at Y
 injection Y with hv1 _ hv3
 injection hv1 with hv1
 injection hv1 with hv1 hv2
 subst hv1 hv2 hv3
 rw[O.out] at C
 have ai:yD w6 (q.own g) a:=by
  rw[←O.out]
  exact R.parts _ (List.getElem_mem hi)
 have S:a.kv=.slice u a.p.keys.length y:=by
  have G:=cl.out.keys
  exact cm.out
 have a4:w6.cell? ⟨b,off+i * 8+4,none⟩=some (.slice u a.p.keys.length y):=((C 4 (by omega)).1).trans (by rw[←S];rfl)
 have bk:∀W,W.heap=w6.heap→Calls Tryz.prog 128 #[.slice Ak o.length ck,.string ⟨#[36,115,101,101,110]⟩] W fun e w'=>e=.returned (.bool s1)∧W=w':=fun W he=>by
  rw[←ax]
  exact zaQ W _ [] o ZA ((Q.out.heap he).reads [] (by simp)) (by omega)
 have bl:∀W,W.heap=w6.heap→Calls Tryz.prog 128 #[.slice u a.p.keys.length y,.string ⟨#[36,115,101,101,110]⟩] W fun e w'=>e=.returned (.bool s2)∧W=w':=fun W he=>by
  rw[←ay,←S]
  exact zaQ W _ (q.own g) a.p.keys ZA (ai.keys.keep (Nat.le_of_eq (by rw[he])) (fun b _ _=>by rw[he]) (fun _ _ h=>h)) (by omega)
 have cs:=zdG bk
 have ct:=zdG bl
 have B:=zdG a7
 have k:=zdG C
 have cu:=zdG ai
 clear bk bl a7 C ai R ax ay S
 go_cut [58] (fun v wx=>∃bd:Bool,v=.bool bd∧Hid (bd=(s1 !=s2))∧Hid (Below w6.heap.size w6 wx))
 case first=>
  cases s1 <;> cases s2
  all_goals
   go_region_with (first
    |(go_at_call 128;refine(cs.out _ (by rfl)).mono ?_;rintro e L ⟨rfl,rfl⟩)
    |(go_at_call 128;refine(ct.out _ (by rfl)).mono ?_;rintro e L ⟨rfl,rfl⟩)
    |fail)
   all_goals
    go_wp2_with fail
    go_meet
    exact⟨_,rfl,zdG rfl,zdG ⟨rfl,rfl,rfl,Nat.le_refl _,fun _ _=>rfl⟩⟩
 case rest=>
  obtain⟨bd,rfl,cb,d⟩:=hcut
  obtain⟨L,rfl⟩:∃L:World,L=wc:=⟨_,rfl⟩
  have b0:L.cell? ⟨b,off+i * 8,none⟩=some (.int .i64 a.p.id):=(d.out.cell c).trans (k.out 0 (by omega)).1
  have b1:L.cell? ⟨b,off+i * 8+1,none⟩=some (.int .i64 a.p.thread):=(d.out.cell c).trans (k.out 1 (by omega)).1
  have b2:L.cell? ⟨b,off+i * 8+2,none⟩=some (.string ⟨a.p.text.toArray⟩):=(d.out.cell c).trans (k.out 2 (by omega)).1
  have b3:L.cell? ⟨b,off+i * 8+3,none⟩=some (.int .i64 a.p.at_):=(d.out.cell c).trans (k.out 3 (by omega)).1
  have b4:L.cell? ⟨b,off+i * 8+4,none⟩=some (.slice u a.p.keys.length y):=(d.out.cell c).trans a4
  have b5:L.cell? ⟨b,off+i * 8+5,none⟩=some (.slice bz a.p.members.length c0):=(d.out.cell c).trans ((k.out 5 (by omega)).1.trans (by rw[←bb.out];rfl))
  have b6:L.cell? ⟨b,off+i * 8+6,none⟩=some (.int .i64 a.p.mod):=(d.out.cell c).trans (k.out 6 (by omega)).1
  have b7:L.cell? ⟨b,off+i * 8+7,none⟩=some (.int .i64 a.p.born):=(d.out.cell c).trans (k.out 7 (by omega)).1
  have bm:=uR L a.p.id a.p.thread a.p.at_ a.p.mod a.p.born ⟨a.p.text.toArray⟩ (.slice u a.p.keys.length y) (.slice bz a.p.members.length c0) a.p.members (by
   rw[←bb.out]
   exact cu.out.mem.keep d.out.size (fun b hb _=>d.out.block b hb) (fun _ _ _ hm=>by cases hm)) (by omega)
  have bn:=zdG bm
  clear bm
  go_upto_if 58 with(fail)
  go_cut [12] (fun v wx=>∃A3 M p3,v=.slice A3 M p3∧Hid (M=l.length)∧Hid (∃h3,Sl wx 3 1 (.slice A3 M p3) h3 M (l.map encI)∧∀b,h3=some b→w6.heap.size≤b)∧Hid (Below w6.heap.size w6 wx))
  case first=>
   cases bd with
   |false=>
    have s:=B.out
    rw[if_pos (by have h:=cb.out;cases s1 <;> cases s2 <;> first|rfl|exact absurd h (by decide))] at s
    have T:=zdG s
    clear s
    go_wp2_with fail
    go_meet
    exact⟨none,0,0,rfl,zdG (by rw[T.out];rfl),zdG ⟨none,by rw[T.out];exact Sl.nil _ _ _,fun b hb=>by cases hb⟩,d⟩
   |true=>
    have s:=B.out
    rw[if_neg (by have h:=cb.out;cases s1 <;> cases s2 <;> first|decide|exact absurd h (by decide))] at s
    have T:=zdG s
    clear s
    go_upto_region 15 with(first
     |(go_at_call 129;go_loud (refine bn.out.mono ?_);rintro e w8 ⟨v8,h8,rfl,az,cc,cd⟩;obtain⟨A8,c8,rfl,_,_⟩:=az.form;have cv:=zdG az;have cw:=zdG cc;have I:=zdG cd;clear az cc cd)
     |fail)
    go_meet
    exact⟨A8,a.p.members.length,c8,rfl,zdG (by rw[T.out];simp[yF]),zdG ⟨h8,by rw[T.out];exact cv.out,fun b hb=>Nat.le_trans d.out.size (cw.out b hb)⟩,zdG (za d.out I.out)⟩
  case rest=>
   obtain⟨A3,M,p3,rfl,d0,d1,I⟩:=hcut
   obtain⟨wh,rfl⟩:∃wh:World,wh=wc:=⟨_,rfl⟩
   obtain⟨h3,ce,cf⟩:=d1.out
   have aj:=T6.out.zL I.out
   have ak:=HV.out
   rw[F.out] at ak
   have al:∀j,j < 8→wh.frozen? ⟨b,off+i * 8+j,none⟩=false:=fun j hj=>by
    obtain⟨b',c5,c7,Y,_,_,_,_,cg⟩:=aj.at_.xu i (by show i < x.mails.length;rw[F.out];exact D) hi
    rw[HV.out] at Y
    injection Y with hv1 _ hv3
    injection hv1 with hv1
    injection hv1 with hv1 hv2
    subst hv1 hv2
    exact(cg j hj).2
   have g4:=al 4 (by omega)
   have g6:=al 6 (by omega)
   have r4:=(I.out.cell (p:=⟨b,off+i * 8+4,none⟩) c).trans a4
   have r6:wh.cell? ⟨b,off+i * 8+6,none⟩=some (.int .i64 a.p.mod):=(I.out.cell (p:=⟨b,off+i * 8+6,none⟩) c).trans (k.out 6 (by omega)).1
   have a8:Hid (Sl wh 9 1 (.slice Ak o.length ck) au o.length (o.map encStr)):=zdG (Q.out.keep (fun b hb=>I.out.block b (Q.out.lt b hb)))
   have a0:=zdG aj
   have bo:=zdG ce
   have cx:=zdG cf
   clear aj ce cf al b0 b1 b2 b3 b4 b5 b6 b7 bn
   go_upto_region 19 with(fail)
   obtain⟨wg,a5⟩:∃wg:World,wg=(wh.setCell ⟨b,off+i * 8+4,none⟩ (.slice Ak o.length ck)).setCell ⟨b,off+i * 8+6,none⟩ (.int .i64 (x.clock+1)):=⟨_,rfl⟩
   rw[←a5]
   have bp:yD wh (q.own g) ⟨{a.p with keys:=o},.slice Ak o.length ck,a.mv⟩:=by
    refine⟨a8.out.reads _ (fun b hb hm=>?_),?_,a8.out.ty,?_⟩
    ·have G:=H.out.at_.lt b hm
     have h2:=bi.out b hb
     omega
    ·have G:=a0.out.at_.parts _ (List.getElem_mem hi)
     rw[O.out] at G
     exact G.mem
    ·have G:=a0.out.at_.parts _ (List.getElem_mem hi)
     rw[O.out] at G
     exact G.tm
   have t9:=a0.out.at_.vD (b:=b) (off:=off) (n:=n) (cap:=cap) ak i (by show i < x.mails.length;rw[F.out];exact D) hi 4 (by omega) (.slice Ak o.length ck) ⟨{a.p with keys:=o},.slice Ak o.length ck,a.mv⟩ (by rw[O.out];rfl) bp
   have J:i < (q.ms.set i ⟨{a.p with keys:=o},.slice Ak o.length ck,a.mv⟩).length:=by simpa using hi
   have am:=t9.at_.vD (b:=b) (off:=off) (n:=n) (cap:=cap) ak i (by show i < (x.mails.set i _).length;rw[List.length_set,F.out];exact D) J 6 (by omega) (.int .i64 (x.clock+1)) ⟨{a.p with keys:=o,mod:=x.clock+1},.slice Ak o.length ck,a.mv⟩ (by rw[List.getElem_set_self];rfl) ⟨(t9.at_.parts _ (List.getElem_mem J)|> fun h=>by rw[List.getElem_set_self] at h;exact h.keys),(t9.at_.parts _ (List.getElem_mem J)|> fun h=>by rw[List.getElem_set_self] at h;exact h.mem),(t9.at_.parts _ (List.getElem_mem J)|> fun h=>by rw[List.getElem_set_self] at h;exact h.tk),(t9.at_.parts _ (List.getElem_mem J)|> fun h=>by rw[List.getElem_set_self] at h;exact h.tm)⟩
   rw[←a5] at am
   have an:=(a0.out.trans t9).trans am
   simp only[List.set_set] at an
   obtain⟨q3,ch⟩:∃q3:zl,q3={q with ms:=q.ms.set i ⟨{a.p with keys:=o,mod:=x.clock+1},.slice Ak o.length ck,a.mv⟩}:=⟨_,rfl⟩
   obtain⟨r,Z⟩:∃r:Acc,r={x with clock:=x.clock+1,mails:=x.mails.set i {a.p with keys:=o,mod:=x.clock+1}}:=⟨_,rfl⟩
   have U:Turned w wg g q r q3:=by
    rw[Z,ch]
    exact an
   have ao:Sl wg 3 1 (.slice A3 M p3) h3 M (l.map encI):=by
    rw[a5]
    have a1:h3≠some b:=fun e=>by
     have G:=cx.out b e
     omega
    exact(bo.out.far (p:=⟨b,off+i * 8+4,none⟩) a1 _).far (p:=⟨b,off+i * 8+6,none⟩) a1 _
   have t:r.boxes=x.boxes:=by rw[Z]
   have bq:r.log=x.log:=by rw[Z]
   have br:l.length≤4294967296:=by
    rw[B.out]
    split
    ·simp
    ·simpa[yF] using b9
   have a9:∀j∈l,j∈ids x.boxes:=by
    rw[B.out]
    split
    ·simp
    ·exact H.out.fit.memIn ci.out
   have bs:x.boxes.length≤1099511627776:=by
    have:=H.out.fit.nb
    omega
   have bt:∀W,Below wg.heap.size wg W→Calls Tryz.prog 99 #[.pointer (some ⟨g,0,none⟩),.int .i64 (x.clock+1),.slice A3 M p3] W fun e w'=>∃v' hh,e=.returned v'∧Sl w' 177 4 v' hh (rise l).length (zM (zn (x.clock+1) (rise l)))∧(∀b,hh=some b→W.heap.size≤b)∧Turned W w' g q3 {r with boxes:=zf (x.clock+1) (rise l) r.boxes} q3:=fun W hb=>by
    have h2:Sl W 3 1 (.slice A3 M p3) h3 M (l.map encI):=ao.keep (fun b hb2=>hb.block b (ao.lt b hb2))
    have h3:RdS W [] 1 (.slice A3 M p3) l.length (l.map encI):=by
     rw[←d0.out]
     exact h2.reads [] (by simp)
    exact uS W g q3 r (U.at_.later hb) (by rw[t];exact bs) (x.clock+1) l (.slice A3 M p3) [] h3 (by omega) (by rw[t];exact a9)
   have V:1≤r.log.most∧r.log.most≤1099511627776∧r.log.es.length≤1099511627776:=by
    rw[bq]
    have G:=H.out.fit.log
    have h2:=H.out.fit.cfg.log
    rw[G.1]
    omega
   have a1:(rise l).length≤4294967296:=Nat.le_trans (zY l) br
   have bu:=zdG U
   have cy:=zdG bt
   have bv:=zdG V
   have cz:=zdG Z
   clear bp t9 J am an ch U ao t bq a9 bs bt V Z a5 g4 g6 r4 r6
   go_cut [] (fun wx=>∃a',Hid (Turned w wx g q {{r with boxes:=zf (x.clock+1) (rise l) r.boxes} with log:=r.log.add (zn (x.clock+1) (rise l)++[⟨x.clock+1,2,id,2⟩])} a'))
   case first=>
    refine zds wg g q3 r {r with boxes:=zf (x.clock+1) (rise l) r.boxes} (x.clock+1) id (rise l).length M A3 p3 (zn (x.clock+1) (rise l)) _ _ _ _ _ _ _ _ _ _ _ _ _ _ _ _ _ _ _ _ _ _ _ _ _ _ _ _ _ _ _ _ _ _ _ _ _ _ _ _ _ _ _ _ _ _ _ _ _ _ _ _ _ _ _ _ _ _ _ _ _ _ _ _ _ _ _ _ _ _ _ _ _ _ _ _ _ _ _ _ _ _ _ _ bu.out.at_ (yC _ _) a1 bv.out cy.out ?_
    intro dd de df dg dh di dj dk dl dm dn dp dq dr wx d2 aa
    have bw:=zdG (bu.out.trans aa)
    clear aa
    go_wp2_with fail
    go_meet
    exact⟨d2,bw⟩
   case rest=>
    obtain⟨a',ab⟩:=hcut
    obtain⟨wz,rfl⟩:∃wz:World,wz=wc:=⟨_,rfl⟩
    have bx:Hid (yu w g q rr (.returned (.int .i64 0)) wz):=zdG (by
     rw[be.out]
     refine⟨rfl,a',?_⟩
     have G:=ab.out
     rw[cz.out] at G
     exact G)
    clear ab
    go_wp2_with fail
    go_ret
    exact bx.out
theorem JW (w:World)(g:Nat)(q:zl)(x:Acc)(id:Int)(ks:zN)(vk:Value)(Sk:List Nat)(h:JD w g q x ks vk Sk) :
  Calls Tryz.prog 51 #[.pointer (some ⟨g,0,none⟩),.int .i64 id,vk] w (yu w g q (xM x id ks)):=by
 by_cases k:id∈vw x.mails
 case neg=>exact zdu w g q x id ks vk Sk h k
 have f:id∈vw (q.ms.map (·.p)):=by rw[h.at_.same];exact k
 obtain⟨i,e,b,_,_,c,a⟩:=Zh f
 rw[h.at_.same] at c a
 by_cases d:(zG ks).2=0
 case neg=>exact keys_bad w g q x id ks vk Sk h i e b a d
 by_cases j:(zG ks).1=q.ms[i].p.keys
 ·exact zdl w g q x id ks vk Sk h i e b a d j
 by_cases l:x.cfg.maxMod≤x.clock
 ·exact zcB w g q x id ks vk Sk h i e b a d j l
 ·exact keys_ok w g q x id ks vk Sk h i e b a d j l c
end Go.Proofs.YtfhlhdmhgheonaaGreatDoor
