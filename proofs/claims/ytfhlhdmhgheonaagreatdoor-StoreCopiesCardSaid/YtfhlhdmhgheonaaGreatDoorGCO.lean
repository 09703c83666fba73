/-
  A copy of an account, put together out of its pieces; no program in sight. What was told can be spoilt: emails in blocks of the call's own, of which single cells are written; no program in sight. The walk of the store's Copy. append onto a new slice that is empty, of whatever slice can be read: over any program. The walks of the reference's copies: Log.Copy, Mails, Store.Copy.
-/
import Derived.Test.YtfhlhdmhgheonaaGreatDoorGM
import Derived.Test.YtfhlhdmhgheonaaGreatDoorGBO
import Derived.Test.YtfhlhdmhgheonaaGreatDoorGD
import Derived.Test.YtfhlhdmhgheonaaGreatDoorGRS
import Derived.Test.YtfhlhdmhgheonaaGreatDoorGZ
import Derived.Deep.RegionHeld3
set_option maxRecDepth 100000
set_option maxHeartbeats 8000000
namespace Go.Proofs.YtfhlhdmhgheonaaGreatDoor
open Go.RowKit
theorem Z7.part {w:World}{B:Nat}{m:zR}(h:Z7 w B m):yD w [] m:=by
 obtain⟨c,d,a,b,_,_⟩:=h
 exact⟨a.reads [] (by simp),b.reads [] (by simp),a.ty,b.ty⟩
theorem V3 {w:World}{g gl:Nat}{hl hb hm:Option Nat}{vb vm:Value}{mc:List zR}{x:Acc}(hB:Blk w g 100 (cellsS ⟨gl,hl,hb,hm,vb,vm,mc⟩ x).toArray)(hlog:uF w gl hl x.log)(hbx:Sl w 89 6 vb hb x.boxes.length (zk xQ x.boxes))(hml:Sl w 54 8 vm hm x.mails.length (zk xP mc))(hs:mc.map (·.p)=x.mails)(hp:∀m∈mc,yD w [] m):zh w g ⟨gl,hl,hb,hm,vb,vm,mc⟩ x:=by
 refine⟨hB,hlog,hbx,hs,hml,fun m hmm=>?_⟩
 have e:Typed w (zl.own ⟨gl,hl,hb,hm,vb,vm,mc⟩ g):=by
  obtain⟨v,a,c⟩:=hlog
  intro b hb
  simp only[zl.own,List.mem_cons,List.mem_append] at hb
  rcases hb with rfl|rfl|(hb|hb)|hb
  ·exact⟨_,_,hB,by decide,by decide⟩
  ·exact⟨_,_,a,by decide,by decide⟩
  ·exact c.typed (by decide) (by decide) b hb
  ·exact hbx.typed (by decide) (by decide) b hb
  ·exact hml.typed (by decide) (by decide) b hb
 have d:=(hp m hmm).wider e
 rw[List.append_nil] at d
 exact d
theorem Vn {w:World}{g gl:Nat}{hl hb hm:Option Nat}{vb vm:Value}{mc:List zR}{x:Acc}(hB:Blk w g 46 (Zq ⟨gl,hl,hb,hm,vb,vm,mc⟩ x).toArray)(hlog:vL w gl hl x.log)(hbx:Sl w 89 6 vb hb x.boxes.length (zk xQ x.boxes))(hml:Sl w 54 8 vm hm x.mails.length (zk xP mc))(hs:mc.map (·.p)=x.mails)(hp:∀m∈mc,yD w [] m):zi w g ⟨gl,hl,hb,hm,vb,vm,mc⟩ x:=by
 refine⟨hB,hlog,hbx,hs,hml,fun m hmm=>?_⟩
 have e:Typed w (zl.own ⟨gl,hl,hb,hm,vb,vm,mc⟩ g):=by
  obtain⟨v,a,c⟩:=hlog
  intro b hb
  simp only[zl.own,List.mem_cons,List.mem_append] at hb
  rcases hb with rfl|rfl|(hb|hb)|hb
  ·exact⟨_,_,hB,by decide,by decide⟩
  ·exact⟨_,_,a,by decide,by decide⟩
  ·exact c.typed (by decide) (by decide) b hb
  ·exact hbx.typed (by decide) (by decide) b hb
  ·exact hml.typed (by decide) (by decide) b hb
 have d:=(hp m hmm).wider e
 rw[List.append_nil] at d
 exact d
structure Yo (w wr:World)(l:List zX)(o:Value)(h:Option Nat)(mc:List zR):Prop where
 sl:Sl wr 54 8 o h l.length (zk xP mc)
 same:mc.map (·.p)=l
 own:∀b,h=some b→w.heap.size≤b
 parts:∀m∈mc,Z7 wr w.heap.size m
theorem yR.all {w wr:World}{ms:List zR}{o:Value}{l:List zX}(h:yR w wr ms ms.length o)(hl:ms.map (·.p)=l):∃h2 mc,Yo w wr l o h2 mc:=by
 obtain⟨mc,h2,b,c,d,e⟩:=h.out
 rw[List.take_of_length_le (by simp),hl] at c
 have a:ms.length=l.length:=by rw[←hl];simp
 rw[a] at b
 exact⟨h2,mc,b,c,d,e⟩
theorem Yo.later {w wr w':World}{l:List zX}{o:Value}{h:Option Nat}{mc:List zR}(hc:Yo w wr l o h mc)(hb:Below wr.heap.size wr w'):Yo w w' l o h mc:=
 ⟨hc.sl.keep (fun b h=>hb.block b (hc.sl.lt b h)),hc.same,hc.own,fun m hm=>(hc.parts m hm).below hb⟩
theorem Yo.put {w wr:World}{l:List zX}{o:Value}{h:Option Nat}{mc:List zR}(hc:Yo w wr l o h mc)(b j:Nat)(u:Value)(hb:b < w.heap.size):Yo w (wr.setCell ⟨b,j,none⟩ u) l o h mc:=by
 have a:∀k:Option Nat,(∀b,k=some b→w.heap.size≤b)→k≠some b:=fun k hk e=>by
  have:=hk b e
  omega
 refine⟨hc.sl.far (p:=⟨b,j,none⟩) (a _ hc.own) u,hc.same,hc.own,fun m hm=>?_⟩
 obtain⟨f,g,i,n,c,d⟩:=hc.parts m hm
 exact⟨f,g,i.far (p:=⟨b,j,none⟩) (a _ c) u,n.far (p:=⟨b,j,none⟩) (a _ d) u,c,d⟩
theorem Yo.part {w wr:World}{l:List zX}{o:Value}{h:Option Nat}{mc:List zR}(hc:Yo w wr l o h mc):∀m∈mc,yD wr [] m:=fun m hm=>(hc.parts m hm).part
theorem Sl.anyset {w:World}{e:TypeId}{size n:Nat}{v:Value}{h:Option Nat}{xs:List Value}(hs:Sl w e size v h n xs)(b j:Nat)(u:Value):∃ys,Sl (w.setCell ⟨b,j,none⟩ u) e size v h n ys:=by
 rcases hs.2 with h1|⟨b',off,cap,cur,hh,hv,hB,hnc,hcm,hcs,ht⟩
 ·exact⟨xs,hs.1,.inl h1⟩
 ·by_cases a:b'=b
  ·subst a
   refine⟨((cur.setIfInBounds j u).toList.drop off).take (n * size),?_,.inr ⟨b',off,cap,cur.setIfInBounds j u,hh,hv,hB.set _ u,hnc,hcm,by simpa using hcs,rfl⟩⟩
   have c:n * size≤cap * size:=Nat.mul_le_mul_right _ hnc
   rw[List.length_take,List.length_drop,Array.length_toList,Array.size_setIfInBounds]
   omega
  ·exact⟨xs,hs.far (by rw[hh];exact fun he=>a (Option.some.inj he)) u⟩
def PartY (w:World)(B:Nat)(m:zR):Prop:=(∃hk xs,Sl w 9 1 m.kv hk m.p.keys.length xs∧∀b,hk=some b→B≤b)∧∃hm ys,Sl w 56 2 m.mv hm m.p.members.length ys∧∀b,hm=some b→B≤b
structure xO (w wr:World)(l:List zX)(o:Value)(h:Option Nat)(mc:List zR):Prop where
 below:Below w.heap.size w wr
 sl:Sl wr 54 8 o h l.length (zk xP mc)
 same:mc.map (·.p)=l
 parts:∀m∈mc,PartY wr w.heap.size m
section
variable {w wr:World} {l:List zX} {o:Value} {h:Option Nat} {mc:List zR}
theorem Yo.spoilt (hc:Yo w wr l o h mc)(hb:Below w.heap.size w wr):xO w wr l o h mc:=
 ⟨hb,hc.sl,hc.same,fun m hm=>by
  obtain⟨a,b,h1,h2,h3,h4⟩:=hc.parts m hm
  exact⟨⟨a,_,h1,h3⟩,⟨b,_,h2,h4⟩⟩⟩
theorem xO.len (hs:xO w wr l o h mc):mc.length=l.length:=by rw[←hs.same];simp
theorem xO.xu (hs:xO w wr l o h mc){b off n cap:Nat}(hv:o=.slice (some ⟨b,off,none⟩) n cap)(i:Nat)(hi:i < mc.length):∀j,j < 8→wr.cell? ⟨b,off+i * 8+j,none⟩=(xP mc[i])[j]?:=by
 intro j g
 have k:=hs.len
 obtain⟨m,e,f,_,a,_,_,_,c⟩:=hs.sl.at_ (by omega)
 rw[hv] at a
 simp only[Value.slice.injEq,Option.some.injEq,Addr.mk.injEq,and_true] at a
 obtain⟨⟨rfl,rfl⟩,_,_⟩:=a
 have d:=(c (i * 8+j) (by omega)).1
 rw[←Nat.add_assoc] at d
 exact d.trans (zy z8 mc i j hi g)
theorem xO.put (hs:xO w wr l o h mc)(b j:Nat)(u:Value)(hb:w.heap.size≤b)(hn:h≠some b):xO w (wr.setCell ⟨b,j,none⟩ u) l o h mc:=by
 refine⟨hs.below.setCell hb u,hs.sl.far hn u,hs.same,fun m hm=>?_⟩
 obtain⟨⟨e,q,f,g⟩,a,r,i,k⟩:=hs.parts m hm
 obtain⟨c,n⟩:=f.anyset b j u
 obtain⟨d,p⟩:=i.anyset b j u
 exact⟨⟨e,c,n,g⟩,a,d,p,k⟩
theorem xO.key (hs:xO w wr l o h mc){m:zR}(hm:m∈mc){b off n cap:Nat}(hv:m.kv=.slice (some ⟨b,off,none⟩) n cap)(k:Nat)(hk:k < m.p.keys.length) :
  (∃u,wr.cell? ⟨b,off+k,none⟩=some u)∧wr.frozen? ⟨b,off+k,none⟩=false∧∀u,xO w (wr.setCell ⟨b,off+k,none⟩ u) l o h mc:=by
 obtain⟨⟨r,f,e,q⟩,_⟩:=hs.parts m hm
 obtain⟨s,g,i,c,a,_,_,_,d⟩:=e.at_ (by omega)
 rw[hv] at a
 simp only[Value.slice.injEq,Option.some.injEq,Addr.mk.injEq,and_true] at a
 obtain⟨⟨rfl,rfl⟩,_,_⟩:=a
 have j:k < f.length:=by rw[e.1];omega
 refine⟨⟨f[k],((d k (by omega)).1).trans (List.getElem?_eq_getElem j)⟩,(d k (by omega)).2,fun u=>hs.put b (off+k) u (q b c) (e.XR hs.sl (by decide) b c)⟩
theorem xO.mem (hs:xO w wr l o h mc){m:zR}(hm:m∈mc){b off n cap:Nat}(hv:m.mv=.slice (some ⟨b,off,none⟩) n cap)(k:Nat)(hk:k < m.p.members.length) :
  (∃u,wr.cell? ⟨b,off+k * 2+1,none⟩=some u)∧wr.frozen? ⟨b,off+k * 2+1,none⟩=false∧∀u,xO w (wr.setCell ⟨b,off+k * 2+1,none⟩ u) l o h mc:=by
 obtain⟨_,s,g,e,r⟩:=hs.parts m hm
 obtain⟨t,i,j,c,a,_,_,_,f⟩:=e.at_ (by omega)
 rw[hv] at a
 simp only[Value.slice.injEq,Option.some.injEq,Addr.mk.injEq,and_true] at a
 obtain⟨⟨rfl,rfl⟩,_,_⟩:=a
 have q:k * 2+1 < g.length:=by rw[e.1];omega
 have d:=f (k * 2+1) (by omega)
 rw[←Nat.add_assoc] at d
 exact⟨⟨g[k * 2+1],d.1.trans (List.getElem?_eq_getElem q)⟩,d.2,fun u=>hs.put b (off+k * 2+1) u (r b c) (e.XR hs.sl (by decide) b c)⟩
theorem xO.keyForm (hs:xO w wr l o h mc){m:zR}(hm:m∈mc):∃A cap,m.kv=.slice A m.p.keys.length cap∧(0 < m.p.keys.length→∃b off,A=some ⟨b,off,none⟩):=by
 obtain⟨⟨f,g,c,i⟩,_⟩:=hs.parts m hm
 obtain⟨A,cap,d,_,_⟩:=c.form
 refine⟨A,cap,d,fun hp=>?_⟩
 obtain⟨b,off,e,_,a,_⟩:=c.at_ hp
 rw[d] at a
 exact⟨b,off,(Value.slice.inj a).1⟩
theorem xO.memForm (hs:xO w wr l o h mc){m:zR}(hm:m∈mc):∃A cap,m.mv=.slice A m.p.members.length cap∧(0 < m.p.members.length→∃b off,A=some ⟨b,off,none⟩):=by
 obtain⟨_,f,g,c,i⟩:=hs.parts m hm
 obtain⟨A,cap,d,_,_⟩:=c.form
 refine⟨A,cap,d,fun hp=>?_⟩
 obtain⟨b,off,e,_,a,_⟩:=c.at_ hp
 rw[d] at a
 exact⟨b,off,(Value.slice.inj a).1⟩
end
end Go.Proofs.YtfhlhdmhgheonaaGreatDoor
namespace Go.Proofs.YtfhlhdmhgheonaaGreatDoor
open Go.Shelf Go.RowKit
attribute [local go_sem ↓] Go.wp_at_zero Go.wp_at_succ
theorem zcN (w:World)(g:Nat)(q:zl)(x:Acc)(h:zh w g q x)(hn:XJ x)(hb:x.boxes.length≤1099511627776)(hl:x.log.es.length≤2199023255552) :
  Calls Tryz.prog 16 #[.pointer (some ⟨g,0,none⟩)] w fun e w'=>∃g2 q2,e=.returned (.pointer (some ⟨g2,0,none⟩))∧xI w w' g2 q2 x:=by
 have R:∀W,Below w.heap.size w W→W.cell? ⟨g,0,none⟩=some (.string ⟨x.cfg.user.toArray⟩)∧W.cell? ⟨g,1,none⟩=some (.string ⟨x.cfg.pass.toArray⟩)∧W.cell? ⟨g,2,none⟩=some (.int .i64 x.cfg.maxMails)∧W.cell? ⟨g,3,none⟩=some (.int .i64 x.cfg.maxBoxes)∧W.cell? ⟨g,4,none⟩=some (.int .i64 x.cfg.maxSize)∧W.cell? ⟨g,5,none⟩=some (.int .i64 x.cfg.maxUid)∧W.cell? ⟨g,6,none⟩=some (.int .i64 x.cfg.maxMod)∧W.cell? ⟨g,7,none⟩=some (.int .i64 x.cfg.maxLog)∧W.cell? ⟨g,8,none⟩=some (.int .i64 x.cfg.maxGet)∧W.cell? ⟨g,12,none⟩=some (.pointer (some ⟨q.gl,0,none⟩))∧W.cell? ⟨g,13,none⟩=some (.int .i64 x.lastBox)∧W.cell? ⟨g,14,none⟩=some (.int .i64 x.lastId)∧W.cell? ⟨g,15,none⟩=some (.int .i64 x.octets):=fun W hb=>⟨(h.later hb).cells 0,(h.later hb).cells 1,(h.later hb).cells 2,(h.later hb).cells 3,(h.later hb).cells 4,(h.later hb).cells 5,(h.later hb).cells 6,(h.later hb).cells 7,(h.later hb).cells 8,(h.later hb).cells 12,(h.later hb).cells 13,(h.later hb).cells 14,(h.later hb).cells 15⟩
 have v:=fun W (i:Below w.heap.size w W)=>Vi W g q x (h.later i) hb
 have y:=fun W (hb:Below w.heap.size w W)=>Vh W g q x (h.later hb) hn
 have z:=fun W (hb:Below w.heap.size w W)=>za1 W q.gl q.hl x.log (h.later hb).log hl
 have h9:∀W,Below w.heap.size w W→W.cell? ⟨g,9,none⟩=some (.int .i64 x.clock):=fun W hb=>(h.later hb).yo
 have S:=zdG h.same
 obtain⟨k0,k1,k2,k3,k4,k5,k6,k7,k8,a4,a5,a6,a7⟩:=R w (Below.refl _ _)
 have A:=zdG R
 have T:=zdG v
 have U:=zdG y
 have V:=zdG z
 have H9:=zdG h9
 have a8:=zdG (rfl:x.boxes=x.boxes)
 clear R v y z h9 h hn
 go_enter Tryz.func16,Tryz.ntmps16
 go_upto_region 3 with(fail)
 go_cut [3] (fun p n=>∃B q2,p=.pointer (some ⟨B,0,none⟩)∧Hid (xI w n B q2 {x with clock:=0}))
 case first=>
  go_region_held3 (fun W=>W.cell? ⟨g,0,none⟩=some (.string ⟨x.cfg.user.toArray⟩)∧W.cell? ⟨g,1,none⟩=some (.string ⟨x.cfg.pass.toArray⟩)∧W.cell? ⟨g,2,none⟩=some (.int .i64 x.cfg.maxMails)∧W.cell? ⟨g,3,none⟩=some (.int .i64 x.cfg.maxBoxes)∧W.cell? ⟨g,4,none⟩=some (.int .i64 x.cfg.maxSize)∧W.cell? ⟨g,5,none⟩=some (.int .i64 x.cfg.maxUid)∧W.cell? ⟨g,6,none⟩=some (.int .i64 x.cfg.maxMod)∧W.cell? ⟨g,7,none⟩=some (.int .i64 x.cfg.maxLog)∧W.cell? ⟨g,8,none⟩=some (.int .i64 x.cfg.maxGet)∧W.cell? ⟨g,12,none⟩=some (.pointer (some ⟨q.gl,0,none⟩))∧W.cell? ⟨g,13,none⟩=some (.int .i64 x.lastBox)∧W.cell? ⟨g,14,none⟩=some (.int .i64 x.lastId)∧W.cell? ⟨g,15,none⟩=some (.int .i64 x.octets)) (first|exact A.out _ (zb _)|exact A.out _ (Below.refl _ _)|exact A.out _ a.out|exact A.out _ c.out|exact A.out _ r.out|go_keep) (first
   |(go_at_call 39;refine(T.out _ (zb _)).mono ?_;rintro e w2 ⟨v2,C,rfl,s,D,i⟩;obtain⟨K,L,rfl,_,_⟩:=s.form;have a:Hid (Below w.heap.size w w2):=zdG (yV i);have o:=zdG s;have X:Hid (∀b,C=some b→w.heap.size≤b):=zdG (fun b hb=>by have:=D b hb;exact Nat.le_trans (Below.size (zb w)) this);clear s D i)
   |(go_at_call 18;refine(U.out _ a.out).mono ?_;rintro e M ⟨N,O,rfl,j⟩;obtain⟨P,Q,E⟩:=j.all S.out;have c:Hid (Below w.heap.size w M):=zdG (za a.out j.below);have l:Hid (Below w2.heap.size w2 M):=zdG j.below;have Y:=zdG E;clear j E)
   |(go_at_call 64;refine(V.out _ c.out).mono ?_;rintro e t ⟨F,G,rfl,f,u,H,I⟩;have r:Hid (Below w.heap.size w t):=zdG (za c.out u);have m:Hid (Below M.heap.size M t):=zdG u;have Z:=zdG f;have a0:=zdG H;have a1:=zdG I;clear f u H I)
   |fail)
  all_goals
   go_wp2_with fail
   go_meet
   have a9:=a.out.size
   have aa:=c.out.size
   have ab:=r.out.size
   have d:=(Y.out.later m.out).later (below_alloc1 t (.cells (cellsS ⟨F,G,C,P,.slice K x.boxes.length L,.slice N x.mails.length O,Q⟩ {x with clock:=0}).toArray 100))
   have a2:=((o.out.keep (fun b hb=>l.out.block b (o.out.lt b hb))).keep (fun b hb=>m.out.block b (Nat.lt_of_lt_of_le (o.out.lt b hb) l.out.size))).alloc (.cells (cellsS ⟨F,G,C,P,.slice K x.boxes.length L,.slice N x.mails.length O,Q⟩ {x with clock:=0}).toArray 100)
   have f:uF (t.alloc (.cells (cellsS ⟨F,G,C,P,.slice K x.boxes.length L,.slice N x.mails.length O,Q⟩ {x with clock:=0}).toArray 100)) F G x.log:=Z.out.chg (Chg.of_below (below_alloc1 t _) []) (by simp) (by simp)
   refine⟨t.heap.size,⟨F,G,C,P,.slice K x.boxes.length L,.slice N x.mails.length O,Q⟩,rfl,zdG ⟨V3 (Blk.new t _ _) f a2 d.sl d.same d.part,za r.out (below_alloc1 _ _),fun k hk=>?_⟩⟩
   simp only[zl.own,List.mem_cons,List.mem_append,Option.mem_toList] at hk
   rcases hk with rfl|rfl|(hk|hk)|hk
   ·omega
   ·have:=a0.out
    omega
   ·have:=a1.out k hk
    omega
   ·exact X.out k hk
   ·have:=d.own k hk
    omega
 case rest=>
  obtain⟨B,q2,rfl,J⟩:=hcut
  obtain⟨n,rfl⟩:∃n:World,n=wc:=⟨_,rfl⟩
  clear k0 k1 k2 k3 k4 k5 k6 k7 k8 a4 a5 a6 a7
  have b9:n.cell? ⟨B,9,none⟩=some (.int .i64 0):=J.out.at_.yo
  have a3:n.frozen? ⟨B,9,none⟩=false:=J.out.at_.frozen 9
  have g9:n.cell? ⟨g,9,none⟩=some (.int .i64 x.clock):=H9.out _ J.out.below
  go_upto_region 4 with(fail)
  go_region_with (first
   |(go_at_call 57;refine(Xz g 9 x.clock _ (by exact g9)).mono ?_;rintro e w5 ⟨rfl,rfl⟩)
   |(go_at_call 42;refine(ZM B 9 0 x.clock _ (by exact b9) (by exact a3)).mono ?_;rintro e w6 ⟨rfl,rfl⟩)
   |fail)
  go_wp2_with fail
  go_ret
  have ht:=(J.out.at_.drewN 1).yj 9 (.int .i64 x.clock) x rfl rfl rfl rfl
  exact⟨B,q2,rfl,(J.out.later (zb n)).turned ht⟩
end Go.Proofs.YtfhlhdmhgheonaaGreatDoor
namespace Go.Proofs.YtfhlhdmhgheonaaGreatDoor
open Go.RowKit
section
variable {P:Program} {w:World}
theorem Yb {t ty e:TypeId}{i:TypeInfo}{z:Value}{size bytes:Nat}(ht:P.underlying t=some (.slice e))(hi:P.info? e=some i)(hz:i.zero=some z)(hsize:i.size=size)(hby:i.bytes=bytes)(hzs:z.cells.size=size)(hsz:0 < size){b:Nat}(hsl:Sl w e size (.slice (some ⟨b,0,none⟩) 0 0) (some b) 0 []){u:Value}{m:Nat}{news:List Value}(hr:RdS w [] size u m news)(h1:∀y∈news,y.oneCell'=true)(h63:m≤maxLen)(hbytes:m * bytes≤140737488355328) :
  ∃v' h' w',(Builtin.append_ #[t,t] ty #[.slice (some ⟨b,0,none⟩) 0 0,u]).run P w=.ok v' w'∧Sl w' e size v' h' m news∧Chg [b] w w'∧(h'=some b∨∃g,h'=some g∧w.heap.size≤g):=by
 obtain⟨c,⟨rfl,rfl⟩|⟨a,h,rfl,o,p,k⟩⟩:=hr
 ·have n:news=[]:=List.eq_nil_of_length_eq_zero (by simpa using c)
  subst n
  refine⟨_,some b,w,?_,hsl,Chg.refl _ _,.inl rfl⟩
  simp[Builtin.append_,run_underlying ht,sizeOf,typeInfo,hi,Builtin.lenOf,Builtin.firstCells,storeCells]
 ·have d:∀j y,news[j]?=some y→w.cell? (a.add j)=some y:=uD a c k
  obtain⟨v',h',w',f,l,q,r⟩:=xG (P:=P) w (t:=t) (ty:=ty) ht hi hz hsize hby hzs hsz hsl a m h news c d h1 (by omega) (by simpa using hbytes)
  rw[Nat.zero_add,List.nil_append] at l
  exact⟨v',h',w',f,l,q,r⟩
theorem vF {ops:Array Oper}{rest:List Oper}{o:Oper}{a:Act}{Q:Exit→Act→World→Prop}(hgd:o.guard=none)(s x:Operand)(t:TypeId)(ho:o.op=.call {callee:=.builtin .append,args:=#[s,x],argTypes:=#[t,t]}){e:TypeId}{i:TypeInfo}{z:Value}{size bytes:Nat}(ht:P.underlying t=some (.slice e))(hi:P.info? e=some i)(hz:i.zero=some z)(hsize:i.size=size)(hby:i.bytes=bytes)(hzs:z.cells.size=size)(hsz:0 < size){b:Nat}(hsl:Sl w e size (.slice (some ⟨b,0,none⟩) 0 0) (some b) 0 [])(hs:a.eval s=.slice (some ⟨b,0,none⟩) 0 0){u:Value}{m:Nat}{news:List Value}(hr:RdS w [] size u m news)(hx:a.eval x=u)(h1:∀y∈news,y.oneCell'=true)(h63:m≤maxLen)(hbytes:m * bytes≤140737488355328)(hk:∀v' h' w',Sl w' e size v' h' m news→Chg [b] w w'→(h'=some b∨∃g,h'=some g∧w.heap.size≤g)→wpList P ops Q rest (a.put o.dst v') w') :
  wpList P ops Q (o :: rest) a w:=by
 refine wpList_plain hgd fun K hK=>?_
 obtain⟨v',h',w',c,d,f,h⟩:=Yb (P:=P) (t:=t) (ty:=o.type) ht hi hz hsize hby hzs hsz hsl hr h1 h63 hbytes
 unfold Oper.wp execOp
 simp only[ho,resolve,invoke,builtin,Sem.run_bind,Sem.run_pure,Result.andThen_ok,List.map_toArray,List.map_cons,List.map_nil,hs,hx,c]
 exact hK _ _ (hk v' h' w' d f h)
theorem Xh {ops:Array Oper}{o:Oper}{a:Act}{K:Act→World→Prop}{Q:Exit→Act→World→Prop}{E:Prop}(hgd:o.guard=none)(s x:Operand)(t:TypeId)(ho:o.op=.call {callee:=.builtin .append,args:=#[s,x],argTypes:=#[t,t]}){e:TypeId}{i:TypeInfo}{z:Value}{size bytes:Nat}(ht:P.underlying t=some (.slice e))(hi:P.info? e=some i)(hz:i.zero=some z)(hsize:i.size=size)(hby:i.bytes=bytes)(hzs:z.cells.size=size)(hsz:0 < size){b:Nat}(hsl:Sl w e size (.slice (some ⟨b,0,none⟩) 0 0) (some b) 0 [])(hs:a.eval s=.slice (some ⟨b,0,none⟩) 0 0){u:Value}{m:Nat}{news:List Value}(hr:RdS w [] size u m news)(hx:a.eval x=u)(h1:∀y∈news,y.oneCell'=true)(h63:m≤maxLen)(hbytes:m * bytes≤140737488355328)(hk:∀v' h' w',Sl w' e size v' h' m news→Chg [b] w w'→(h'=some b∨∃g,h'=some g∧w.heap.size≤g)→K (a.put o.dst v') w') :
  if Region.wanted o (yielded ops a.tmps)=true then Oper.wp P o a w K Q else E:=by
 have d:Region.wanted o (yielded ops a.tmps)=true:=by simp[Region.wanted,hgd]
 rw[if_pos d]
 obtain⟨v',h',w',c,f,h,j⟩:=Yb (P:=P) (t:=t) (ty:=o.type) ht hi hz hsize hby hzs hsz hsl hr h1 h63 hbytes
 unfold Oper.wp execOp
 simp only[ho,resolve,invoke,builtin,Sem.run_bind,Sem.run_pure,Result.andThen_ok,List.map_toArray,List.map_cons,List.map_nil,hs,hx,c]
 exact hk v' h' w' f h j
end
theorem Xg {B b n:Nat}{h':Option Nat}(ho:h'=some b∨∃g,h'=some g∧n≤g)(hb:B≤b)(hn:B≤n):∀k,h'=some k→B≤k:=by
 intro k a
 rcases ho with h1|⟨g,h1,h2⟩
 ·rw[h1] at a
  injection a with a
  omega
 ·rw[h1] at a
  injection a with a
  omega
theorem Z0 {w w':World}{o:Obj}(h:Chg [w.heap.size] (w.alloc o) w'):Below w.heap.size w w':=by
 have a:Below w.heap.size w (w.alloc o):=below_alloc1 w o
 exact a.trans (h.below a.size (fun k hk=>by simp at hk;omega))
end Go.Proofs.YtfhlhdmhgheonaaGreatDoor
namespace Go.Proofs.YtfhlhdmhgheonaaGreatDoor
open Go.Shelf Go.RowKit
attribute [local go_sem ↓] Go.wp_at_zero Go.wp_at_succ
theorem J8 (w:World)(g:Nat)(h:Option Nat)(x:Yc)(hl:vL w g h x)(hn:x.es.length≤1099511627776) :
  Calls Tryz.prog 66 #[.pointer (some ⟨g,0,none⟩)] w fun e w'=>∃g2 h2,e=.returned (.pointer (some ⟨g2,0,none⟩))∧vL w' g2 h2 x∧Below w.heap.size w w'∧w.heap.size≤g2∧∀b,h2=some b→w.heap.size≤b:=by
 obtain⟨R,J,E,F,G⟩:=info_parts Try.infoEntry
 obtain⟨v,s,H⟩:=hl
 obtain⟨A,j,rfl,_,_⟩:=H.form
 have d:=s.lt
 have y:∀W,Below w.heap.size w W→W.cell? ⟨g,0,none⟩=some (.int .i64 x.most)∧W.cell? ⟨g,1,none⟩=some (.slice A x.es.length j)∧W.cell? ⟨g,2,none⟩=some (.int .i64 x.floor):=fun W hb=>
  ⟨(hb.cell d).trans (s.cell 0),(hb.cell d).trans (s.cell 1),(hb.cell d).trans (s.cell 2)⟩
 have p:∀W,Below w.heap.size w W→RdS W [] 4 (.slice A x.es.length j) x.es.length (zM x.es):=fun W hb=>(H.reads [] (by simp)).below hb
 have f:=zdG y
 have q:=zdG p
 have r:=zdG (Y0 x.es)
 obtain⟨K,L,M⟩:=y w (Below.refl _ _)
 obtain⟨most,a⟩:∃most,x.most=most:=⟨_,rfl⟩
 obtain⟨u,l⟩:∃u,x.floor=u:=⟨_,rfl⟩
 obtain⟨n,m⟩:∃n,x.es.length=n:=⟨_,rfl⟩
 have z:Hid (x.most=most∧x.floor=u∧x.es.length=n):=zdG ⟨a,l,m⟩
 rw[m] at f q L hn
 rw[a] at f K
 rw[l] at f M
 clear s H y p a l m
 go_enter Tryz.func66,Tryz.ntmps66
 go_upto_region 1 with(fail)
 go_region_held3 (fun W=>W.cell? ⟨g,0,none⟩=some (.int .i64 most)∧W.cell? ⟨g,1,none⟩=some (.slice A n j)∧W.cell? ⟨g,2,none⟩=some (.int .i64 u)) (first|exact f.out _ (za (below_alloc1 _ _) (by first|exact Below.refl _ _|exact zb _))|exact f.out _ (below_alloc1 _ _)|exact f.out _ (by first|exact zb _|exact Below.refl _ _)|exact f.out _ i.out|go_keep) (first
  |(refine Xh (by rfl) (.tmp 7) (.tmp 11) _ (by rfl) Tryz.underlying102 J E F G rfl (by decide) (b:=w.heap.size) (by first|exact xg w _ _|exact(xg w _ _).heap rfl) (by simp[Act.eval]) (q.out _ (by first|exact below_alloc1 _ _|exact za (below_alloc1 _ _) (zb _))) (by simp[Act.eval]) r.out (by unfold maxLen;omega) (by omega) ?_;intro S h2 I o c t;obtain⟨T,N,rfl,_,_⟩:=o.form;have i:Hid (Below w.heap.size w I):=zdG (Z0 ⟨c.os,c.tape,c.output,c.size,c.block⟩);have B:=zdG o;have C:Hid (∀k,h2=some k→w.heap.size≤k):=zdG (Xg t (Nat.le_refl _) (by simp));clear o c t)
  |fail)
 all_goals
  go_wp2_with fail
  go_ret
  have D:=i.out.size
  obtain⟨O,P,Q⟩:=z.out
  refine⟨I.heap.size,h2,rfl,⟨_,by rw[O,P];exact Blk.new I _ _,by rw[Q];exact B.out.alloc _⟩,za i.out (below_alloc1 _ _),D,C.out⟩
theorem zbg (w:World)(g:Nat)(q:zl)(x:Acc)(h:zi w g q x)(hn:XJ x) :
  Calls Tryz.prog 65 #[.pointer (some ⟨g,0,none⟩)] w fun e w'=>∃A c,e=.returned (.slice A x.mails.length c)∧yR w w' q.ms q.ms.length (.slice A x.mails.length c):=by
 obtain⟨i0,hi,bz,b',c1⟩:=info_parts Try.infoMail2
 obtain⟨j0,hj,c3,c5,c6⟩:=info_parts Try.infoString
 obtain⟨k0,c7,c8,c9,ca⟩:=info_parts Try.infoMember
 have S:=h.Za
 have r:=h.zU
 have ae:=h.blk.lt
 obtain⟨Am,cm,a7,_,_⟩:=h.mails.form
 rw[a7] at r
 obtain⟨n,N⟩:∃n,x.mails.length=n:=⟨_,rfl⟩
 rw[N] at r S ⊢
 have a':=hn.1
 rw[N] at a'
 have b0:Hid (yR w w q.ms 0 (.slice none 0 0)):=zdG ⟨Below.refl _ _,[],none,Sl.nil _ _ _,by simp,fun b hb=>(by cases hb),fun m hm=>(by cases hm)⟩
 have HW:=zdG h
 have HN:=zdG hn
 have b1:=zdG N
 have b2:=zdG a7
 have b3:=zdG ae
 have af:=zdG r
 clear h hn N a7 r ae
 go_enter Tryz.func65,Tryz.ntmps65
 go_wp2
 go_loopw [3,4] (fun o i wr=>∃k:Nat,k≤n∧i=.int .i64 k∧Hid (yR w wr q.ms k o)) (fun _ i _=>n - (intOf i).toNat)
 case atStart=>exact⟨0,Nat.zero_le _,rfl,b0⟩
 case round=>
  obtain⟨k,hk,rfl,E⟩:=hrel
  have r:wr.cell? ⟨g,11,none⟩=some (.slice Am n cm):=(E.out.below.cell b3.out).trans af.out
  by_cases bx:k < n
  ·have cb:(k:Int) < (n:Int):=by omega
   have cc:(0:Int)≤(k:Int):=by omega
   have cd:IntKind.i64.wrap ((k:Int)+1)=(k:Int)+1:=IntWalk.i64_in _ (by omega)
   have H:k < q.ms.length:=by omega
   obtain⟨b,l,ce,hv,_,_,_,ar,au⟩:=HW.out.xu k (by rw[b1.out];exact bx) H
   have b6:=hv.symm.trans b2.out
   injection b6 with hv3 _ hv4
   subst hv3 hv4
   have d:∀j,j < 8→wr.cell? ⟨b,l+k * 8+j,none⟩=(xP q.ms[k])[j]?:=fun j hj=>(E.out.below.cell ar).trans (au j hj).1
   obtain⟨a,a8⟩:∃a,q.ms[k]=a:=⟨_,rfl⟩
   have t:=(HW.out.parts q.ms[k] (List.getElem_mem H))
   have ag:=HN.out.2 q.ms[k].p (by rw[←HW.out.same];exact List.mem_map_of_mem (List.getElem_mem H))
   rw[a8] at d t ag
   have e0:wr.cell? ⟨b,l+k * 8,none⟩=some (.int .i64 a.p.id):=d 0 (by omega)
   have e1:wr.cell? ⟨b,l+k * 8+1,none⟩=some (.int .i64 a.p.thread):=d 1 (by omega)
   have e2:wr.cell? ⟨b,l+k * 8+2,none⟩=some (.string ⟨a.p.text.toArray⟩):=d 2 (by omega)
   have e3:wr.cell? ⟨b,l+k * 8+3,none⟩=some (.int .i64 a.p.at_):=d 3 (by omega)
   have e4:wr.cell? ⟨b,l+k * 8+4,none⟩=some a.kv:=d 4 (by omega)
   have e5:wr.cell? ⟨b,l+k * 8+5,none⟩=some a.mv:=d 5 (by omega)
   have e6:wr.cell? ⟨b,l+k * 8+6,none⟩=some (.int .i64 a.p.mod):=d 6 (by omega)
   have e7:wr.cell? ⟨b,l+k * 8+7,none⟩=some (.int .i64 a.p.born):=d 7 (by omega)
   obtain⟨Ak,ck,a9,_,_⟩:=t.keys.form
   obtain⟨Av,cv,aa,_,_⟩:=t.mem.form
   rw[a9] at e4
   rw[aa] at e5
   have ah:∀W,Below wr.heap.size wr W→RdS W [] 1 (.slice Ak a.p.keys.length ck) a.p.keys.length (a.p.keys.map encStr):=fun W hb=>by
    rw[←a9]
    exact t.keys.keep (T:=[]) (za E.out.below hb).size (fun b h _=>(za E.out.below hb).block b h) (fun _ _ _ h=>by cases h)
   have ai:∀W,Below wr.heap.size wr W→RdS W [] 2 (.slice Av a.p.members.length cv) a.p.members.length (zk zA a.p.members):=fun W hb=>by
    rw[←aa]
    exact t.mem.keep (T:=[]) (za E.out.below hb).size (fun b h _=>(za E.out.below hb).block b h) (fun _ _ _ h=>by cases h)
   obtain⟨mc,h0,z,O,P,Q⟩:=E.out.out
   obtain⟨A0,c0,rfl,_,_⟩:=z.form
   obtain⟨cf,cg⟩:=ag
   have b7:=zdG ah
   have b8:=zdG ai
   have aj:=zdG z
   have b9:=zdG O
   have ba:=zdG P
   have bb:=zdG Q
   have bc:=zdG a8
   have bd:Hid (∀u∈a.p.keys.map encStr,u.oneCell'=true):=zdG (fun u hu=>by obtain⟨s,_,rfl⟩:=List.mem_map.1 hu;rfl)
   have be:Hid (∀u∈zk zA a.p.members,u.oneCell'=true):=zdG (ZI Yz _)
   clear z O P Q a8 au d t a9 aa ah ai
   go_upto_region 6 with(fail)
   obtain⟨U,R⟩:∃U:World,U=wr.alloc (.cells #[.int .i64 a.p.id,.int .i64 a.p.thread,.string ⟨a.p.text.toArray⟩,.int .i64 a.p.at_,.slice Ak a.p.keys.length ck,.slice Av a.p.members.length cv,.int .i64 a.p.mod,.int .i64 a.p.born] 54):=⟨_,rfl⟩
   rw[←R]
   have I:Blk U wr.heap.size 54 #[.int .i64 a.p.id,.int .i64 a.p.thread,.string ⟨a.p.text.toArray⟩,.int .i64 a.p.at_,.slice Ak a.p.keys.length ck,.slice Av a.p.members.length cv,.int .i64 a.p.mod,.int .i64 a.p.born]:=by
    rw[R]
    exact Blk.new _ _ _
   have ak:Below wr.heap.size wr U:=by
    rw[R]
    exact below_alloc1 _ _
   have a4:U.cell? ⟨wr.heap.size,4,none⟩=some (.slice Ak a.p.keys.length ck):=I.cell 4
   have bf:=(World.cell?_alloc_lt U (.cells #[] 9) ⟨wr.heap.size,4,none⟩ I.lt).trans a4
   have Y:=zdG I
   have al:=zdG ak
   clear R I ak e0 e1 e2 e3 e4 e5 e6 e7 r
   go_upto_region 7 with(first
    |(at_builtin;refine vF rfl _ _ 38 rfl Tryz.underlying38 hj c3 c5 c6 rfl (by decide) (xg U 9 1) rfl (b7.out _ (za al.out (below_alloc1 _ _))) rfl bd.out (by unfold maxLen;omega) (by omega) ?_;intro v2 h2 w2 F ab v;have bg:=Y.out.lt;have J:=(Y.out.alloc (.cells #[] 9)).chg ab (by simp;omega);have b4:w2.cell? ⟨wr.heap.size,4,none⟩=some (.slice Ak a.p.keys.length ck):=J.cell 4;have bh:=J.frozen 4;have bi:=zdG J;have bj:=zdG ab;have bk:=zdG F;have bl:=zdG v;obtain⟨A2,c2,rfl,_,_⟩:=F.form;clear J ab F v bg)
    |fail)
   have am:=Z0 bj.out
   have C:=bi.out.set 4 (.slice A2 a.p.keys.length c2)
   have v:=Xg bl.out (B:=U.heap.size) (Nat.le_refl _) (by simp)
   have Z:=Y.out.lt
   have a0:=bk.out.far (p:=⟨wr.heap.size,4,none⟩) (fun e=>by have:=v _ e;simp at this;omega) (.slice A2 a.p.keys.length c2)
   have a1:Below wr.heap.size wr (w2.setCell ⟨wr.heap.size,4,none⟩ (.slice A2 a.p.keys.length c2)):=(za al.out am).setCell (Nat.le_refl _) _
   obtain⟨w3,av⟩:∃w3:World,w3=w2.setCell ⟨wr.heap.size,4,none⟩ (.slice A2 a.p.keys.length c2):=⟨_,rfl⟩
   rw[←av] at C a0 a1 ⊢
   have a5:w3.cell? ⟨wr.heap.size,5,none⟩=some (.slice Av a.p.members.length cv):=C.cell 5
   have bm:=(World.cell?_alloc_lt w3 (.cells #[] 56) ⟨wr.heap.size,5,none⟩ C.lt).trans a5
   have K:=zdG C
   have an:=zdG a1
   have a2:=zdG a0
   have bn:Hid (∀b,h2=some b→wr.heap.size≤b):=zdG (fun b hb=>by have:=v b hb;omega)
   clear C a1 a0 av am v Z b4 bh a4 bf
   go_upto_region 8 with(first
    |(at_builtin;refine vF rfl _ _ 52 rfl Tryz.underlying52 c7 c8 c9 ca rfl (by decide) (xg w3 56 2) rfl (b8.out _ (za an.out (below_alloc1 _ _))) rfl be.out (by unfold maxLen;omega) (by omega) ?_;intro v4 h4 w4 ac ad y;have bo:=K.out.lt;have L:=(K.out.alloc (.cells #[] 56)).chg ad (by simp;omega);have b5:w4.cell? ⟨wr.heap.size,5,none⟩=some (.slice Av a.p.members.length cv):=L.cell 5;have bp:=L.frozen 5;have bq:=zdG L;have br:=zdG ad;have bs:=zdG ac;have bt:=zdG y;obtain⟨V,X,rfl,_,_⟩:=ac.form;clear L ad ac y bo)
    |fail)
   have a3:=Z0 br.out
   have f:=bq.out.set 5 (.slice V a.p.members.length X)
   have y:=Xg bt.out (B:=w3.heap.size) (Nat.le_refl _) (by simp)
   have Z:=K.out.lt
   have a6:=bs.out.far (p:=⟨wr.heap.size,5,none⟩) (fun e=>by have:=y _ e;simp at this;omega) (.slice V a.p.members.length X)
   have D:=(a2.out.keep (fun b hb=>a3.block b (a2.out.lt b hb))).far (p:=⟨wr.heap.size,5,none⟩) (a2.out.yN K.out (by decide) _ · rfl) (.slice V a.p.members.length X)
   have M:Below wr.heap.size wr (w4.setCell ⟨wr.heap.size,5,none⟩ (.slice V a.p.members.length X)):=(za an.out a3).setCell (Nat.le_refl _) _
   obtain⟨G,aw⟩:∃G:World,G=w4.setCell ⟨wr.heap.size,5,none⟩ (.slice V a.p.members.length X):=⟨_,rfl⟩
   rw[←aw] at f a6 D M ⊢
   have d0:G.cell? ⟨wr.heap.size,0,none⟩=some (.int .i64 a.p.id):=f.cell 0
   have d1:G.cell? ⟨wr.heap.size,1,none⟩=some (.int .i64 a.p.thread):=f.cell 1
   have d2:G.cell? ⟨wr.heap.size,2,none⟩=some (.string ⟨a.p.text.toArray⟩):=f.cell 2
   have d3:G.cell? ⟨wr.heap.size,3,none⟩=some (.int .i64 a.p.at_):=f.cell 3
   have d4:G.cell? ⟨wr.heap.size,4,none⟩=some (.slice A2 a.p.keys.length c2):=f.cell 4
   have d5:G.cell? ⟨wr.heap.size,5,none⟩=some (.slice V a.p.members.length X):=f.cell 5
   have d6:G.cell? ⟨wr.heap.size,6,none⟩=some (.int .i64 a.p.mod):=f.cell 6
   have d7:G.cell? ⟨wr.heap.size,7,none⟩=some (.int .i64 a.p.born):=f.cell 7
   have bu:=zdG M
   have ao:=zdG (aj.out.keep (fun b hb=>M.block b (aj.out.lt b hb)))
   have ap:=E.out.below.size
   have bv:Hid (Z7 G w.heap.size ⟨a.p,.slice A2 a.p.keys.length c2,.slice V a.p.members.length X⟩):=zdG ⟨h2,h4,D,a6,fun b hb=>Nat.le_trans ap (bn.out b hb),fun b hb=>by have:=y b hb;omega⟩
   clear f a6 D M aw a3 y Z b5 bp a5 bm ap
   go_wp2_with (first
    |(at_builtin;refine zC rfl _ _ 43 rfl Tryz.underlying43 hi bz b' c1 rfl (by decide) ao.out rfl 1 1 rfl rfl ?_ ?_ ?_ ?_)
    |fail)
   ·simp[Value.oneCell']
   ·unfold maxLen
    omega
   ·omega
   ·intro v6 h6 w6 ax ay az
    have aq:Hid (yR w w6 q.ms (k+1) v6):=zdG (yR.next (m:=⟨a.p,.slice A2 a.p.keys.length c2,.slice V a.p.members.length X⟩) E.out.below H b9.out bb.out bu.out (by rw[bc.out]) bv.out ao.out ba.out ax ay az)
    clear ax ay az
    go_wp2
    refine⟨?_,by simp[intOf];omega⟩
    first|exact⟨k+1,by omega,by go_num,aq⟩|((repeat apply Exists.intro);exact⟨⟨k+1,by omega,by go_num,aq⟩,rfl⟩)
  ·have bw:k=n:=by omega
   subst bw
   have hl:q.ms.length=k:=S
   obtain⟨mc,h0,z,O,P,Q⟩:=E.out.out
   obtain⟨A0,c0,rfl,_,_⟩:=z.form
   have HF:Hid (yR w wr q.ms q.ms.length (.slice A0 k c0)):=zdG (by rw[hl];exact E.out)
   clear z O P Q
   go_wp2
   go_ret
   exact⟨_,_,rfl,HF.out⟩
theorem zcS (w:World)(g:Nat)(q:zl)(x:Acc)(h:zi w g q x)(hn:XJ x)(hb:x.boxes.length≤1099511627776)(hl:x.log.es.length≤1099511627776) :
  Calls Tryz.prog 17 #[.pointer (some ⟨g,0,none⟩)] w fun e w'=>∃g2 q2,e=.returned (.pointer (some ⟨g2,0,none⟩))∧Yr w w' g2 q2 x:=by
 obtain⟨i0,hi,b8,b9,ba⟩:=info_parts Try.infoBox
 obtain⟨t,u,I,_,_⟩:=h.boxes.form
 obtain⟨Am,cm,af,_,_⟩:=h.mails.form
 have a:=h.blk
 have Q:(Zq q x).toArray=#[.string ⟨x.cfg.user.toArray⟩,.string ⟨x.cfg.pass.toArray⟩,.int .i64 x.cfg.maxMails,.int .i64 x.cfg.maxBoxes,.int .i64 x.cfg.maxSize,.int .i64 x.cfg.maxUid,.int .i64 x.cfg.maxMod,.int .i64 x.cfg.maxLog,.int .i64 x.cfg.maxGet,.int .i64 x.clock,.slice t x.boxes.length u,.slice Am x.mails.length cm,.pointer (some ⟨q.gl,0,none⟩),.int .i64 x.lastBox,.int .i64 x.lastId]:=by
  unfold Zq zdx
  rw[I,af]
  rfl
 rw[Q] at a
 have k0:w.cell? ⟨g,0,none⟩=some (.string ⟨x.cfg.user.toArray⟩):=a.cell 0
 have k1:w.cell? ⟨g,1,none⟩=some (.string ⟨x.cfg.pass.toArray⟩):=a.cell 1
 have k2:w.cell? ⟨g,2,none⟩=some (.int .i64 x.cfg.maxMails):=a.cell 2
 have k3:w.cell? ⟨g,3,none⟩=some (.int .i64 x.cfg.maxBoxes):=a.cell 3
 have k4:w.cell? ⟨g,4,none⟩=some (.int .i64 x.cfg.maxSize):=a.cell 4
 have k5:w.cell? ⟨g,5,none⟩=some (.int .i64 x.cfg.maxUid):=a.cell 5
 have k6:w.cell? ⟨g,6,none⟩=some (.int .i64 x.cfg.maxMod):=a.cell 6
 have k7:w.cell? ⟨g,7,none⟩=some (.int .i64 x.cfg.maxLog):=a.cell 7
 have k8:w.cell? ⟨g,8,none⟩=some (.int .i64 x.cfg.maxGet):=a.cell 8
 have k9:w.cell? ⟨g,9,none⟩=some (.int .i64 x.clock):=a.cell 9
 have R:w.cell? ⟨g,10,none⟩=some (.slice t x.boxes.length u):=a.cell 10
 have al:w.cell? ⟨g,11,none⟩=some (.slice Am x.mails.length cm):=a.cell 11
 have S:w.cell? ⟨g,12,none⟩=some (.pointer (some ⟨q.gl,0,none⟩)):=a.cell 12
 have am:w.cell? ⟨g,13,none⟩=some (.int .i64 x.lastBox):=a.cell 13
 have an:w.cell? ⟨g,14,none⟩=some (.int .i64 x.lastId):=a.cell 14
 have T:=fun W (hb:Below w.heap.size w W)=>zbg W g q x (h.later hb) hn
 have U:=fun W (hb:Below w.heap.size w W)=>J8 W q.gl q.hl x.log (h.later hb).log hl
 have V:∀W,Below w.heap.size w W→RdS W [] 6 (.slice t x.boxes.length u) x.boxes.length (zk xQ x.boxes):=fun W hb=>by
  rw[←I]
  exact(h.later hb).boxes.reads [] (by simp)
 have hK:∀W,Below w.heap.size w W→W.cell? ⟨g,10,none⟩=some (.slice t x.boxes.length u)∧W.cell? ⟨g,12,none⟩=some (.pointer (some ⟨q.gl,0,none⟩)):=fun W hb=>⟨(hb.cell h.blk.lt).trans R,(hb.cell h.blk.lt).trans S⟩
 have ao:=zdG T
 have ap:=zdG U
 have aq:=zdG V
 have HK:=zdG hK
 have X:=zdG (ZI U7 x.boxes)
 have ar:=zdG h.same
 clear a Q I af T U V hK h hn
 go_enter Tryz.func17,Tryz.ntmps17
 go_upto_region 2 with(fail)
 obtain⟨y,z⟩:∃y:World,y=w.alloc (.cells #[.string ⟨x.cfg.user.toArray⟩,.string ⟨x.cfg.pass.toArray⟩,.int .i64 x.cfg.maxMails,.int .i64 x.cfg.maxBoxes,.int .i64 x.cfg.maxSize,.int .i64 x.cfg.maxUid,.int .i64 x.cfg.maxMod,.int .i64 x.cfg.maxLog,.int .i64 x.cfg.maxGet,.int .i64 x.clock,.slice t x.boxes.length u,.slice Am x.mails.length cm,.pointer (some ⟨q.gl,0,none⟩),.int .i64 x.lastBox,.int .i64 x.lastId] 46):=⟨_,rfl⟩
 rw[←z]
 have Y:Blk y w.heap.size 46 #[.string ⟨x.cfg.user.toArray⟩,.string ⟨x.cfg.pass.toArray⟩,.int .i64 x.cfg.maxMails,.int .i64 x.cfg.maxBoxes,.int .i64 x.cfg.maxSize,.int .i64 x.cfg.maxUid,.int .i64 x.cfg.maxMod,.int .i64 x.cfg.maxLog,.int .i64 x.cfg.maxGet,.int .i64 x.clock,.slice t x.boxes.length u,.slice Am x.mails.length cm,.pointer (some ⟨q.gl,0,none⟩),.int .i64 x.lastBox,.int .i64 x.lastId]:=by
  rw[z]
  exact Blk.new _ _ _
 have j:Below w.heap.size w y:=by
  rw[z]
  exact below_alloc1 _ _
 have au:y.cell? ⟨g,10,none⟩=some (.slice t x.boxes.length u):=(HK.out y j).1
 have Z:(y.alloc (.cells #[] 89)).cell? ⟨g,10,none⟩=some (.slice t x.boxes.length u):=(HK.out _ (za j (below_alloc1 _ _))).1
 have A:=zdG Y
 have a0:=zdG j
 clear z Y j k0 k1 k2 k3 k4 k5 k6 k7 k8 k9 R al S am an
 go_upto_region 3 with(first
  |(at_builtin;refine vF rfl _ _ 42 rfl Tryz.underlying42 hi b8 b9 ba rfl (by decide) (xg y 89 6) rfl (aq.out _ (za a0.out (below_alloc1 _ _))) rfl X.out (by unfold maxLen;omega) (by omega) ?_;intro v2 h2 w2 J K d;have av:=A.out.lt;have l:=(A.out.alloc (.cells #[] 89)).chg K (by simp;omega);have aw:w2.cell? ⟨w.heap.size,10,none⟩=some (.slice t x.boxes.length u):=l.cell 10;have a1:=l.frozen 10;have ax:=zdG l;have ay:=zdG K;have az:=zdG J;have a':=zdG d;obtain⟨A2,c2,rfl,_,_⟩:=J.form;clear l K J d av)
  |fail)
 have a2:=Z0 ay.out
 have C:=ax.out.set 10 (.slice A2 x.boxes.length c2)
 have d:=Xg a'.out (B:=y.heap.size) (Nat.le_refl _) (by simp)
 have b0:=A.out.lt
 have D:=az.out.far (p:=⟨w.heap.size,10,none⟩) (fun e=>by have:=d _ e;simp at this;omega) (.slice A2 x.boxes.length c2)
 have E:Below w.heap.size w (w2.setCell ⟨w.heap.size,10,none⟩ (.slice A2 x.boxes.length c2)):=(za a0.out a2).setCell (Nat.le_refl _) _
 obtain⟨w3,ag⟩:∃w3:World,w3=w2.setCell ⟨w.heap.size,10,none⟩ (.slice A2 x.boxes.length c2):=⟨_,rfl⟩
 rw[←ag] at C D E ⊢
 have m:=zdG C
 have F:=zdG E
 have a3:=zdG D
 have a4:Hid (∀b,h2=some b→w.heap.size < b):=zdG (fun b hb=>by have:=d b hb;omega)
 clear C E D ag a2 d b0 aw a1 au Z
 go_upto_region 4 with(first
  |(go_at_call 65;refine(ao.out _ F.out).mono ?_;rintro e w4 ⟨O,P,rfl,i⟩;obtain⟨h4,mc,ah⟩:=i.all ar.out;have n:=m.out.below i.below m.out.lt;have b1:w4.cell? ⟨w.heap.size,11,none⟩=some (.slice Am x.mails.length cm):=n.cell 11;have a5:=n.frozen 11;have b2:=zdG n;have b3:=zdG (za F.out i.below);have a6:=zdG i.below;have b4:=zdG ah;clear n i ah)
  |fail)
 obtain⟨w5,L⟩:∃w5:World,w5=w4.setCell ⟨w.heap.size,11,none⟩ (.slice O x.mails.length P):=⟨_,rfl⟩
 have G:=b2.out.set 11 (.slice O x.mails.length P)
 have c:Below w.heap.size w (w4.setCell ⟨w.heap.size,11,none⟩ (.slice O x.mails.length P)):=b3.out.setCell (Nat.le_refl _) _
 rw[←L] at G c ⊢
 have H:=zdG G
 have a7:=zdG c
 have a8:=zdG L
 have bc:w5.cell? ⟨g,12,none⟩=some (.pointer (some ⟨q.gl,0,none⟩)):=(HK.out _ c).2
 clear G c L b1 a5
 go_upto_region 5 with(first
  |(go_at_call 66;refine(ap.out _ a7.out).mono ?_;rintro e w6 ⟨M,h6,rfl,ai,N,aj,ak⟩;have o:=H.out.below N H.out.lt;have bd:w6.cell? ⟨w.heap.size,12,none⟩=some (.pointer (some ⟨q.gl,0,none⟩)):=o.cell 12;have bb:=o.frozen 12;have b5:=zdG o;have r:=zdG N;have b6:=zdG ai;have a9:=zdG aj;have aa:=zdG ak;clear o N ai aj ak)
  |fail)
 go_wp2_with fail
 go_ret
 have be:=H.out.lt
 have z1:=r.out.size
 have ab:w.heap.size≠M:=fun e=>by have:=a9.out;omega
 have ac:vL (w6.setCell ⟨w.heap.size,12,none⟩ (.pointer (some ⟨M,0,none⟩))) M h6 x.log:=by
  obtain⟨v,g1,g2⟩:=b6.out
  exact⟨v,g1.far (p:=⟨w.heap.size,12,none⟩) (fun e=>ab e.symm) _,g2.far (p:=⟨w.heap.size,12,none⟩) (fun e=>by have:=aa.out _ e;simp at this;omega) _⟩
 have s:=((b4.out.put w.heap.size 11 (.slice O x.mails.length P) m.out.lt).later (w':=w6) (by rw[←a8.out];exact r.out)).put w.heap.size 12 (.pointer (some ⟨M,0,none⟩)) m.out.lt
 have ad:h2≠some w.heap.size:=fun e=>by have:=a4.out _ e;omega
 have f:=(a3.out.keep (fun b hb=>a6.out.block b (a3.out.lt b hb))).far (p:=⟨w.heap.size,11,none⟩) ad (.slice O x.mails.length P)
 rw[←a8.out] at f
 have ae:=(f.keep (fun b hb=>r.out.block b (f.lt b hb))).far (p:=⟨w.heap.size,12,none⟩) ad (.pointer (some ⟨M,0,none⟩))
 have b7:=b5.out.set 12 (.pointer (some ⟨M,0,none⟩))
 have bf:=F.out.size
 refine⟨w.heap.size,⟨M,h6,h2,h4,.slice A2 x.boxes.length c2,.slice O x.mails.length P,mc⟩,rfl,Vn b7 ac ae s.sl s.same s.part,(za a7.out r.out).setCell (Nat.le_refl _) _,fun k hk=>?_⟩
 simp only[zl.own,List.mem_cons,List.mem_append,Option.mem_toList] at hk
 rcases hk with rfl|rfl|(hk|hk)|hk
 ·exact Nat.le_refl _
 ·have:=a9.out
  omega
 ·have:=aa.out k hk
  omega
 ·have:=a4.out k hk
  omega
 ·have:=s.own k hk
  omega
end Go.Proofs.YtfhlhdmhgheonaaGreatDoor
