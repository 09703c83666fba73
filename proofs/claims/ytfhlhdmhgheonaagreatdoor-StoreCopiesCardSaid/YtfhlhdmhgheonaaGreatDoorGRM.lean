/-
  The walk of the reference's Make. The walk of the reference's once: numbers put in one by one.
-/
import Derived.Test.YtfhlhdmhgheonaaGreatDoorGRQ
import Derived.Test.YtfhlhdmhgheonaaGreatDoorGU
import Derived.Test.YtfhlhdmhgheonaaGreatDoorGX
set_option maxRecDepth 100000
set_option maxHeartbeats 8000000
namespace Go.Proofs.YtfhlhdmhgheonaaGreatDoor
open Go.Shelf Go.RowKit
attribute [local go_sem ↓] Go.wp_at_zero Go.wp_at_succ
def vS (w:World)(g:Nat)(q:zl)(r:Acc×Int×Int)(e:Ending)(w':World):Prop:=e=.returned (.tuple #[.int .i64 r.2.1,.int .i64 r.2.2])∧∃q',ze w w' g q r.1 q'
theorem Yh {W:World}{g:Nat}{q:zl}{x:Acc}(h:zi W g q x)(hm1:1≤x.log.most)(hm2:x.log.most≤1099511627776)(hn1:x.log.es.length≤1099511627776){e:List E4}{A:Option Addr}{c n:Nat}{hh:Option Nat}(hs:Sl W 177 4 (.slice A n c) hh n (zM e))(hn:e.length=n)(hn2:n≤1099511627776)(hho:∀b,hh=some b→b∉q.own g) :
  Calls Tryz.prog 108 #[.pointer (some ⟨q.gl,0,none⟩),.slice A n c] W fun e' w'=>e'=.returned (.tuple #[])∧∃q'',q''.gl=q.gl∧ze W w' g q {x with log:=x.log.add e} q'':=by
 subst hn
 refine(zbL W q.gl q.hl x.log A c e h.log hm1 hm2 hn1 hn2 (fun hne=>?_)).mono ?_
 ·have a:0 < e.length:=by
   cases e with
   |nil=>exact absurd rfl hne
   |cons y r=>simp
  obtain⟨b,d,k,l,m,_,_,f,i⟩:=hs.at_ a
  injection m with hv1
  refine⟨b,d,hv1,f,fun hm=>hho b l ?_,fun j hj=>(i j hj).1⟩
  rcases List.mem_cons.1 hm with hm|hm
  ·rw[hm]
   exact zl.Yg
  ·exact zl.Yp (by simpa using hm)
 ·rintro e' w' ⟨rfl,o,hl,p,s⟩
  exact⟨rfl,{q with hl:=o},rfl,h.zdF hl p s⟩
theorem zak {W0 W:World}{g:Nat}{q:zl}{x:Acc}(h:zi W0 g q x)(hf:x.log.most=x.cfg.maxLog∧(x.log.es.length:Int)≤x.cfg.maxLog)(hl:1≤x.cfg.maxLog∧x.cfg.maxLog≤2147483647)(e:E4)(hb:Below (W0.alloc (.cells #[.int .i64 e.m,.int .i64 e.k,.int .i64 e.i,.int .i64 e.h] 177)).heap.size (W0.alloc (.cells #[.int .i64 e.m,.int .i64 e.k,.int .i64 e.i,.int .i64 e.h] 177)) W) :
  Calls Tryz.prog 108 #[.pointer (some ⟨q.gl,0,none⟩),.slice (some ⟨W0.heap.size,0,none⟩) 1 1] W fun e' w'=>e'=.returned (.tuple #[])∧∃q'',q''.gl=q.gl∧ze W0 w' g q {x with log:=x.log.add [e]} q'':=by
 have c:ze W0 W g q x q:=ze.of_below h (za (below_alloc1 _ _) hb)
 have d:Sl W 177 4 (.slice (some ⟨W0.heap.size,0,none⟩) 1 1) (some W0.heap.size) 1 (zM [e]):=(U6 W0 e).keep (fun b hb2=>hb.block b ((U6 W0 e).lt b hb2))
 refine(Yh c.at_ (by rw[hf.1];omega) (by rw[hf.1];omega) (by omega) d rfl (by omega) (fun b hb hm=>?_)).mono ?_
 ·injection hb with hb
  have:=h.lt b hm
  omega
 ·rintro e' w' ⟨rfl,f,a,j⟩
  exact⟨rfl,f,a,c.trans j⟩
theorem Uy (x:Acc)(nl:Text)(parent but:Int)(h:¬(parent≠0∧zu x.boxes parent=false)) :
  yG x nl parent but=if ZB x nl parent but=true then 5 else if x.cfg.maxBoxes≤((x.boxes.filter fun b=>decide (b.id≠but)).length:Int) then 8 else 0:=by
 unfold yG
 rw[if_neg h]
 have a:((parent=0∧vP nl=vP uH)∨x.boxes.any (fun b=>decide (b.id≠but) && (decide (b.parent=parent) && decide (b.name=nl)))=true)↔ZB x nl parent but=true:=by
  unfold ZB
  rw[show vP uH=[105,110,98,111,120] from by decide,Bool.or_eq_true_iff,Bool.and_eq_true_iff,decide_eq_true_iff,decide_eq_true_iff]
  exact Or.comm
 simp only[a]
theorem Vp {x:Acc}(hf:Fit x):(x.boxes.filter fun b=>decide (b.id≠0)).length=x.boxes.length:=by
 rw[List.filter_eq_self.2 fun b hb=>?_]
 have:=(hf.box b hb).id
 simp
 omega
theorem zcR (w:World)(g:Nat)(q:zl)(x:Acc)(nl:Text)(parent:Int)(h:zi w g q x)(hf:Fit x)(hn:nl.length≤1099511627776) :
  Calls Tryz.prog 45 #[.pointer (some ⟨g,0,none⟩),.string ⟨nl.toArray⟩,.int .i64 parent] w (vS w g q (vE zo x nl parent)):=by
 have I:=Uu ⟨nl.toArray⟩ (by show nl.toArray.size≤_;simp;omega) w
 rw[show zo (⟨nl.toArray⟩:ByteArray).data.toList=zo nl from rfl] at I
 obtain⟨i0,hi,bb,bc,bd⟩:=info_parts Try.infoBox
 have b2:=hf.clock
 have b3:=hf.cfg.mod
 have b4:=hf.lastBox
 have ah:=hf.nb
 have J:∀W,Below w.heap.size w W→Calls Tryz.prog 85 #[q.vb,.int .i64 parent] W fun e w'=>e=.returned (.int .i64 (yx parent x.boxes))∧W=w':=fun W hb=>Zb q.vb [] x.boxes parent W ((h.later hb).boxes.reads [] (by simp)) (by omega)
 have a1:=fun W (hb:Below w.heap.size w W)=>Uk W g q x nl parent 0 (h.later hb) (by omega) (by omega)
 have ai:=fun W (hb:Below w.heap.size w W)=>uI W g q x (h.later hb) hf
 obtain⟨Ab,cb,S,_,_⟩:=h.boxes.form
 have K:∀W,Below w.heap.size w W→W.cell? ⟨g,10,none⟩=some (.slice Ab x.boxes.length cb):=fun W hb=>by rw[←S];exact(h.later hb).zQ
 have a2:∀W,Below w.heap.size w W→W.cell? ⟨g,3,none⟩=some (.int .i64 x.cfg.maxBoxes):=fun W hb=>(h.later hb).cells 3
 rw[S] at J
 have j:=xR parent x.boxes
 have a:¬(parent≠0∧zu x.boxes parent=false)→zo nl=true→vE zo x nl parent=(if ZB x nl parent 0=true then (x,0,5) else if x.cfg.maxBoxes≤(x.boxes.length:Int) then (x,0,8) else if x.ends then (x,0,11) else ({x with clock:=x.clock+1,lastBox:=x.lastBox+1,boxes:=x.boxes++[⟨x.lastBox+1,nl,parent,x.clock+1,1,x.clock+1⟩],log:=x.log.add [⟨x.clock+1,1,x.lastBox+1,1⟩]},x.lastBox+1,0)):=fun N hr=>by
  unfold vE
  rw[hr,Uy x nl parent 0 N,Vp hf]
  by_cases y:ZB x nl parent 0=true
  ·simp[y]
  ·by_cases Q:x.cfg.maxBoxes≤(x.boxes.length:Int)
   ·simp[y,Q]
   ·simp[y,Q]
 have d:zo nl=false→vE zo x nl parent=(x,0,1):=fun hr=>by
  unfold vE
  rw[if_pos hr]
 have f:zo nl=true→(parent≠0∧zu x.boxes parent=false)→vE zo x nl parent=(x,0,6):=fun hr N=>by
  unfold vE
  rw[if_neg (by rw[hr];decide),yG,if_pos N]
  simp
 obtain⟨rr,aw⟩:∃rr,vE zo x nl parent=rr:=⟨_,rfl⟩
 rw[aw] at a d f ⊢
 obtain⟨r,ax⟩:∃r,yx parent x.boxes=r:=⟨_,rfl⟩
 rw[ax] at J j
 obtain⟨tw,Z⟩:∃tw,ZB x nl parent 0=tw:=⟨_,rfl⟩
 simp only[Z] at a1 a
 obtain⟨nb,aa⟩:∃nb,x.boxes.length=nb:=⟨_,rfl⟩
 simp only[aa] at J K a
 obtain⟨mb,ay⟩:∃mb,x.cfg.maxBoxes=mb:=⟨_,rfl⟩
 simp only[ay] at a2 a
 have bi:nb≤4294967296:=by omega
 have bj:IntKind.i64.wrap (x.lastBox+1)=x.lastBox+1:=IntWalk.i64_in _ (by omega)
 have aj:=zdG S
 have a3:=zdG aa
 have HS:=zdG h
 have HF:=zdG hf
 have a4:=zdG J
 have ak:=zdG a1
 have b5:=zdG ai
 have L:=zdG K
 have b6:=zdG a2
 have o:=zdG a
 obtain⟨ru,ab⟩:∃ru,zo nl=ru:=⟨_,rfl⟩
 simp only[ab] at I o d f
 have bk:=zdG ab
 clear aw ax Z aa ay S h hf J a1 ai K a2 a ab b2 b3 b4 ah
 cases ru with
 |false=>
  have T:=zdG (d rfl)
  clear d f j
  go_enter Tryz.func45,Tryz.ntmps45
  go_wp2_with (first
   |(go_at_call 105;refine I.mono ?_;rintro e w2 ⟨rfl,c⟩;have s:=zdG c;clear c)
   |fail)
  go_ret2
  rw[T.out]
  exact⟨rfl,q,ze.of_below HS.out s.out⟩
 |true=>
 by_cases N:parent≠0∧zu x.boxes parent=false
 ·have T:=zdG (f rfl N)
  rw[N.2] at j
  have U:(parent !=0)=true:=by simpa using N.1
  have bl:r < 0:=by simpa using j
  clear d f j N
  go_enter Tryz.func45,Tryz.ntmps45
  go_wp2_with (first
   |(go_at_call 105;refine I.mono ?_;rintro e w2 ⟨rfl,c⟩;have s:=zdG c;have k:=L.out _ c;have E:=a4.out _ c;clear c)
   |(go_at_call 85;refine E.mono ?_;rintro e w3 ⟨rfl,rfl⟩;clear E)
   |fail)
  go_ret2
  rw[T.out]
  exact⟨rfl,q,ze.of_below HS.out s.out⟩
 have al:parent=0∨(¬parent=0∧0≤r):=by
  by_cases U:parent=0
  ·exact .inl U
  ·have Q:zu x.boxes parent=true:=by
    cases hh:zu x.boxes parent with
    |true=>rfl
    |false=>exact absurd ⟨U,hh⟩ N
   rw[Q] at j
   have h3:¬r < 0:=by simpa using j
   exact .inr ⟨U,by omega⟩
 have T:=zdG (o.out N rfl)
 clear d f j N o
 go_enter Tryz.func45,Tryz.ntmps45
 go_upto_region 3 with(first
  |(go_at_call 105;refine I.mono ?_;rintro e w2 ⟨rfl,c⟩;have s:=zdG c;have k:=L.out _ c;have E:=a4.out _ c;clear c)
  |fail)
 go_cut [12] (fun v wx=>v=.bool false∧Hid (Below w.heap.size w wx))
 case first=>
  rcases al with U|⟨U,hr⟩
  ·subst U
   go_wp2_with fail
   go_meet
   exact⟨rfl,s⟩
  ·have bm:(parent !=0)=true:=by simpa using U
   have bn:¬r < 0:=by omega
   go_wp2_with (first
    |(go_at_call 85;refine E.mono ?_;rintro e w3 ⟨rfl,rfl⟩;clear E)
    |fail)
   go_meet
   exact⟨by rw[decide_eq_false (Int.not_lt.2 hr)],s⟩
 case rest=>
  obtain⟨rfl,ac⟩:=hcut
  obtain⟨w3,rfl⟩:∃w3:World,w3=wc:=⟨_,rfl⟩
  have R:=ak.out _ ac.out
  clear al a4 ak k E s
  cases tw with
  |true=>
   go_wp2_with (first
    |(go_at_call 106;refine R.mono ?_;rintro e w4 ⟨rfl,O⟩;have F:=zdG (za ac.out O);clear O R)
    |fail)
   go_ret2
   rw[T.out]
   exact⟨rfl,q,ze.of_below HS.out F.out⟩
  |false=>
  go_upto_region 7 with(first
   |(go_at_call 106;refine R.mono ?_;rintro e w4 ⟨rfl,O⟩;have F:=zdG (za ac.out O);clear O R)
   |fail)
  have k:=L.out _ F.out
  have c3:=b6.out _ F.out
  by_cases Y:mb≤(nb:Int)
  ·have g1:decide (mb≤(nb:Int))=true:=decide_eq_true Y
   have t:=T.out
   rw[if_neg (by decide),if_pos Y] at t
   have l:=zdG t
   clear Y t
   go_quiet (fail)
   go_wp2_with fail
   go_ret2
   rw[l.out]
   exact⟨rfl,q,ze.of_below HS.out (za F.out (below_drewN' (Below.refl _ _) _))⟩
  have g1:decide (mb≤(nb:Int))=false:=decide_eq_false Y
  have t:=T.out
  rw[if_neg (by decide),if_neg Y] at t
  have l:=zdG t
  clear Y t T
  go_quiet (fail)
  have a5:Below w.heap.size w (w4.drewN nq):=za F.out (below_drewN' (Below.refl _ _) _)
  have b:=b5.out _ a5
  have am:=zdG a5
  clear k c3 a5 g1
  cases he:x.ends with
  |true=>
   rw[he] at b l
   simp only[if_true,Bool.not_true] at b l
   go_wp2_with (first
    |(go_at_call 107;refine b.mono ?_;rintro e w6 ⟨rfl,z⟩;have b7:=zdG z;clear b z)
    |fail)
   go_ret2
   rw[l.out]
   exact⟨rfl,q,(ze.of_below HS.out am.out).trans b7.out⟩
  |false=>
   rw[he] at b l
   simp only[Bool.false_eq_true,if_false,Bool.not_false] at b l
   clear he
   go_upto_region 12 with(first
    |(go_at_call 107;refine b.mono ?_;rintro e w6 ⟨rfl,z⟩;have G:=z.at_.YD;have b8:=z.at_.frozen 13;have T6:=zdG z;clear b z)
    |fail)
   obtain⟨C,ad⟩:∃C:World,C=w6.setCell ⟨g,13,none⟩ (.int .i64 (x.lastBox+1)):=⟨_,rfl⟩
   rw[←ad]
   have i:ze w C g q {x with clock:=x.clock+1,lastBox:=x.lastBox+1} q:=by
    rw[ad]
    exact((ze.of_below HS.out am.out).trans T6.out).trans (T6.out.at_.yj 13 (.int .i64 (x.lastBox+1)) {x with clock:=x.clock+1,lastBox:=x.lastBox+1} rfl rfl rfl rfl)
   clear ad G b8
   have k:C.cell? ⟨g,10,none⟩=some (.slice Ab nb cb):=by rw[←a3.out,←aj.out];exact i.at_.zQ
   have an:C.frozen? ⟨g,10,none⟩=false:=i.at_.frozen 10
   have G:C.cell? ⟨g,13,none⟩=some (.int .i64 (x.lastBox+1)):=i.at_.YD
   have c9:C.cell? ⟨g,9,none⟩=some (.int .i64 (x.clock+1)):=i.at_.yo
   have u:g < C.heap.size:=i.at_.blk.lt
   have a6:g∉q.hb.toList:=fun Y=>i.at_.apart.hb (by simpa using Y)
   have ao:Sl C 89 6 (.slice Ab nb cb) q.hb nb (zk xQ x.boxes):=by
    rw[←a3.out,←aj.out]
    exact i.at_.boxes
   have a7:=zdG i
   have ap:=zdG ao
   have aq:=(World.cell?_alloc_lt C (.cells #[.int .i64 (x.lastBox+1),.string ⟨nl.toArray⟩,.int .i64 parent,.int .i64 (x.clock+1),.int .i64 1,.int .i64 (x.clock+1)] 89) ⟨g,10,none⟩ u).trans k
   have ar:=(World.cell?_alloc_lt C (.cells #[.int .i64 (x.lastBox+1),.string ⟨nl.toArray⟩,.int .i64 parent,.int .i64 (x.clock+1),.int .i64 1,.int .i64 (x.clock+1)] 89) ⟨g,13,none⟩ u).trans G
   clear i ao
   go_cut [] (fun wx=>∃q',Hid (ze w wx g q {x with clock:=x.clock+1,lastBox:=x.lastBox+1,boxes:=x.boxes++[⟨x.lastBox+1,nl,parent,x.clock+1,1,x.clock+1⟩]} q'))
   case first=>
    go_region_law (first
     |(refine zx _ (by rfl) (.tmp 56) (.tmp 72) _ (by rfl) Tryz.underlying42 hi bb bc bd rfl (by omega) ((ap.out.alloc _).heap (by rfl)) (by first|(simp[Act.eval];done)|simp[Act.eval,Act.put]) C.heap.size #[.int .i64 (x.lastBox+1),.string ⟨nl.toArray⟩,.int .i64 parent,.int .i64 (x.clock+1),.int .i64 1,.int .i64 (x.clock+1)] (e':=89) (fr:=(0,0)) (heap_alloc_new C _) 1 1 (by first|(simp[Act.eval];done)|simp[Act.eval,Act.put]) (by rfl) (by simp[Value.oneCell']) (by unfold maxLen;omega) (by omega) ?_;intro v2 Q w9 ae n az;obtain⟨be,a',rfl,_,_⟩:=ae.form;have bo:w9.cell? ⟨g,10,none⟩=some (.slice Ab nb cb):=(n.cell (p:=⟨g,10,none⟩) (by simp;omega) a6).trans ((World.cell?_alloc_past _ _ _ u).trans k);have bp:w9.frozen? ⟨g,10,none⟩=false:=(n.frozen (p:=⟨g,10,none⟩) (by simp;omega) a6).trans ((World.frozen?_alloc_past _ _ _ u).trans an))
     |fail)
    all_goals
     have M:=(a7.out.at_.alloc (.cells #[.int .i64 (x.lastBox+1),.string ⟨nl.toArray⟩,.int .i64 parent,.int .i64 (x.clock+1),.int .i64 1,.int .i64 (x.clock+1)] 89)).zaG ⟨x.lastBox+1,nl,parent,x.clock+1,1,x.clock+1⟩ (v':=.slice be (nb+1) a') (h':=Q) (w':=w9) (by
      show Sl w9 _ 6 _ Q (x.boxes.length+1) _
      rw[a3.out]
      exact ae) ⟨n.os,n.tape,n.output,n.size,n.block⟩ az
     have a8:=zdG M
     clear M ae n az
     go_wp2_with fail
     go_meet
     exact⟨_,zdG ((a7.out.trans (ze.of_below a7.out.at_ (below_alloc1 C _))).trans a8.out)⟩
   case rest=>
    obtain⟨q',A⟩:=hcut
    obtain⟨H,rfl⟩:∃H:World,H=wc:=⟨_,rfl⟩
    clear k an G c9 u a6 ap aq ar
    go_upto_region 13 with(fail)
    obtain⟨x3,B⟩:∃x3:Acc,x3={x with clock:=x.clock+1,lastBox:=x.lastBox+1,boxes:=x.boxes++[⟨x.lastBox+1,nl,parent,x.clock+1,1,x.clock+1⟩]}:=⟨_,rfl⟩
    rw[←B] at A
    have hK:∀W,Below H.heap.size H W→W.cell? ⟨g,12,none⟩=some (.pointer (some ⟨q'.gl,0,none⟩))∧W.cell? ⟨g,13,none⟩=some (.int .i64 (x.lastBox+1)):=fun W hb=>by
     have h0:=A.out.at_.later hb
     have y:=h0.YD
     rw[B] at y
     exact⟨h0.zV,y⟩
    have hE:∀W,Below H.heap.size H W→Calls Tryz.prog 109 #[.pointer (some ⟨g,0,none⟩),.int .i64 1,.int .i64 (x.lastBox+1),.int .i64 1] W fun e w'=>e=.returned (.agg #[.int .i64 (x.clock+1),.int .i64 1,.int .i64 (x.lastBox+1),.int .i64 1])∧Below W.heap.size W w':=fun W hb=>by
     have h0:=vK W g q' x3 1 (x.lastBox+1) 1 (A.out.at_.later hb)
     rw[show x3.clock=x.clock+1 by rw[B]] at h0
     exact h0
    have V:=fun W0 (hb0:Below H.heap.size H W0) W hb=>zak (W0:=W0) (W:=W) (A.out.at_.later hb0) (by rw[B];exact HF.out.log) (by rw[B];exact HF.out.cfg.log) ⟨x.clock+1,1,x.lastBox+1,1⟩ hb
    have HK:=zdG hK
    have HE:=zdG hE
    have X:=zdG V
    have a9:=zdG B
    obtain⟨bf,G⟩:=hK H (Below.refl _ _)
    have u:g < H.heap.size:=A.out.at_.blk.lt
    clear V B hK hE
    go_cut [] (fun wx=>∃ag,Hid (ze w wx g q {x3 with log:=x3.log.add [⟨x.clock+1,1,x.lastBox+1,1⟩]} ag))
    case first=>
     go_region_held3 (fun W=>W.cell? ⟨g,12,none⟩=some (.pointer (some ⟨q'.gl,0,none⟩))∧W.cell? ⟨g,13,none⟩=some (.int .i64 (x.lastBox+1)))
      (first
       |exact ba.out
       |exact HK.out _ (za m.out (below_alloc1 _ _))
       |exact HK.out _ m.out
       |exact HK.out _ (Below.refl _ _)
       |exact HK.out _ (zb _)
       |go_keep)
      (first
       |(go_at_call 109;refine(HE.out _ (by first|exact Below.refl _ _|exact zb _)).mono ?_;rintro e af ⟨rfl,P⟩;have m:Hid (Below H.heap.size H af):=zdG (by first|exact P|exact za (zb H) P);obtain⟨bg,br⟩:=HK.out _ m.out;have b9:=World.new_ne af _ bg;clear P)
       |(go_at_call 108;refine(X.out af m.out _ ⟨rfl,rfl,rfl,Nat.le_refl _,fun _ _=>rfl⟩).mono ?_;rintro e b0 ⟨rfl,bh,a0,D⟩;have au:=zdG D;have ba:Hid (b0.cell? ⟨g,12,none⟩=some (.pointer (some ⟨q'.gl,0,none⟩))∧b0.cell? ⟨g,13,none⟩=some (.int .i64 (x.lastBox+1))):=zdG (by have y:=D.at_.zV;rw[a0] at y;have Q:=D.at_.YD;simp only[a9.out] at Q;exact⟨y,Q⟩);clear D a0)
       |fail)
     all_goals
      go_wp2_with fail
      go_meet
      exact⟨bh,zdG ((A.out.trans (ze.of_below A.out.at_ m.out)).trans au.out)⟩
    case rest=>
     obtain⟨ag,b1⟩:=hcut
     obtain⟨wz,rfl⟩:∃wz:World,wz=wc:=⟨_,rfl⟩
     clear bf G u X HE HK
     have bq:wz.cell? ⟨g,13,none⟩=some (.int .i64 (x.lastBox+1)):=by
      have y:=b1.out.at_.YD
      rw[a9.out] at y
      exact y
     have av:Hid (vS w g q rr (.returned (.tuple #[.int .i64 (x.lastBox+1),.int .i64 0])) wz):=zdG (by
      rw[l.out]
      refine⟨rfl,ag,?_⟩
      have y:=b1.out
      rw[a9.out] at y
      exact y)
     go_wp2_with fail
     go_ret2
     exact av.out
end Go.Proofs.YtfhlhdmhgheonaaGreatDoor
namespace Go.Proofs.YtfhlhdmhgheonaaGreatDoor
open Go.RowKit
attribute [local go_sem ↓] Go.wp_at_zero Go.wp_at_succ
theorem Try.infoIntO:(Tryz.prog.info? 3).map (fun i=>(i.zero,i.size,i.bytes))=some (some (.int .i64 0),1,8):=by kernel_rfl
section
variable {α:Type}
theorem zbv (acc:List α)(k:Nat)(hk:0 < k)(hkl:k≤acc.length)(z:α):(acc.take k++z :: acc.drop k)[k - 1]?=some (acc[k - 1]'(by omega)):=by
 rw[List.getElem?_append_left (by rw[List.length_take];omega),List.getElem?_take,if_pos (by omega),List.getElem?_eq_getElem (by omega)]
theorem QX (acc:List α)(k:Nat)(hk:0 < k)(hkl:k≤acc.length)(z:α) :
  (acc.take k++z :: acc.drop k).set k (acc[k - 1]'(by omega))=acc.take (k - 1)++(acc[k - 1]'(by omega)) :: acc.drop (k - 1):=by
 have a:(acc.take k).length=k:=by rw[List.length_take];omega
 rw[List.set_append_right _ _ (by omega),a,Nat.sub_self,List.set_cons_zero]
 obtain⟨j,rfl⟩:∃j,k=j+1:=⟨k - 1,by omega⟩
 simp only[Nat.add_sub_cancel]
 rw[List.take_succ_eq_append_getElem (by omega),List.append_assoc,List.drop_eq_getElem_cons (show j < acc.length by omega)]
 rfl
theorem zah (acc:List α)(k:Nat)(hkl:k≤acc.length)(z x:α):(acc.take k++z :: acc.drop k).set k x=acc.take k++x :: acc.drop k:=by
 have a:(acc.take k).length=k:=by rw[List.length_take];omega
 rw[List.set_append_right _ _ (by omega),a,Nat.sub_self,List.set_cons_zero]
end
theorem zcT (x:Int):∀(acc:List Int) (p:Nat),p≤acc.length→(∀j (hj:j < acc.length),j < p→acc[j] < x)→(∀hp:p < acc.length,¬acc[p] < x)→
  VT x acc=if acc[p]?=some x then acc else acc.take p++x :: acc.drop p
 |[],p,h,_,_=>by
  have:p=0:=by simpa using h
  subst this
  simp[VT]
 |y :: r,0,_,_,h=>by
  have d:=h (by simp)
  simp only[List.getElem_cons_zero] at d
  by_cases c:y=x
  ·subst c
   simp[VT]
  ·have a:x < y:=by omega
   have b:¬x=y:=by omega
   simp[VT,a,c]
 |y :: r,p+1,hp,hlt,h=>by
  have e:=hlt 0 (by simp) (by omega)
  simp only[List.getElem_cons_zero] at e
  have a:¬x < y:=by omega
  have b:¬x=y:=by omega
  have f:=zcT x r p (by simpa using hp) (fun j hj hjp=>by have:=hlt (j+1) (by simp;omega) (by omega);simpa using this) (fun hpl=>by have:=h (by simp;omega);simpa using this)
  rw[VT]
  simp only[a,b,if_false,f,List.getElem?_cons_succ]
  split
  ·rfl
  ·simp
structure XO (w wr:World)(v:Value)(h:Option Nat)(acc:List Int):Prop where
 sl:Sl wr 3 1 v h acc.length (acc.map encI)
 own:∀b,h=some b→w.heap.size≤b
 below:Below w.heap.size w wr
theorem XO.later {w wr w':World}{v:Value}{h:Option Nat}{acc:List Int}(q:XO w wr v h acc)(hb:Below wr.heap.size wr w'):XO w w' v h acc:=
 ⟨q.sl.chg (Chg.of_below hb []) (by simp),q.own,za q.below hb⟩
theorem zc7 (l:List Int)(k:Nat)(hk:k < l.length):rise (l.take (k+1))=VT l[k] (rise (l.take k)):=by
 unfold rise
 rw[List.take_succ_eq_append_getElem hk,List.foldl_append]
 rfl
theorem rise_len (l:List Int):(rise l).length≤l.length:=by
 have:=vC (rise l) l (xV l) (fun y h=>(vB l y).1 h)
 exact this
theorem Vr (w:World)(v:Value)(S:List Nat)(l:List Int)(hr:RdS w S 1 v l.length (l.map encI))(hin:l.length≤1099511627776) :
  Calls Tryz.prog 119 #[v] w fun e w'=>∃A cap hh,e=.returned (.slice A (rise l).length cap)∧Sl w' 3 1 (.slice A (rise l).length cap) hh (rise l).length ((rise l).map encI)∧Below w.heap.size w w'∧∀b,hh=some b→w.heap.size≤b:=by
 obtain⟨i0,hi,ay,az,a'⟩:=info_parts Try.infoIntO
 obtain⟨A,cap,rfl,_,_⟩:=hr.form
 obtain⟨n,hn⟩:∃n,l.length=n:=⟨_,rfl⟩
 have HR:=zdG (hr.sub (T:=[]) (fun _ _ _ R=>by cases R))
 rw[hn] at hin HR
 have bc:=hin
 rw[hn]
 have HN:=zdG hn
 clear hr hn hin
 go_enter Tryz.func119,Tryz.ntmps119
 go_wp2_with fail
 go_loopw [3,4] (fun o i wr=>∃(k:Nat) (h:Option Nat),k≤n∧i=.int .i64 k∧Hid (XO w wr o h (rise (l.take k)))) (fun _ i _=>n - (intOf i).toNat)
 case atStart=>exact⟨0,none,Nat.zero_le _,rfl,zdG ⟨Sl.nil _ _ _,(fun b hb=>by cases hb),Below.refl _ _⟩⟩
 case round=>
  obtain⟨k,h,hk,rfl,HK⟩:=hrel
  by_cases aw:k < n
  ·have a9:k < l.length:=by rw[HN.out];exact aw
   have a1:=zc7 l k a9
   have a2:(rise (l.take k)).length≤k:=by
    have:=rise_len (l.take k)
    rw[List.length_take] at this
    omega
   obtain⟨b,u,b7,F,_,_,a0,_,al⟩:=HR.out.at_ (by omega)
   injection F with hva1 _ hva3
   subst hva1
   subst hva3
   have G:=al k (by omega)
   rw[List.getElem?_map,List.getElem?_eq_getElem a9] at G
   have d0:wr.cell? ⟨b,u+k,none⟩=some (.int .i64 l[k]):=(HK.out.below.cell (p:=⟨b,u+k,none⟩) a0).trans G
   have a3:Hid (w.cell? ⟨b,u+k,none⟩=some (.int .i64 l[k])):=zdG G
   have f:=zdG a1
   have aa:(k:Int) < (n:Int):=by omega
   have bd:(0:Int)≤(k:Int):=by omega
   have be:IntKind.i64.wrap ((k:Int)+1)=(k:Int)+1:=IntWalk.i64_in _ (by omega)
   clear a1 al G
   generalize l[k]=x at d0 a3 f
   generalize rise (l.take k)=acc at HK f a2
   obtain⟨m,R⟩:∃m,acc.length=m:=⟨_,rfl⟩
   have I:=zdG R
   rw[R] at a2
   obtain⟨A1,D,rfl,_,_⟩:=HK.out.sl.form
   rw[R]
   clear R
   go_upto_block 2 with(fail)
   have a4:=HK
   obtain⟨w2,b0⟩:∃w2:World,w2=wr:=⟨_,rfl⟩
   subst b0
   have d2:w2.cell? ⟨b,u+k,none⟩=some (.int .i64 x):=d0
   clear d0 HK
   go_cut [5] (fun a wx=>∃p q:Nat,p≤m∧a=.int .i64 p∧Hid (∀j (hj:j < acc.length),j < p→acc[j] < x)∧Hid (∀hp:p < acc.length,¬acc[p] < x)∧Hid (wx=w2.drewN q))
   case first=>
    go_wp2_with fail
    go_loopw [5] (fun a wr=>∃p q:Nat,p≤m∧a=.int .i64 p∧Hid (∀j (hj:j < acc.length),j < p→acc[j] < x)∧Hid (wr=w2.drewN q)) (fun a _=>m - (intOf a).toNat)
    case atStart=>exact⟨0,0,Nat.zero_le _,rfl,zdG (fun j hj h=>by omega),zdG rfl⟩
    case round=>
     obtain⟨p,q,hp,rfl,HP,P⟩:=hrel
     have dx:wr.cell? ⟨b,u+k,none⟩=some (.int .i64 x):=by rw[P.out];exact d2
     by_cases d:p < m
     ·have J:p < acc.length:=by rw[I.out];exact d
      obtain⟨b1,Q,am,F,_,_,an,_,E⟩:=(a4.out.sl.reads [] (by simp)).at_ (by omega)
      injection F with hva1 hvx hvy
      subst hva1
      clear hvx hvy
      have C:=E p (by omega)
      rw[List.getElem?_map,List.getElem?_eq_getElem J] at C
      have e1:wr.cell? ⟨b1,Q+p,none⟩=some (.int .i64 acc[p]):=by rw[P.out];exact C
      clear C
      have g1:decide (p < m)=true:=decide_eq_true d
      clear E
      by_cases hc:acc[p] < x
      ·have f1:decide (acc[p] < x)=true:=decide_eq_true hc
       have ab:Hid (∀j (hj:j < acc.length),j < p+1→acc[j] < x):=zdG fun j hj hj2=>by
        by_cases ax:j=p
        ·subst ax
         exact hc
        ·exact HP.out j hj (by omega)
       generalize acc[p]=y at e1 f1
       clear hc
       go_wp2_with fail
       go_quiet (fail)
       go_wp2_with fail
       have K:Hid (wr.drewN nq=w2.drewN (q+nq)):=zdG (by rw[P.out,World.drewN_drewN])
       refine⟨?_,by simp[intOf];omega⟩
       first|exact⟨p+1,_,by omega,by go_num,ab,K⟩|((repeat apply Exists.intro);exact⟨⟨p+1,_,by omega,by go_num,ab,K⟩,rfl⟩)
      ·have f1:decide (acc[p] < x)=false:=decide_eq_false hc
       have L:Hid (∀hp:p < acc.length,¬acc[p] < x):=zdG fun _=>hc
       generalize acc[p]=y at e1 f1
       clear hc
       go_wp2_with fail
       go_quiet (fail)
       go_wp2_with fail
       have K:Hid (wr.drewN nq=w2.drewN (q+nq)):=zdG (by rw[P.out,World.drewN_drewN])
       go_meet
       exact⟨p,_,hp,rfl,HP,L,K⟩
     ·have g1:decide (p < m)=false:=decide_eq_false d
      have L:Hid (∀hp:p < acc.length,¬acc[p] < x):=zdG fun J=>absurd J (by rw[I.out];exact d)
      go_wp2_with fail
      go_quiet (fail)
      go_wp2_with fail
      have K:Hid (wr.drewN nq=w2.drewN (q+nq)):=zdG (by rw[P.out,World.drewN_drewN])
      go_meet
      exact⟨p,_,hp,rfl,HP,L,K⟩
   case rest=>
    obtain⟨p,q,hp,rfl,HP,L,P⟩:=hcut
    obtain⟨wd,rfl⟩:∃wd:World,wd=wc:=⟨_,rfl⟩
    have U:Hid (XO w wd (.slice A1 acc.length D) h acc):=zdG (by rw[P.out];exact a4.out.later (below_drewN' (Below.refl _ _) q))
    have ac:=zcT x acc p (by rw[I.out];exact hp) HP.out L.out
    rw[ac] at f
    clear ac HP L a4 d2 P
    have dx:wd.cell? ⟨b,u+k,none⟩=some (.int .i64 x):=(U.out.below.cell (p:=⟨b,u+k,none⟩) a0).trans a3.out
    go_upto_region 8 with(fail)
    go_cut [44] (fun t wx=>∃q:Nat,t=.bool (decide (acc[p]?=some x))∧Hid (wx=wd.drewN q))
    case first=>
     by_cases d:p < m
     ·have J:p < acc.length:=by rw[I.out];exact d
      obtain⟨b1,Q,am,F,_,_,an,_,E⟩:=(U.out.sl.reads [] (by simp)).at_ (by omega)
      injection F with hva1 hvx hvy
      subst hva1
      clear hvx hvy
      have C:wd.cell? ⟨b1,Q+p,none⟩=some (.int .i64 acc[p]):=by
       have:=E p (by omega)
       rw[List.getElem?_map,List.getElem?_eq_getElem J] at this
       exact this
      clear E
      have g1:decide (p < m)=true:=decide_eq_true d
      have hd:decide (acc[p]?=some x)=(acc[p]==x):=by
       rw[List.getElem?_eq_getElem J]
       by_cases Z:acc[p]=x
       ·simp[Z]
       ·simp[Z]
      have HD:=zdG hd
      clear hd
      generalize acc[p]=y at C HD
      go_quiet (fail)
      go_wp2_with fail
      go_meet
      exact⟨_,by rw[HD.out],zdG rfl⟩
     ·have g1:decide (p < m)=false:=decide_eq_false d
      have hd:decide (acc[p]?=some x)=false:=by
       rw[List.getElem?_eq_none (by rw[I.out];omega)]
       rfl
      have HD:=zdG hd
      clear hd
      go_quiet (fail)
      go_wp2_with fail
      go_meet
      exact⟨_,by rw[HD.out],zdG rfl⟩
    case rest=>
     obtain⟨X,rfl,P⟩:=hcut
     obtain⟨we,rfl⟩:∃we:World,we=wc:=⟨_,rfl⟩
     have M:Hid (XO w we (.slice A1 acc.length D) h acc):=zdG (by rw[P.out];exact U.out.later (below_drewN' (Below.refl _ _) X))
     clear U dx P
     by_cases Z:acc[p]?=some x
     ·rw[decide_eq_true Z]
      rw[if_pos Z] at f
      have V:Hid (XO w we (.slice A1 m D) h (rise (l.take (k+1)))):=zdG (by rw[f.out,←I.out];exact M.out)
      clear Z
      go_wp2_with fail
      refine⟨?_,by simp[intOf];omega⟩
      first|exact⟨k+1,_,by omega,by go_num,V⟩|((repeat apply Exists.intro);exact⟨⟨k+1,_,by omega,by go_num,V⟩,rfl⟩)
     ·rw[decide_eq_false Z]
      rw[if_neg Z] at f
      clear Z
      have a5:=M.out.sl
      rw[I.out] at a5
      have ad:=zdG a5
      clear a5
      go_wp2_with (at_builtin;refine zC rfl _ _ 37 rfl Tryz.underlying37 hi ay az a' rfl (by decide) ad.out rfl 1 1 rfl rfl ?_ ?_ ?_ ?_)
      ·rfl
      ·unfold maxLen
       omega
      ·omega
      ·intro v2 h2 w3 a7 ao ap
       obtain⟨B,c,H,b4,rfl,_,_,b8,_⟩:=a7.at_ (by omega)
       subst b4
       have ar:=M.out.below.size
       have ae:w.heap.size≤B:=by
        rcases ap with h3|⟨g,h3,h4⟩
        ·exact M.out.own B h3.symm
        ·injection h3 with h3
         omega
       have W:Hid (Below w.heap.size w w3):=zdG (M.out.below.trans (ao.below ar fun k hk=>M.out.own k (by simpa using hk)))
       have au:Hid (∃z,Sl w3 3 1 (.slice (some ⟨B,c,none⟩) (m+1) H) (some B) (m+1) ((acc.take m++z :: acc.drop m).map encI)∧Chg [B] w3 w3):=zdG ⟨0,by
        rw[List.take_of_length_le (by rw[I.out];exact Nat.le_refl _),List.drop_of_length_le (by rw[I.out];exact Nat.le_refl _),List.map_append]
        exact a7,Chg.refl _ _⟩
       have af:b≠B:=by omega
       clear a7 ao ap ad
       go_wp2_with fail
       go_loopw [6] (fun a wr=>∃r:Nat,p≤r∧r≤m∧a=.int .i64 r∧Hid (∃z,Sl wr 3 1 (.slice (some ⟨B,c,none⟩) (m+1) H) (some B) (m+1) ((acc.take r++z :: acc.drop r).map encI)∧Chg [B] w3 wr)) (fun a _=>(intOf a).toNat)
       case atStart=>exact⟨m,hp,Nat.le_refl _,by go_num,au⟩
       case round=>
        obtain⟨r,bf,b5,rfl,HT⟩:=hrel
        obtain⟨z,a8,aq⟩:=HT.out
        have N:r≤acc.length:=by rw[I.out];exact b5
        obtain⟨b3,b9,ba,_,F,_,_,bb,s⟩:=a8.at_ (by omega)
        injection F with hva1 hvx hvy
        injection hva1 with hva1
        injection hva1 with hv1 hv2 _
        subst hv1
        subst hv2
        clear hvx hvy
        have ag:=zdG a8
        have a6:=zdG aq
        clear a8 aq
        by_cases b6:p < r
        ·have ah:0 < r:=by omega
         have q1:=s (r - 1) (by omega)
         have X:=s r (by omega)
         have e1:wr.cell? ⟨B,c+(r - 1),none⟩=some (.int .i64 (acc[r - 1]'(by omega))):=by
          rw[q1.1,List.getElem?_map,zbv acc r ah N z]
          rfl
         have e2:wr.cell? ⟨B,c+r,none⟩=some (.int .i64 z):=by
          rw[X.1,List.getElem?_map,List.getElem?_append_right (by rw[List.length_take];omega),List.length_take,Nat.min_eq_left N,Nat.sub_self]
          rfl
         have e3:=X.2
         have O:=QX acc r ah N z
         have V:Hid (∃z',Sl (wr.setCell ⟨B,c+r,none⟩ (.int .i64 (acc[r - 1]'(by omega)))) 3 1 (.slice (some ⟨B,c,none⟩) (m+1) H) (some B) (m+1) ((acc.take (r - 1)++z' :: acc.drop (r - 1)).map encI)∧Chg [B] w3 (wr.setCell ⟨B,c+r,none⟩ (.int .i64 (acc[r - 1]'(by omega))))):=zdG ⟨acc[r - 1]'(by omega),by
          have h9:=ag.out.store r (encI (acc[r - 1]'(by omega)))
          rw[←List.map_set,O] at h9
          exact h9,a6.out.set (.inl (by simp)) _⟩
         have i2:0≤(r:Int) - 1:=by omega
         have i3:((r:Int) - 1).toNat=r - 1:=by omega
         have i4:((r - 1:Nat):Int)=(r:Int) - 1:=by omega
         have ai:=zdG i4
         clear s q1 X O i4
         generalize (acc[r - 1]'(by omega))=y at e1 V
         go_wp2_with fail
         refine⟨?_,by simp[intOf];omega⟩
         first|exact⟨r - 1,by omega,by omega,by rw[ai.out],V⟩|((repeat apply Exists.intro);exact⟨⟨r - 1,by omega,by omega,by rw[ai.out],V⟩,rfl⟩)
        ·obtain rfl:p=r:=by omega
         have X:=s p (by omega)
         have e2:wr.cell? ⟨B,c+p,none⟩=some (.int .i64 z):=by
          rw[X.1,List.getElem?_map,List.getElem?_append_right (by rw[List.length_take];omega),List.length_take,Nat.min_eq_left N,Nat.sub_self]
          rfl
         have e3:=X.2
         have dx:wr.cell? ⟨b,u+k,none⟩=some (.int .i64 x):=(a6.out.cell (p:=⟨b,u+k,none⟩) (Nat.lt_of_lt_of_le a0 W.out.size) (by simpa using af)).trans ((W.out.cell (p:=⟨b,u+k,none⟩) a0).trans a3.out)
         have V:Hid (XO w (wr.setCell ⟨B,c+p,none⟩ (.int .i64 x)) (.slice (some ⟨B,c,none⟩) (m+1) H) (some B) (rise (l.take (k+1)))):=zdG (by
          rw[f.out]
          have h9:=ag.out.store p (encI x)
          rw[←List.map_set,zah acc p N z x] at h9
          have aj:(acc.take p++x :: acc.drop p).length=m+1:=by
           have:=h9.1
           simpa using this
          refine⟨by rw[aj];exact h9,fun b hb=>?_,(W.out.trans (a6.out.below W.out.size (by simpa using ae))).setCell ae _⟩
          injection hb with hb
          omega)
         clear s X
         go_wp2_with fail
         refine⟨?_,by simp[intOf];omega⟩
         first|exact⟨k+1,_,by omega,by go_num,V⟩|((repeat apply Exists.intro);exact⟨⟨k+1,_,by omega,by go_num,V⟩,rfl⟩)
  ·have av:k=n:=by omega
   subst av
   have Y:=HK.out
   rw[List.take_of_length_le (by rw[HN.out];exact Nat.le_refl _)] at Y
   obtain⟨A1,D,rfl,_,_⟩:=Y.sl.form
   have ak:=zdG Y
   have aa:¬(k:Int) < (k:Int):=by omega
   clear Y HK
   obtain⟨m,R⟩:∃m,(rise l).length=m:=⟨_,rfl⟩
   rw[R] at ak ⊢
   have I:=zdG R
   clear R
   go_wp2_with fail
   go_ret
   have h1:=ak.out
   have h2:=h1.sl
   rw[←I.out] at h2
   exact⟨A1,D,by rw[I.out];rfl,h,h2,h1.below,h1.own⟩
end Go.Proofs.YtfhlhdmhgheonaaGreatDoor
