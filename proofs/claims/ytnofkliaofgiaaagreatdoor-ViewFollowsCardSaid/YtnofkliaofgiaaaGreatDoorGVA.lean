/-
  The plain model of a view: what the program's view does, as functions of data alone. No program in sight. The view statements' accounts in plain words: one mailbox, emails that come and go. The view statements in plain words: what a new view has, what its updates tell. ViewNew and ViewGone in plain words: k emails, of which some go. What holds of every account that acts led to, for the views: keyw
-/
import Derived.Test.YtnofkliaofgiaaaGreatDoorGC
import Derived.Test.YtnofkliaofgiaaaGreatDoorGV
import Derived.Test.YtnofkliaofgiaaaGreatDoorGRK
import Derived.Test.YtnofkliaofgiaaaGreatDoorGRS
import Derived.Lib.ItoaLen
set_option maxRecDepth 100000
set_option maxHeartbeats 8000000
open Go.Proofs.Tryz
open Bool renaming false_eq_true→Px
open Go.Lib renaming compact→Po,compactUpTo→Rc
open List renaming any_eq_true→Ps,append_nil→Pr,filter_cons_of_pos→PM,find?_cons_of_neg→Pb,flatMap_cons→RD,foldl_cons→Pm,getElem_mem→Oj,length_append→Oo,length_singleton→Pf,map_cons→OY,mem_append→OO,mem_cons→OB,mem_cons_of_mem→OP,mem_cons_self→PV,mem_filter→OZ,mem_map→OL,mem_map_of_mem→OV,mem_of_find?_eq_some→O2,mem_singleton→OI,nil_append→PE,nodup_cons→P8,pairwise_cons→Pc
open List.Perm renaming refl→Rp
open Nat renaming le_refl→Oq,le_trans→Ol
open _root_ renaming List→Ob,Option→OC,decide_eq_false→OD,if_neg→Om,if_pos→OG
namespace Go.Proofs.YtnofkliaofgiaaaGreatDoor
def XD (n:Int):yx:=Lib.decDigits n.toNat
structure NL where
 uid:Int
 id:Int
 told:Int
 deriving DecidableEq,Inhabited
structure yI where
 box:Int
 l:Ob NL
 had:Int
def vW (ms:Ob zR)(box:Int):Ob (Int×zR):=ms.flatMap fun m=>(m.zr.filter fun p=>decide (p.1=box)).map fun p=>(p.2,m)
def UV (v:yI)(z:Int×zR):yI:=⟨v.box,v.l++[⟨z.1,z.2.id,z.2.mod⟩],max v.had z.1⟩
def jV (box:Int)(zs:Ob (Int×zR)):yI:=zs.foldl UV ⟨box,[],0⟩
def N7 (m:NL)(z:Int×zR):Bool:=decide (z.1=m.uid) && decide (z.2.id=m.id)
def YE (zs:Ob (Int×zR))(m:NL):OC (Int×zR):=zs.find? (N7 m)
def X4 (zs:Ob (Int×zR))(m:NL):NL:=zs.foldl (fun(s:NL) z=>if N7 m z then {s with told:=z.2.mod} else s) m
def Jj (zs:Ob (Int×zR))(v:yI)(at_:Int):yI:=
 if at_ < 1∨(v.l.length:Int) < at_ then v else {v with l:=v.l.modify (at_ - 1).toNat (X4 zs)}
def xe:yx:=[69,88,80,85,78,71,69]
def xS:yx:=[69,88,73,83,84,83]
def Vv:yx:=[70,69,84,67,72,32,40,85,73,68]
def Vw:yx:=[70,76,65,71,83]
def LS:yx:=[77,79,68,83,69,81,32,40]
def VT (at_:Int)(words:yx):yx:=[42,32]++XD at_++[32]++words++[13,10]
def YF (is:NL→Bool):Nat→Ob NL→yx
 |_,[]=>[]
 |i,m :: r=>if is m then YF is (i+1) r else VT (i+1) xe++YF is i r
def N6 (zs:Ob (Int×zR))(m:NL):Bool:=(YE zs m).isSome
def xi (zs:Ob (Int×zR))(m:NL):NL:=match YE zs m with
 |some z=>if m.told < z.2.mod then {m with told:=z.2.mod} else m
 |none=>m
def XK (flags:Ob yx→yx)(i:Nat)(uid:Int)(z:zR):yx:=
 VT (i+1) (Vv++[32]++XD uid++[32]++Vw++[32]++flags z.keys++[32]++(LS++XD z.mod++[41,41]))
def xU (flags:Ob yx→yx)(zs:Ob (Int×zR)):Nat→Ob NL→yx
 |_,[]=>[]
 |i,m :: r=>(match YE zs m with
  |some z=>if m.told < z.2.mod then XK flags i m.uid z.2 else []
  |none=>[])++xU flags zs (i+1) r
def yy (had:Int)(zs:Ob (Int×zR))(v:yI):yI:=zs.foldl (fun v z=>if had < z.1 then UV v z else v) v
def yH (flags:Ob yx→yx)(zs:Ob (Int×zR))(v:yI)(all:Bool):yx×yI:=
 let l1:=if all then v.l.filter (N6 zs) else v.l
 let t1:=if all then YF (N6 zs) 0 v.l else []
 let t2:=xU flags zs 0 l1
 let v2:yI:=⟨v.box,l1.map (xi zs),v.had⟩
 let v3:=yy v.had zs v2
 let t3:=if l1.length < v3.l.length then VT v3.l.length xS else []
 (t1++t2++t3,v3)
def Vo (t:yx)(i c:Nat):zR:=⟨i,i,t,0,[],[(1,(i:Int))],c,c⟩
structure Kn (x:Acc)(k c:Nat)(ms:Ob zR):Prop where
 N3:x.N3=YK
 fit:Fit x
 zA:x.zA=1+c
 zg:∃b,x.zg=[b]∧b.id=1∧b.next=1+k
 zN:x.zN=k
 zP:x.zP≤k
 zC:x.zC=ms
 small:ms.length≤k
 one:∀m∈ms,m.zr=[(1,m.id)]∧m.keys=[]
theorem UT:Kn (Yt YK) 0 0 []:=⟨rfl,ri rG,rfl,⟨⟨1,Z3,0,1,1,1⟩,rfl,rfl,rfl⟩,rfl,by simp[Yt],rfl,Oq _,fun m hm=>by cases hm⟩
theorem U6:yz []=([],0):=by simp[yz,YJ,Po,Rc]
theorem Kn.app {x:Acc}{k c:Nat}{ms:Ob zR}(h:Kn x k c ms)(t:yx)(ht:t.length=1)(hh:∀n,yL t n=[])(hk:k≤100)(hc:c≤1000) :
  ∃x',ya yL x [1] [] 0 t=(x',((k+1:Nat):Int),0)∧Kn x' (k+1) (c+1) (ms++[Vo t (k+1) (c+2)]):=by
 obtain⟨b,l,e,o⟩:=h.zg
 have s:=h.small
 have r:=h.zP
 have p:=h.zA
 have g:uN yL x t=0:=by
  unfold uN
  rw[hh,OG rfl]
 have a:=mA yL x b l e [] (by rw[U6]) 0 zD zD t (by rw[h.N3,h.zC];show (ms.length:Int) < 1000;omega) (by rw[h.N3,ht];show x.zP+((1:Nat):Int)≤1048576;omega) (by rw[h.N3];show x.zA < 1073741824;omega) (by rw[h.N3];show b.next≤1073741824;omega)
 have f:=Qx yL h.fit [1] [] 0 t (by rw[U6];decide)
 rw[a] at f
 rw[g] at a f
 have d:x.zN+1=((k+1:Nat):Int):=by have:=h.zN;omega
 obtain⟨y,u⟩:∃y,(ya yL x [1] [] 0 t)=(y,x.zN+1,0)∧y.N3=x.N3∧Fit y∧y.zA=x.zA+1∧y.zg=[{b with next:=b.next+1,mod:=x.zA+1}]∧y.zN=x.zN+1∧y.zP=x.zP+t.length∧y.zC=x.zC++[⟨x.zN+1,if (0:Int)=0 then x.zN+1 else 0,t,0,(yz []).1,[(1,b.next)],x.zA+1,x.zA+1⟩]:=⟨_,a,rfl,f,rfl,rfl,rfl,rfl,rfl⟩
 obtain⟨v,w,z,A,B,D,E,F⟩:=u
 refine⟨y,by rw[v,d],w.trans h.N3,z,?_,⟨_,B,e,?_⟩,?_,?_,?_,?_,?_⟩
 ·rw[A]
  omega
 ·show b.next+1=_
  omega
 ·rw[D]
  exact d
 ·rw[E,ht]
  omega
 ·have i:x.zA+1=((c+2:Nat):Int):=O
  have j:b.next=((k+1:Nat):Int):=O
  rw[F,h.zC,U6,d,i,j]
  rfl
 ·rw[Oo,Pf]
  omega
 ·intro m q
  rcases OO.1 q with h1|h1
  ·exact h.one m h1
  ·rw[OI.1 h1]
   exact⟨rfl,rfl⟩
theorem JY:∀{l:Ob zR} {k:Nat} {id:Int},(l.map (·.id)).Nodup→(hk:k < l.length)→l[k].id=id→l.eraseIdx k=l.filter fun m=>!decide (m.id=id)
 |m :: r,0,id,hn,_,h=>by
  have h0:m.id=id:=h
  rw[OY,P8] at hn
  rw[List.eraseIdx_cons_zero,List.filter_cons_of_neg (by simp[h0])]
  refine(List.filter_eq_self.2 fun y hy=>?_).symm
  have:y.id≠id:=fun e=>hn.1 (by rw[h0,←e];exact OV hy)
  simpa using this
 |m :: r,k+1,id,hn,hk,h=>by
  rw[OY,P8] at hn
  have hk':k < r.length:=yi
  have h':r[k].id=id:=h
  have hm:m.id≠id:=fun e=>hn.1 (by rw[e,←h'];exact OV (Oj hk'))
  rw[List.eraseIdx_cons_succ,PM yT,JY hn.2 hk' h']
theorem jP:∀{l:Ob zR} {m:zR},m∈l→∃k,∃hk:k < l.length,Z4 m.id l=(k:Int)∧l[k].id=m.id∧l.find? (fun y=>decide (y.id=m.id))=some l[k]
 |y :: r,m,hm=>by
  by_cases hy:y.id=m.id
  ·exact⟨0,zv,by simp[Z4,yU,hy],hy,by simp[hy]⟩
  ·have hr:m∈r:=by
    rcases OB.1 hm with a|a
    ·exact absurd (by rw[a]) hy
    ·exact a
   obtain⟨k,hk,a,c,d⟩:=jP hr
   have b:yU (fun z:zR=>decide (z.id=m.id)) r=k:=a
   refine⟨k+1,yi,?_,c,?_⟩
   ·unfold Z4 yU
    rw[Om aU,b,Om O]
    omega
   ·rw[Pb aU]
    exact d
theorem Kn.gone {x:Acc}{k c:Nat}{ms:Ob zR}(h:Kn x k c ms)(hc:c≤1000){m:zR}(hm:m∈ms) :
  ∃x',yQ x m.id=(x',0)∧Kn x' k (c+1) (ms.filter fun y=>!decide (y.id=m.id)):=by
 obtain⟨b,A,a,j⟩:=h.zg
 have l:=h.small
 have D:=h.zP
 have B:=h.zA
 have f:=h.fit.idsM
 rw[h.zC] at f
 obtain⟨i,r,v,w,z⟩:=jP hm
 have d:x.ends=false:=by
  unfold Acc.ends
  rw[h.N3]
  exact OD (show ¬(1073741824:Int)≤x.zA by omega)
 have e:=(h.one _ (Oj r)).1
 have E:rise (ms[i].zr.map (·.1))=[1]:=by rw[e];rfl
 have g:zI (x.zA+1) [1] x.zg=[{b with mod:=x.zA+1}]:=by
  rw[A]
  simp[zI,xK,a]
 have q:=JV h.fit m.id
 obtain⟨x',n⟩:∃x',yQ x m.id=(x',0)∧x'.N3=x.N3∧x'.zA=x.zA+1∧x'.zg=[{b with mod:=x.zA+1}]∧x'.zN=x.zN∧x'.zP≤x.zP∧x'.zC=ms.eraseIdx i:=by
  unfold yQ
  rw[h.zC,z]
  simp only[d,Px,if_false,E,g,v]
  refine⟨_,rfl,rfl,rfl,rfl,rfl,?_,?_⟩
  ·show x.zP - (ms[i].text.length:Int)≤x.zP
   omega
  ·show ms.eraseIdx (i:Int).toNat=_
   rw[Int.toNat_natCast]
 obtain⟨o,s,F,t,u,G,p⟩:=n
 rw[o] at q
 rw[JY f r w] at p
 refine⟨x',o,s.trans h.N3,q,O,⟨_,t,a,j⟩,u.trans h.zN,O,p,?_,fun y hy=>h.one y (OZ.1 hy).1⟩
 exact Ol (List.length_filter_le _ _) l
theorem Ji:∀{ms:Ob zR},(∀m∈ms,m.zr=[(1,m.id)])→vW ms 1=ms.map fun m=>(m.id,m)
 |[],_=>rfl
 |m :: r,h=>by
  have h1:=h m (PV ..)
  have h2:=Ji (ms:=r) fun y hy=>h y (OP _ hy)
  unfold vW at h2 ⊢
  rw[RD,h2,h1]
  simp
def gT (ms:Ob zR):Ob (Int×zR):=ms.map fun m=>(m.id,m)
theorem Vd {had:Int}:∀{zs:Ob (Int×zR)} {v:yI},(∀z∈zs,z.1≤had)→yy had zs v=v
 |[],_,_=>rfl
 |z :: r,v,h=>by
  have h1:=h z (PV ..)
  unfold yy
  rw[Pm,Om O]
  exact Vd fun y hy=>h y (OP _ hy)
theorem sO {had:Int}{zs:Ob (Int×zR)}{v:yI}{z:Int×zR}(h:∀z∈zs,z.1≤had)(hz:had < z.1):yy had (zs++[z]) v=UV v z:=by
 have a:=Vd (v:=v) h
 unfold yy at a ⊢
 rw[List.foldl_append,a,Pm,List.foldl_nil,OG hz]
def Old (zs:Ob (Int×zR))(m:NL):Prop:=YE zs m=none∨∃z,YE zs m=some z∧z.2.mod≤m.told
theorem fH {flags:Ob yx→yx}{zs:Ob (Int×zR)}:∀{l:Ob NL} {i:Nat},(∀m∈l,Old zs m)→xU flags zs i l=[]∧l.map (xi zs)=l
 |[],_,_=>⟨rfl,rfl⟩
 |m :: r,i,h=>by
  obtain⟨h1,h2⟩:=fH (flags:=flags) (l:=r) (i:=i+1) fun y hy=>h y (OP _ hy)
  rcases h m (PV ..) with h3|⟨z,h3,h4⟩
  ·refine⟨?_,?_⟩
   ·unfold xU
    rw[h3,h1]
    rfl
   ·rw[OY,h2]
    unfold xi
    rw[h3]
  ·refine⟨?_,?_⟩
   ·unfold xU
    rw[h3,h1]
    simp only[Om (show ¬m.told < z.2.mod by omega),PE]
   ·rw[OY,h2]
    unfold xi
    rw[h3]
    simp only[Om (show ¬m.told < z.2.mod by omega)]
theorem iX {is:NL→Bool}:∀{l:Ob NL} {i:Nat},(∀m∈l,is m=true)→YF is i l=[]∧l.filter is=l
 |[],_,_=>⟨rfl,rfl⟩
 |m :: r,i,h=>by
  obtain⟨h1,h2⟩:=iX (l:=r) (i:=i+1) fun y hy=>h y (OP _ hy)
  have h3:=h m (PV ..)
  refine⟨?_,?_⟩
  ·unfold YF
   rw[OG h3,h1]
  ·rw[PM h3,h2]
theorem Qe (flags:Ob yx→yx){zs:Ob (Int×zR)}{v:yI}{all:Bool}(h1:∀m∈v.l,Old zs m)(h2:all=true→∀m∈v.l,N6 zs m=true)(h3:∀z∈zs,z.1≤v.had):yH flags zs v all=([],v):=by
 obtain⟨b,l,had⟩:=v
 obtain⟨a,c⟩:=fH (flags:=flags) (i:=0) h1
 unfold yH
 cases all with
 |true=>
  obtain⟨d,e⟩:=iX (i:=0) (h2 rfl)
  simp only[if_true,d,e,a,c,Vd h3,Nat.lt_irrefl,if_false,Pr]
 |false=>
  simp only[Px,if_false,a,c,Vd h3,Nat.lt_irrefl,Pr]
theorem oL (flags:Ob yx→yx){zs:Ob (Int×zR)}{z:Int×zR}{v:yI}(h1:∀m∈v.l,Old (zs++[z]) m)(h3:∀z∈zs,z.1≤v.had)(h4:v.had < z.1) :
  yH flags (zs++[z]) v true=(YF (N6 (zs++[z])) 0 v.l++VT ((v.l.filter (N6 (zs++[z]))).length+1) xS,UV ⟨v.box,v.l.filter (N6 (zs++[z])),v.had⟩ z):=by
 obtain⟨b,l,had⟩:=v
 obtain⟨a,c⟩:=fH (flags:=flags) (i:=0) (l:=l.filter (N6 (zs++[z]))) fun m hm=>h1 m (OZ.1 hm).1
 unfold yH
 simp only[if_true,a,c,sO h3 h4,Pr,UV,Oo,Pf,Nat.lt_succ_self]
 rfl
theorem mW (l:Ob yx):∀s∈(yz l).1,xD s=true:=by
 intro s a
 unfold yz at a
 by_cases h:l.any (fun s=>!xD s)=true
 ·rw[OG h] at a
  cases a
 ·rw[Om h] at a
  split at a
  ·cases a
  ·have b:=((qU l).2 s).1 a
   cases c:xD s with
   |true=>rfl
   |false=>exact absurd (Ps.2 ⟨s,b,by rw[c];rfl⟩) h
structure Uf (x:Acc):Prop where
 keys:∀m∈x.zC,∀s∈m.keys,xD s=true
 mod:∀m∈x.zC,m.mod≤x.zA
theorem Uf.same {x x':Acc}(h:Uf x)(hm:x'.zC=x.zC)(hc:x.zA≤x'.zA):Uf x':=
 ⟨by rw[hm];exact h.keys,by rw[hm];exact fun m hm2=>Int.le_trans (h.mod m hm2) hc⟩
theorem Uf.turned {x x':Acc}(h:Uf x)(hc:x'.zA=x.zA+1)(hm:∀m'∈x'.zC,m'∈x.zC∨(m'.mod=x.zA+1∧((∃m∈x.zC,m'.keys=m.keys)∨∃ks,m'.keys=(yz ks).1))):Uf x':=by
 refine⟨fun m hm1 s hs=>?_,fun m hm1=>?_⟩
 ·rcases hm m hm1 with h1|⟨_,⟨m2,h2,h3⟩|⟨ks,h3⟩⟩
  ·exact h.keys m h1 s hs
  ·rw[h3] at hs
   exact h.keys m2 h2 s hs
  ·rw[h3] at hs
   exact mW ks s hs
 ·rcases hm m hm1 with h1|⟨h1,_⟩
  ·have:=h.mod m h1
   omega
  ·omega
theorem rZ {x:Acc}(h:Uf x)(a:Uc):Uf (N5 x a).1:=by
 unfold N5
 split
 ·unfold ue
  repeat' split
  all_goals first
   |exact h
   |exact h.same rfl pV
 split
 ·unfold yB
  repeat' split
  all_goals first
   |exact h
   |exact h.same rfl pV
 split
 ·unfold vR
  repeat' split
  all_goals first
   |exact h
   |exact h.same rfl pV
 split
 ·unfold ya xO
  repeat' split
  all_goals first
   |exact h
   |(refine h.turned rfl fun m' hm'=>?_
     rcases OO.1 hm' with h1|h1
     ·exact .inl h1
     ·rw[OI] at h1
      subst h1
      exact .inr ⟨rfl,.inr ⟨_,rfl⟩⟩)
 split
 ·unfold vx VN
  split
  ·exact h
  ·simp only
   repeat' split
   all_goals first
    |exact h
    |(refine h.turned rfl fun m' hm'=>?_
      rcases Zc hm' with h1|⟨a,_,rfl⟩
      ·exact .inl h1
      ·exact .inr ⟨rfl,.inr ⟨_,rfl⟩⟩)
 split
 ·unfold xn
  split
  ·exact h
  ·simp only
   repeat' split
   all_goals first
    |exact h
    |(refine h.turned rfl fun m' hm'=>?_
      rcases Zc hm' with h1|⟨a,ha,rfl⟩
      ·exact .inl h1
      ·exact .inr ⟨rfl,.inl ⟨a,O2 ha,rfl⟩⟩)
 split
 ·unfold yQ
  split
  ·exact h
  ·simp only
   repeat' split
   all_goals first
    |exact h
    |(refine h.turned rfl fun m' hm'=>?_
      exact .inl (List.mem_of_mem_eraseIdx hm'))
 ·exact h
structure NW (x:Acc):Prop where
 fit:Fit x
 uniq:Qv x []
 km:Uf x
theorem AP {x:Acc}(h:NW x)(a:Uc):NW (N5 x a).1:=⟨doP_fit h.fit a,h.uniq.step h.fit (AO h.fit a),rZ h.km a⟩
theorem Le {c:Ud}(h:rK c):NW (Yt c):=⟨ri h,wQ c,⟨fun m hm=>(by simp[Yt] at hm),fun m hm=>(by simp[Yt] at hm)⟩⟩
theorem AL (x:Acc)(a:Uc):(N5 x a).1.zA≤x.zA+1∧x.zA≤(N5 x a).1.zA:=by
 rcases KF x a with h|⟨_,h⟩
 ·rw[h]
  omega
 ·omega
def Xz (box:Int)(m:zR):OC (Int×zR):=if yY m.zr box=0 then none else some (yY m.zr box,m)
theorem QQ (box:Int):∀(l:Ob (Int×Int)),(l.map (·.1)).Pairwise (· < ·)→(∀p∈l,1≤p.2)→(l.filter fun p=>decide (p.1=box))=if yY l box=0 then [] else [(box,yY l box)]
 |[],_,_=>by simp[yY]
 |p :: r,h,h1=>by
  rw[OY,Pc] at h
  by_cases hp:p.1=box
  ·have hu:yY (p :: r) box=p.2:=by simp[yY,hp]
   have b:=h1 p zv
   have c:(r.filter fun p=>decide (p.1=box))=[]:=by
    rw[List.filter_eq_nil_iff]
    intro q a
    have:=h.1 q.1 (OV a)
    have:q.1≠box:=O
    simpa using this
   rw[hu,PM YN,c,Om O,←hp]
  ·have hu:yY (p :: r) box=yY r box:=by simp[yY,hp]
   rw[hu,List.filter_cons_of_neg YN]
   exact QQ box r h.2 (fun q a=>h1 q (OP _ a))
theorem lH (box:Int):∀(ms:Ob zR),(∀m∈ms,(m.zr.map (·.1)).Pairwise (· < ·)∧∀p∈m.zr,1≤p.2)→vW ms box=ms.filterMap (Xz box)
 |[],_=>rfl
 |m :: r,h=>by
  have ih:=lH box r fun y hy=>h y (OP _ hy)
  obtain⟨h1,h2⟩:=h m zv
  unfold vW at ih ⊢
  rw[RD,ih,QQ box m.zr h1 h2,List.filterMap_cons]
  unfold Xz
  by_cases hu:yY m.zr box=0
  ·simp[hu]
  ·simp[hu]
theorem NW.mem {x:Acc}(h:NW x):∀m∈x.zC,(m.zr.map (·.1)).Pairwise (· < ·)∧∀p∈m.zr,1≤p.2:=fun m hm=>
 ⟨(h.fit.mail m hm).mem.rising,fun p hp=>((h.fit.mail m hm).mem.each p hp).2.1⟩
theorem Vk {l:Ob (Int×Int)}{box:Int}(h:yY l box≠0):(box,yY l box)∈l:=by
 unfold yY at h ⊢
 cases a:l.find? (fun p=>decide (p.1=box)) with
 |none=>rw[a] at h;exact absurd rfl h
 |some p=>
  have b:=O2 a
  have c:p.1=box:=of_decide_eq_true (List.find?_some (p:=fun(p:Int×Int)=>decide (p.1=box)) a)
  rw[←c]
  exact b
theorem jR {ms:Ob zR}{box:Int}{z:Int×zR}(h:z∈ms.filterMap (Xz box)):z.2∈ms∧z.1=yY z.2.zr box∧z.1≠0:=by
 obtain⟨m,b,a⟩:=List.mem_filterMap.1 h
 unfold Xz at a
 split at a
 ·cases a
 ·rename_i h1
  injection a with a
  rw[←a]
  exact⟨b,rfl,h1⟩
theorem tG {ms:Ob zR}{box:Int}{m:zR}(h:m∈ms)(hu:yY m.zr box≠0):(yY m.zr box,m)∈ms.filterMap (Xz box):=
 List.mem_filterMap.2 ⟨m,h,by unfold Xz;rw[Om hu]⟩
theorem aF {x:Acc}(h:NW x)(box:Int):((x.zC.filterMap (Xz box)).map (·.1)).Nodup:=by
 have f:∀a:Ob zR,(∀m∈a,m∈x.zC)→(a.map (·.id)).Nodup→((a.filterMap (Xz box)).map (·.1)).Nodup:=by
  intro a
  induction a with
  |nil=>intro _ _;simp
  |cons m r ih=>
   intro c b
   rw[OY,P8] at b
   have j:=ih (fun y hy=>c y (OP _ hy)) b.2
   rw[List.filterMap_cons]
   by_cases d:yY m.zr box=0
   ·have:Xz box m=none:=by unfold Xz;rw[OG d]
    rw[this]
    exact j
   ·have:Xz box m=some (yY m.zr box,m):=by unfold Xz;rw[Om d]
    rw[this]
    show ((yY m.zr box) :: (r.filterMap (Xz box)).map (·.1)).Nodup
    rw[P8]
    refine⟨fun hm=>?_,j⟩
    obtain⟨z,o,e⟩:=OL.1 hm
    obtain⟨i,g2,g3⟩:=jR o
    have k:=Vk d
    have g:=Vk (l:=z.2.zr) (box:=box) bJ
    rw[←g2,e] at g
    have n:=h.uniq.uniq m (c m zv) z.2 (c _ (OP _ i)) _ k g
    exact b.1 (by rw[n];exact OV i)
 exact f x.zC (fun _ h=>h) h.fit.idsM
def Ny (z:Int×zR):Ob (Int×zR)→Ob (Int×zR)
 |[]=>[z]
 |y :: r=>if z.1 < y.1 then z :: y :: r else y :: Ny z r
theorem QN (z:Int×zR):∀l,(Ny z l).Perm (z :: l)
 |[]=>Rp _
 |y :: r=>by
  unfold Ny
  split
  ·exact Rp _
  ·exact((QN z r).cons y).trans (List.Perm.swap z y r)
theorem jC (z:Int×zR):∀l:Ob (Int×zR),(l.map (·.1)).Pairwise (· < ·)→z.1∉l.map (·.1)→((Ny z l).map (·.1)).Pairwise (· < ·)
 |[],_,_=>by simp[Ny]
 |y :: r,h,hz=>by
  rw[OY,Pc] at h
  rw[OY,OB] at hz
  have hz1:z.1≠y.1:=fun e=>hz (.inl e)
  unfold Ny
  split
  ·rename_i hlt
   rw[OY,Pc,OY,Pc]
   refine⟨fun a ha=>?_,h⟩
   rcases OB.1 ha with rfl|ha
   ·exact hlt
   ·have:=h.1 a ha
    omega
  ·rw[OY,Pc]
   refine⟨fun a ha=>?_,jC z r h.2 (fun hm=>hz (.inr hm))⟩
   have h1:=((QN z r).map (·.1)).mem_iff.1 ha
   rcases OB.1 h1 with rfl|h2
   ·show y.1 < z.1
    omega
   ·exact h.1 a h2
def wH (l:Ob (Int×zR)):Ob (Int×zR):=l.foldr Ny []
theorem ZC:∀l,(wH l).Perm l
 |[]=>Rp _
 |z :: r=>(QN z (wH r)).trans ((ZC r).cons z)
theorem dR:∀l:Ob (Int×zR),(l.map (·.1)).Nodup→((wH l).map (·.1)).Pairwise (· < ·)
 |[],_=>by simp[wH]
 |z :: r,h=>by
  rw[OY,P8] at h
  exact jC z (wH r) (dR r h.2) (fun hm=>h.1 (((ZC r).map (·.1)).mem_iff.1 hm))
def N9 (x:Acc)(box:Int):Ob (Int×zR):=wH (x.zC.filterMap (Xz box))
theorem UU {x:Acc}(h:NW x)(box:Int):(N9 x box).Perm (vW x.zC box):=by
 rw[lH box x.zC h.mem]
 exact ZC _
theorem uW {x:Acc}(h:NW x)(box:Int):((N9 x box).map (·.1)).Pairwise (· < ·):=dR _ (aF h box)
theorem YL (x:Acc)(box:Int):(N9 x box).length≤x.zC.length:=by
 unfold N9
 rw[(ZC _).length_eq]
 exact List.length_filterMap_le _ _
theorem Xp {x:Acc}{box:Int}{z:Int×zR}(h:z∈N9 x box):z.2∈x.zC∧z.1=yY z.2.zr box∧z.1≠0:=jR ((ZC _).mem_iff.1 h)
theorem L0 {x:Acc}{box:Int}{m:zR}(h:m∈x.zC)(hu:yY m.zr box≠0):(yY m.zr box,m)∈N9 x box:=(ZC _).mem_iff.2 (tG h hu)
theorem Jp {x:Acc}(h:NW x){box:Int}{z:Int×zR}(hz:z∈N9 x box):1≤z.1∧z.1≤2147483647:=by
 obtain⟨g,g2,g3⟩:=Xp hz
 have f:=Vk (l:=z.2.zr) (box:=box) bJ
 obtain⟨i,c,d⟩:=(h.fit.mail z.2 g).mem.each _ f
 rw[←g2] at c d
 obtain⟨b,e,a⟩:=OL.1 i
 have j:=ux h.fit.idsB e
 have k:b.id=box:=a
 rw[k] at j
 have m:=(h.fit.box b e).next
 have n:=h.fit.N3.uid
 simp only at c d
 omega
end Go.Proofs.YtnofkliaofgiaaaGreatDoor
