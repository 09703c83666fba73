/-
  The reference's small functions that only read: a mailbox's place, an email's, sums, is a text or a number in a list. The reference's small functions that read, and draw: are texts the same, are all mailboxes there, has each a number more; a number in a list; beneath one another. The walk of pillarboxref1.Fold: letters A to Z made small, in a row of bytes of the call's own. The walk of the referen
-/
import Derived.Test.YtfhlhdmhgheonaaGreatDoorGZ
import Derived.Test.YtfhlhdmhgheonaaGreatDoorGC
import Derived.Test.YtfhlhdmhgheonaaGreatDoorGD
import Derived.Test.YtfhlhdmhgheonaaGreatDoorGB
import Derived.Test.YtfhlhdmhgheonaaGreatDoorGU
import Derived.Test.YtfhlhdmhgheonaaGreatDoorGO
import Derived.Test.YtfhlhdmhgheonaaGreatDoorGF
import Derived.Deep.QuietTactic
import Derived.BigQuiet
import Derived.Deep.DeepCutAuto
import Derived.Deep.CutBlock
import Derived.Deep.RegionHeld3
set_option maxRecDepth 100000
set_option maxHeartbeats 8000000
namespace Go.Proofs.YtfhlhdmhgheonaaGreatDoor
open Go.Shelf Go.RowKit
attribute [local go_sem ↓] Go.wp_at_zero Go.wp_at_succ
theorem XE {P:Program}{f:FuncId}{args:Array Value}{w:World}{n:Nat}{v:Value}(h:Calls P f args (w.drewN n) fun e w'=>e=.returned v∧w.drewN n=w'):Calls P f args (w.drewN n) fun e w''=>e=.returned v∧∃m,w''=w.drewN m:=
 Calls.quiet_of_same (h.mono fun _ _ ⟨a,b⟩=>⟨a,b.symm⟩)
theorem Z4 {a b:Int}(h:a=b):Ending.returned (.int .i64 a)=.returned (.int .i64 b):=by rw[h]
theorem yK {a b:Bool}(h:a=b):Ending.returned (.bool a)=.returned (.bool b):=by rw[h]
theorem YT {α:Type}{p:α→Bool}:∀(l:List α) (k:Nat) (hk:k < l.length),(∀t (ht:t < l.length),t < k→p l[t]=false)→p l[k]=true→place p l=k
 |[],k,hk,_,_=>by simp at hk
 |y :: r,0,_,_,h=>by
  have h0:p y=true:=h
  simp[place,h0]
 |y :: r,k+1,hk,hlt,h=>by
  have h0:p y=false:=hlt 0 (by simp) (by omega)
  have h1:=YT r k (by simpa using hk) (fun t ht htk=>by have:=hlt (t+1) (by simp;omega) (by omega);simpa using this) (by simpa using h)
  unfold place
  rw[h0,h1]
  simp only[Bool.false_eq_true,if_false]
  rw[if_neg (by omega)]
  omega
theorem Yy {α:Type}{p:α→Bool}:∀(l:List α),(∀t (ht:t < l.length),p l[t]=false)→place p l= -1
 |[],_=>rfl
 |y :: r,h=>by
  have h0:p y=false:=h 0 (by simp)
  have h1:=Yy r (fun t ht=>by have:=h (t+1) (by simp;omega);simpa using this)
  unfold place
  rw[h0,h1]
  simp
theorem Zb (v:Value)(S:List Nat)(l:List yg)(id:Int)(w:World)(hr:RdS w S 6 v l.length (zk xQ l))(hn:l.length≤1099511627776) :
  Calls Tryz.prog 85 #[v,.int .i64 id] w fun e w'=>e=.returned (.int .i64 (yx id l))∧w=w':=by
 obtain⟨A,c,L,_,_⟩:=hr.form
 subst L
 obtain⟨n,f⟩:∃n,l.length=n:=⟨_,rfl⟩
 obtain⟨R,u⟩:∃R,yx id l=R:=⟨_,rfl⟩
 have a:∀k (B:k < l.length),(∀t (ht:t < l.length),t < k→l[t].id≠id)→l[k].id=id→(k:Int)=R:=fun k B s h2=>by
  rw[←u]
  exact(YT l k B (fun t ht d=>by simpa using s t ht d) (by simpa using h2)).symm
 have i:(∀t (ht:t < l.length),l[t].id≠id)→(-1:Int)=R:=fun h=>by
  rw[←u]
  exact(Yy l (fun t ht=>by simpa using h t ht)).symm
 have E:=zdG hr
 have j:=zdG f
 have F:=zdG a
 have G:=zdG i
 rw[u]
 rw[f] at hn ⊢
 clear hr f a i u
 go_enter Tryz.func85,Tryz.ntmps85
 go_wp2_with fail
 go_loop [5] (fun iv=>∃k:Nat,k≤n∧iv=.int .i64 k∧Hid (∀t (ht:t < l.length),t < k→l[t].id≠id)) (fun iv=>n - (intOf iv).toNat)
 case atStart=>exact⟨0,Nat.zero_le _,rfl,zdG (fun _ _ h=>by omega)⟩
 case round=>
  obtain⟨k,B,rfl,C⟩:=hrel
  by_cases z:k < n
  ·have m:(k:Int) < (n:Int):=by omega
   have H:(0:Int)≤(k:Int):=by omega
   have o:k < l.length:=by rw[j.out];exact z
   have I:IntKind.i64.wrap ((k:Int)+1)=(k:Int)+1:=IntWalk.i64_in _ (by omega)
   obtain⟨M,N,Q,r,_,_,O,_,b⟩:=E.out.at_ (by omega)
   have J:=(Value.slice.inj r).1
   subst J
   obtain⟨y,D⟩:∃y,l[k].id=y:=⟨_,rfl⟩
   have P:w.cell? ⟨M,N+k * 6,none⟩=some (.int .i64 y):=by
    have s:=b (k * 6+0) (by omega)
    rw[zy zT l k 0 o (by omega)] at s
    refine s.trans ?_
    rw[←D]
    rfl
   have p:=zdG D
   clear b r D
   by_cases g:y=id
   ·have K:(y==id)=true:=by simpa using g
    have x:Hid ((k:Int)=R):=zdG (F.out k o C.out (by rw[p.out,g]))
    clear g
    go_wp2_with fail
    go_ret
    exact⟨Z4 x.out,rfl⟩
   ·have K:(y==id)=false:=by simpa using g
    have q:Hid (∀t (ht:t < l.length),t < k+1→l[t].id≠id):=zdG (fun t ht h=>by
     by_cases d:t < k
     ·exact C.out t ht d
     ·obtain rfl:t=k:=by omega
      rw[p.out]
      exact g)
    clear g
    go_wp2_with fail
    refine⟨?_,by simp[intOf];omega⟩
    first|exact⟨k+1,by omega,by go_num,q⟩|((repeat apply Exists.intro);exact⟨⟨k+1,by omega,by go_num,q⟩,rfl⟩)
  ·have m:¬(k:Int) < (n:Int):=by omega
   have x:Hid ((-1:Int)=R):=zdG (G.out (fun t ht=>C.out t ht (by rw[j.out] at ht;omega)))
   go_wp2_with fail
   go_ret
   exact⟨Z4 x.out,rfl⟩
theorem zi.Vx {w:World}{g:Nat}{q:zl}{x:Acc}(h:zi w g q x)(k:Nat)(hk:k < x.mails.length):∃b off cap m,q.vm=.slice (some ⟨b,off,none⟩) x.mails.length cap∧b < w.heap.size∧m∈q.ms∧m.p=x.mails[k]∧∀j,j < 8→w.cell? ⟨b,off+k * 8+j,none⟩=(xP m)[j]?∧w.frozen? ⟨b,off+k * 8+j,none⟩=false:=by
 obtain⟨b,off,cap,_,f,_,_,i,c⟩:=h.mails.at_ (by omega)
 have a:k < q.ms.length:=by rw[h.Za];exact hk
 refine⟨b,off,cap,q.ms[k],f,i,List.getElem_mem a,?_,fun j hj=>?_⟩
 ·have d:(q.ms.map (·.p))[k]?=x.mails[k]?:=by rw[h.same]
  rw[List.getElem?_map,List.getElem?_eq_getElem a,List.getElem?_eq_getElem hk] at d
  exact Option.some.inj d
 ·have e:=c (k * 8+j) (by omega)
  rw[zy z8 q.ms k j a hj,←Nat.add_assoc] at e
  exact e
theorem YQ (w:World)(g:Nat)(q:zl)(x:Acc)(id:Int)(h:zi w g q x)(hn:x.mails.length≤1099511627776) :
  Calls Tryz.prog 130 #[.pointer (some ⟨g,0,none⟩),.int .i64 id] w fun e w'=>e=.returned (.int .i64 (Yi id x.mails))∧w=w':=by
 obtain⟨A,c,F,_,_⟩:=h.mails.form
 have j:=h.zU
 rw[F] at j
 obtain⟨n,f⟩:∃n,x.mails.length=n:=⟨_,rfl⟩
 obtain⟨R,B⟩:∃R,Yi id x.mails=R:=⟨_,rfl⟩
 have a:∀k (G:k < x.mails.length),(∀t (ht:t < x.mails.length),t < k→x.mails[t].id≠id)→x.mails[k].id=id→(k:Int)=R:=fun k G h1 h2=>by
  rw[←B]
  exact(YT x.mails k G (fun t ht d=>by simpa using h1 t ht d) (by simpa using h2)).symm
 have l:(∀t (ht:t < x.mails.length),x.mails[t].id≠id)→(-1:Int)=R:=fun h=>by
  rw[←B]
  exact(Yy x.mails (fun t ht=>by simpa using h t ht)).symm
 have H:=zdG h
 have K:=zdG F
 have o:=zdG f
 have L:=zdG a
 have M:=zdG l
 rw[B]
 rw[f] at hn j
 clear h F f a l B
 go_enter Tryz.func130,Tryz.ntmps130
 go_wp2_with fail
 go_loop [5] (fun iv=>∃k:Nat,k≤n∧iv=.int .i64 k∧Hid (∀t (ht:t < x.mails.length),t < k→x.mails[t].id≠id)) (fun iv=>n - (intOf iv).toNat)
 case atStart=>exact⟨0,Nat.zero_le _,rfl,zdG (fun _ _ h=>by omega)⟩
 case round=>
  obtain⟨k,G,rfl,I⟩:=hrel
  by_cases E:k < n
  ·have r:(k:Int) < (n:Int):=by omega
   have N:(0:Int)≤(k:Int):=by omega
   have s:k < x.mails.length:=by rw[o.out];exact E
   have O:IntKind.i64.wrap ((k:Int)+1)=(k:Int)+1:=IntWalk.i64_in _ (by omega)
   obtain⟨S,T,V,m,z,_,_,J,b⟩:=H.out.Vx k s
   have P:=(Value.slice.inj (K.out.symm.trans z)).1
   subst P
   obtain⟨y,C⟩:∃y,m.p.id=y:=⟨_,rfl⟩
   have U:w.cell? ⟨S,T+k * 8,none⟩=some (.int .i64 y):=by
    rw[←C]
    exact(b 0 (by omega)).1
   rw[J] at C
   have u:=zdG C
   clear b z C J
   by_cases i:y=id
   ·have Q:(y==id)=true:=by simpa using i
    have D:Hid ((k:Int)=R):=zdG (L.out k s I.out (by rw[u.out,i]))
    clear i
    go_wp2_with fail
    go_ret
    exact⟨Z4 D.out,rfl⟩
   ·have Q:(y==id)=false:=by simpa using i
    have v:Hid (∀t (ht:t < x.mails.length),t < k+1→x.mails[t].id≠id):=zdG (fun t ht h=>by
     by_cases d:t < k
     ·exact I.out t ht d
     ·obtain rfl:t=k:=by omega
      rw[u.out]
      exact i)
    clear i
    go_wp2_with fail
    refine⟨?_,by simp[intOf];omega⟩
    first|exact⟨k+1,by omega,by go_num,v⟩|((repeat apply Exists.intro);exact⟨⟨k+1,by omega,by go_num,v⟩,rfl⟩)
  ·have r:¬(k:Int) < (n:Int):=by omega
   have D:Hid ((-1:Int)=R):=zdG (M.out (fun t ht=>I.out t ht (by rw[o.out] at ht;omega)))
   go_wp2_with fail
   go_ret
   exact⟨Z4 D.out,rfl⟩
theorem zdE (w:World)(g:Nat)(q:zl)(x:Acc)(h:zi w g q x)(hf:Fit x) :
  Calls Tryz.prog 121 #[.pointer (some ⟨g,0,none⟩)] w fun e w'=>e=.returned (.int .i64 x.octets)∧w=w':=by
 obtain⟨A,c,B,_,_⟩:=h.mails.form
 have i:=h.zU
 rw[B] at i
 obtain⟨n,f⟩:∃n,x.mails.length=n:=⟨_,rfl⟩
 have V:n≤4294967296:=by
  have u:=hf.nm
  have J:=hf.clock
  have E:=hf.cfg.mod
  omega
 have a:∀k,k≤x.mails.length→uj (x.mails.take k)≤2147483647:=fun k S=>by
  have u:=hf.octets
  have J:=hf.cfg.size
  have E:=uE (x.mails.take k) (x.mails.drop k)
  rw[List.take_append_drop] at E
  have W:=zW (x.mails.drop k)
  omega
 have H:=zdG h
 have K:=zdG B
 have j:=zdG f
 have L:=zdG a
 have M:=zdG hf.octets.1
 rw[f] at i
 clear h B f a hf
 go_enter Tryz.func121,Tryz.ntmps121
 go_wp2_with fail
 go_loop [3,4] (fun sv iv=>∃(k:Nat) (s:Nat),k≤n∧sv=.int .i64 s∧iv=.int .i64 k∧Hid (uj (x.mails.take k)=s)) (fun _ iv=>n - (intOf iv).toNat)
 case atStart=>exact⟨0,0,Nat.zero_le _,rfl,rfl,zdG rfl⟩
 case round=>
  obtain⟨k,s,S,rfl,rfl,G⟩:=hrel
  by_cases v:k < n
  ·have l:(k:Int) < (n:Int):=by omega
   have N:(0:Int)≤(k:Int):=by omega
   have o:k < x.mails.length:=by rw[j.out];exact v
   have O:IntKind.i64.wrap ((k:Int)+1)=(k:Int)+1:=IntWalk.i64_in _ (by omega)
   obtain⟨T,U,Z,m,t,_,_,I,b⟩:=H.out.Vx k o
   have P:=(Value.slice.inj (K.out.symm.trans t)).1
   subst P
   obtain⟨y,C⟩:∃y,m.p.text=y:=⟨_,rfl⟩
   obtain⟨z,D⟩:∃z,y.length=z:=⟨_,rfl⟩
   have X:w.cell? ⟨T,U+k * 8+2,none⟩=some (.string ⟨y.toArray⟩):=by
    rw[←C]
    exact(b 2 (by omega)).1
   have Q:(⟨y.toArray⟩:ByteArray).size=z:=by rw[←D];simp[ByteArray.size]
   have d:uj (x.mails.take (k+1))=((s+z:Nat):Int):=by
    rw[List.take_succ_eq_append_getElem o,uE,G.out,VR,←I,C,D]
    omega
   have F:=L.out (k+1) (by omega)
   rw[d] at F
   have Y:IntKind.i64.wrap ((s:Int)+(z:Int))=(s:Int)+(z:Int):=IntWalk.i64_in _ (by omega)
   have r:=zdG d
   clear b t C I D d F
   go_wp2_with fail
   refine⟨?_,by simp[intOf];omega⟩
   first|exact⟨k+1,s+z,by omega,by go_num,by go_num,r⟩|((repeat apply Exists.intro);exact⟨⟨k+1,s+z,by omega,by go_num,by go_num,r⟩,rfl⟩)
  ·have l:¬(k:Int) < (n:Int):=by omega
   have R:Hid ((s:Int)=x.octets):=zdG (by
    have u:=G.out
    rw[List.take_of_length_le (by rw[j.out];omega)] at u
    rw[M.out,u])
   go_wp2_with fail
   go_ret
   exact⟨Z4 R.out,rfl⟩
theorem zaU (v:Value)(S:List Nat)(l:zN)(t:Text)(w:World)(hr:RdS w S 1 v l.length (l.map encStr))(hn:l.length≤1099511627776) :
  Calls Tryz.prog 132 #[v,.string ⟨t.toArray⟩] w fun e w'=>e=.returned (.bool (decide (t∈l)))∧w=w':=by
 obtain⟨A,c,L,_,_⟩:=hr.form
 subst L
 obtain⟨n,f⟩:∃n,l.length=n:=⟨_,rfl⟩
 obtain⟨R,u⟩:∃R,decide (t∈l)=R:=⟨_,rfl⟩
 have b:∀k (C:k < l.length),l[k]=t→true=R:=fun k C h2=>by
  rw[←u]
  exact(decide_eq_true (by rw[←h2];exact List.getElem_mem C)).symm
 have g:(∀j (a:j < l.length),l[j]≠t)→false=R:=fun h=>by
  rw[←u]
  refine(decide_eq_false fun hm=>?_).symm
  obtain⟨j,a,M⟩:=List.getElem_of_mem hm
  exact h j a M
 have F:=zdG hr
 have i:=zdG f
 have G:=zdG b
 have H:=zdG g
 rw[u]
 rw[f] at hn ⊢
 clear hr f b g u
 go_enter Tryz.func132,Tryz.ntmps132
 go_wp2_with fail
 go_loop [5] (fun iv=>∃k:Nat,k≤n∧iv=.int .i64 k∧Hid (∀j (a:j < l.length),j < k→l[j]≠t)) (fun iv=>n - (intOf iv).toNat)
 case atStart=>exact⟨0,Nat.zero_le _,rfl,zdG (fun _ _ h=>by omega)⟩
 case round=>
  obtain⟨k,C,rfl,E⟩:=hrel
  by_cases z:k < n
  ·have m:(k:Int) < (n:Int):=by omega
   have I:(0:Int)≤(k:Int):=by omega
   have o:k < l.length:=by rw[i.out];exact z
   have J:IntKind.i64.wrap ((k:Int)+1)=(k:Int)+1:=IntWalk.i64_in _ (by omega)
   obtain⟨N,O,U,r,_,_,P,_,d⟩:=F.out.at_ (by omega)
   have K:=(Value.slice.inj r).1
   subst K
   obtain⟨y,D⟩:∃y,l[k]=y:=⟨_,rfl⟩
   have Q:w.cell? ⟨N,O+k,none⟩=some (.string ⟨y.toArray⟩):=by
    refine(d k (by omega)).trans ?_
    rw[List.getElem?_map,List.getElem?_eq_getElem o,D]
    rfl
   have p:=zdG D
   clear d r D
   by_cases s:y=t
   ·subst s
    have x:Hid (true=R):=zdG (G.out k o p.out)
    go_wp2_with fail
    go_ret
    exact⟨yK x.out,rfl⟩
   ·have T:(y==t)=false:=by simpa using s
    have q:Hid (∀j (a:j < l.length),j < k+1→l[j]≠t):=zdG (fun j a h=>by
     by_cases B:j < k
     ·exact E.out j a B
     ·obtain rfl:j=k:=by omega
      rw[p.out]
      exact s)
    clear s
    go_wp2_with fail
    refine⟨?_,by simp[intOf];omega⟩
    first|exact⟨k+1,by omega,by go_num,q⟩|((repeat apply Exists.intro);exact⟨⟨k+1,by omega,by go_num,q⟩,rfl⟩)
  ·have m:¬(k:Int) < (n:Int):=by omega
   have x:Hid (false=R):=zdG (H.out (fun j a=>E.out j a (by rw[i.out] at a;omega)))
   go_wp2_with fail
   go_ret
   exact⟨yK x.out,rfl⟩
theorem QM (v:Value)(S:List Nat)(l:List Int)(t:Int)(w:World)(hr:RdS w S 1 v l.length (l.map encI))(hn:l.length≤1099511627776) :
  Calls Tryz.prog 146 #[v,.int .i64 t] w fun e w'=>e=.returned (.bool (decide (t∈l)))∧w=w':=by
 obtain⟨A,c,M,_,_⟩:=hr.form
 subst M
 obtain⟨n,f⟩:∃n,l.length=n:=⟨_,rfl⟩
 obtain⟨R,u⟩:∃R,decide (t∈l)=R:=⟨_,rfl⟩
 have b:∀k (C:k < l.length),l[k]=t→true=R:=fun k C h2=>by
  rw[←u]
  exact(decide_eq_true (by rw[←h2];exact List.getElem_mem C)).symm
 have i:(∀j (a:j < l.length),l[j]≠t)→false=R:=fun h=>by
  rw[←u]
  refine(decide_eq_false fun hm=>?_).symm
  obtain⟨j,a,N⟩:=List.getElem_of_mem hm
  exact h j a N
 have F:=zdG hr
 have m:=zdG f
 have G:=zdG b
 have H:=zdG i
 rw[u]
 rw[f] at hn ⊢
 clear hr f b i u
 go_enter Tryz.func146,Tryz.ntmps146
 go_wp2_with fail
 go_loop [5] (fun iv=>∃k:Nat,k≤n∧iv=.int .i64 k∧Hid (∀j (a:j < l.length),j < k→l[j]≠t)) (fun iv=>n - (intOf iv).toNat)
 case atStart=>exact⟨0,Nat.zero_le _,rfl,zdG (fun _ _ h=>by omega)⟩
 case round=>
  obtain⟨k,C,rfl,E⟩:=hrel
  by_cases z:k < n
  ·have o:(k:Int) < (n:Int):=by omega
   have I:(0:Int)≤(k:Int):=by omega
   have p:k < l.length:=by rw[m.out];exact z
   have J:IntKind.i64.wrap ((k:Int)+1)=(k:Int)+1:=IntWalk.i64_in _ (by omega)
   obtain⟨O,P,U,s,_,_,Q,_,d⟩:=F.out.at_ (by omega)
   have K:=(Value.slice.inj s).1
   subst K
   obtain⟨y,D⟩:∃y,l[k]=y:=⟨_,rfl⟩
   have T:w.cell? ⟨O,P+k,none⟩=some (.int .i64 y):=by
    refine(d k (by omega)).trans ?_
    rw[List.getElem?_map,List.getElem?_eq_getElem p,D]
    rfl
   have q:=zdG D
   clear d s D
   by_cases g:y=t
   ·have L:(y==t)=true:=by simpa using g
    have x:Hid (true=R):=zdG (G.out k p (by rw[q.out,g]))
    clear g
    go_wp2_with fail
    go_ret
    exact⟨yK x.out,rfl⟩
   ·have L:(y==t)=false:=by simpa using g
    have r:Hid (∀j (a:j < l.length),j < k+1→l[j]≠t):=zdG (fun j a h=>by
     by_cases B:j < k
     ·exact E.out j a B
     ·obtain rfl:j=k:=by omega
      rw[q.out]
      exact g)
    clear g
    go_wp2_with fail
    refine⟨?_,by simp[intOf];omega⟩
    first|exact⟨k+1,by omega,by go_num,r⟩|((repeat apply Exists.intro);exact⟨⟨k+1,by omega,by go_num,r⟩,rfl⟩)
  ·have o:¬(k:Int) < (n:Int):=by omega
   have x:Hid (false=R):=zdG (H.out (fun j a=>E.out j a (by rw[m.out] at a;omega)))
   go_wp2_with fail
   go_ret
   exact⟨yK x.out,rfl⟩
theorem Ug (v1 v2:Value)(S1 S2:List Nat)(l m:zN)(w:World)(h1:RdS w S1 1 v1 l.length (l.map encStr))(h2:RdS w S2 1 v2 m.length (m.map encStr))(hn:l.length≤1099511627776)(hm:m.length≤1099511627776) :
  Calls Tryz.prog 131 #[v1,v2] w fun e w'=>e=.returned (.bool (decide (l=m)))∧Below w.heap.size w w':=by
 obtain⟨A1,c1,b,_,_⟩:=h1.form
 obtain⟨A2,c2,c,_,_⟩:=h2.form
 subst b c
 obtain⟨n,o⟩:∃n,l.length=n:=⟨_,rfl⟩
 obtain⟨E,p⟩:∃E,m.length=E:=⟨_,rfl⟩
 obtain⟨R,F⟩:∃R,decide (l=m)=R:=⟨_,rfl⟩
 have r:¬l=m→false=R:=fun h=>by rw[←F];exact(decide_eq_false h).symm
 have d:l=m→true=R:=fun h=>by rw[←F];exact(decide_eq_true h).symm
 have G:=zdG h1
 have H:=zdG h2
 have i:=zdG o
 have j:=zdG p
 have O:=zdG d
 have M:=zdG r
 rw[F]
 rw[o] at hn ⊢
 rw[p] at hm ⊢
 clear h1 h2 o p F d r
 by_cases a:n=E
 case neg=>
  have P:((n:Int) !=(E:Int))=true:=by simp;omega
  have s:Hid (false=R):=zdG (M.out (fun h=>a (by rw[←i.out,←j.out,h])))
  clear a
  go_enter Tryz.func131,Tryz.ntmps131
  go_wp2_with fail
  go_ret
  exact⟨yK s.out,Below.refl _ _⟩
 subst a
 go_enter Tryz.func131,Tryz.ntmps131
 go_wp2_with fail
 go_loopw [5] (fun iv wr=>∃k:Nat,k≤n∧iv=.int .i64 k∧Hid (Below w.heap.size w wr)∧Hid (l.take k=m.take k)) (fun iv _=>n - (intOf iv).toNat)
 case atStart=>exact⟨0,Nat.zero_le _,rfl,zdG (Below.refl _ _),zdG rfl⟩
 case round=>
  obtain⟨k,hk,rfl,q,N⟩:=hrel
  by_cases C:k < n
  ·have t:(k:Int) < (n:Int):=by omega
   have Q:(0:Int)≤(k:Int):=by omega
   have u:k < l.length:=by rw[i.out];exact C
   have v:k < m.length:=by rw[j.out];exact C
   have S:IntKind.i64.wrap ((k:Int)+1)=(k:Int)+1:=IntWalk.i64_in _ (by omega)
   obtain⟨y,I⟩:∃y,l[k]=y:=⟨_,rfl⟩
   obtain⟨z,J⟩:∃z,m[k]=z:=⟨_,rfl⟩
   obtain⟨V,W,X,b,_,_,K,_,f⟩:=G.out.at_ (by omega)
   obtain⟨Y,Z,a0,c,_,_,L,_,g⟩:=H.out.at_ (by omega)
   have T:=(Value.slice.inj b).1
   have U:=(Value.slice.inj c).1
   subst T U
   have p0:wr.cell? ⟨V,W+k,none⟩=some (.string ⟨y.toArray⟩):=by
    refine(q.out.cell K).trans ((f k (by omega)).trans ?_)
    rw[List.getElem?_map,List.getElem?_eq_getElem u,I]
    rfl
   have q0:wr.cell? ⟨Y,Z+k,none⟩=some (.string ⟨z.toArray⟩):=by
    refine(q.out.cell L).trans ((g k (by omega)).trans ?_)
    rw[List.getElem?_map,List.getElem?_eq_getElem v,J]
    rfl
   have x:=zdG I
   have A:=zdG J
   clear f g b c I J
   by_cases D:y=z
   ·subst D
    have B:Hid (l.take (k+1)=m.take (k+1)):=zdG (by rw[List.take_succ_eq_append_getElem u,List.take_succ_eq_append_getElem v,N.out,x.out,A.out])
    go_wp2_with fail
    go_quiet (fail)
    go_wp2_with fail
    refine⟨?_,by simp[intOf];omega⟩
    first|exact⟨k+1,by omega,by go_num,zdG (below_drewN' q.out _),B⟩|((repeat apply Exists.intro);exact⟨⟨k+1,by omega,by go_num,zdG (below_drewN' q.out _),B⟩,rfl⟩)
   ·have f1:(y==z)=false:=by simpa using D
    have f2:(y !=z)=true:=by simpa using D
    have s:Hid (false=R):=zdG (M.out (fun h=>D (by rw[←x.out,←A.out];subst h;rfl)))
    clear D
    go_wp2_with fail
    go_quiet (fail)
    go_wp2_with fail
    go_ret
    exact⟨yK s.out,below_drewN' q.out _⟩
  ·have t:¬(k:Int) < (n:Int):=by omega
   have s:Hid (true=R):=zdG (O.out (by
    have h1:=N.out
    rw[List.take_of_length_le (by rw[i.out];omega),List.take_of_length_le (by rw[j.out];omega)] at h1
    exact h1))
   go_wp2_with fail
   go_ret
   exact⟨yK s.out,q.out⟩
theorem UI (w:World)(g:Nat)(q:zl)(x:Acc)(v:Value)(S:List Nat)(l:List Int)(h:zi w g q x)(hnb:x.boxes.length≤1099511627776)(hr:RdS w S 1 v l.length (l.map encI))(hn:l.length≤1099511627776) :
  Calls Tryz.prog 120 #[.pointer (some ⟨g,0,none⟩),v] w fun e w'=>e=.returned (.bool (!l.any (fun id=>!zu x.boxes id)))∧Below w.heap.size w w':=by
 obtain⟨A,c,hv,_,_⟩:=hr.form
 subst hv
 obtain⟨n,r⟩:∃n,l.length=n:=⟨_,rfl⟩
 obtain⟨R,O⟩:∃R,(!l.any (fun id=>!zu x.boxes id))=R:=⟨_,rfl⟩
 have B:∀k (Y:k < l.length),zu x.boxes l[k]=false→false=R:=fun k Y h2=>by
  rw[←O]
  have:l.any (fun id=>!zu x.boxes id)=true:=List.any_eq_true.2 ⟨l[k],List.getElem_mem Y,by simp[h2]⟩
  rw[this]
  rfl
 have f:(∀j (b:j < l.length),zu x.boxes l[j]=true)→true=R:=fun h=>by
  rw[←O]
  have:l.any (fun id=>!zu x.boxes id)=false:=by
   rw[List.any_eq_false]
   intro y L
   obtain⟨j,b,rfl⟩:=List.getElem_of_mem L
   simp[h j b]
  rw[this]
  rfl
 obtain⟨V,X,s,_,_⟩:=h.boxes.form
 have p:=h.zQ
 rw[s] at p
 have C:∀W id,W.heap=w.heap→Calls Tryz.prog 85 #[.slice V x.boxes.length X,.int .i64 id] W fun e w'=>e=.returned (.int .i64 (yx id x.boxes))∧W=w':=fun W id he=>by
  have D:=(h.boxes.heap he).reads [] (by simp)
  rw[s] at D
  exact Zb _ [] x.boxes id W D hnb
 have E:=zdG C
 have HR:=zdG hr
 have F:=zdG r
 have HY:=zdG f
 have HN:=zdG B
 rw[O]
 obtain⟨P,i⟩:∃P,x.boxes.length=P:=⟨_,rfl⟩
 rw[i] at p E hnb
 rw[r] at hn ⊢
 clear hr r f B O h s C i
 go_enter Tryz.func120,Tryz.ntmps120
 go_wp2_with fail
 go_loopw [5] (fun iv wr=>∃(k d:Nat),k≤n∧iv=.int .i64 k∧Hid (wr=w.drewN d)∧Hid (∀j (b:j < l.length),j < k→zu x.boxes l[j]=true)) (fun iv _=>n - (intOf iv).toNat)
 case atStart=>exact⟨0,0,Nat.zero_le _,rfl,zdG rfl,zdG (fun _ _ h=>by omega)⟩
 case round=>
  obtain⟨k,d,Y,rfl,z,HK⟩:=hrel
  by_cases T:k < n
  ·have G:(k:Int) < (n:Int):=by omega
   have a0:(0:Int)≤(k:Int):=by omega
   have H:k < l.length:=by rw[F.out];exact T
   have a1:IntKind.i64.wrap ((k:Int)+1)=(k:Int)+1:=IntWalk.i64_in _ (by omega)
   obtain⟨b1,o1,c1,M,_,_,a3,_,o⟩:=HR.out.at_ (by omega)
   have e1:=(Value.slice.inj M).1
   subst e1
   obtain⟨y,L⟩:∃y,l[k]=y:=⟨_,rfl⟩
   have d0:wr.cell? ⟨b1,o1+k,none⟩=some (.int .i64 y):=by
    rw[z.out]
    refine(o k (by omega)).trans ?_
    rw[List.getElem?_map,List.getElem?_eq_getElem H,L]
    rfl
   have a2:wr.cell? ⟨g,10,none⟩=some (.slice V P X):=by rw[z.out];exact p
   have Z:=fun m=>E.out (wr.drewN m) y (by rw[z.out];rfl)
   have a:=xR y x.boxes
   obtain⟨N,t⟩:∃N,yx y x.boxes=N:=⟨_,rfl⟩
   rw[t] at a
   have HQ:Hid (∀m,Calls Tryz.prog 85 #[.slice V P X,.int .i64 y] (wr.drewN m) fun e w'=>e=.returned (.int .i64 N)∧wr.drewN m=w'):=zdG (fun m=>by
    have D:=Z m
    rw[t] at D
    exact D)
   have I:=zdG L
   clear o M L Z t
   cases u:zu x.boxes y with
   |false=>
    rw[u] at a
    have g1:decide (N < 0)=true:=a
    have Q:Hid (false=R):=zdG (HN.out k H (by rw[I.out];exact u))
    clear u a
    go_wp2_with fail
    go_quiet ((go_at_call 85;exact XE (HQ.out _)))
    go_wp2_with fail
    go_ret
    exact⟨yK Q.out,by rw[z.out];exact below_drewN' (below_drewN' (Below.refl _ _) _) _⟩
   |true=>
    rw[u] at a
    have g1:decide (N < 0)=false:=a
    have J:Hid (∀j (b:j < l.length),j < k+1→zu x.boxes l[j]=true):=zdG (fun j b h=>by
     by_cases U:j < k
     ·exact HK.out j b U
     ·obtain rfl:j=k:=by omega
      rw[I.out]
      exact u)
    clear u a
    go_wp2_with fail
    go_quiet ((go_at_call 85;exact XE (HQ.out _)))
    go_wp2_with fail
    have K:Hid (wr.drewN nq=w.drewN (d+nq)):=zdG (by rw[z.out,World.drewN_drewN])
    refine⟨?_,by simp[intOf];omega⟩
    first|exact⟨k+1,_,by omega,by go_num,K,J⟩|((repeat apply Exists.intro);exact⟨⟨k+1,_,by omega,by go_num,K,J⟩,rfl⟩)
  ·have G:¬(k:Int) < (n:Int):=by omega
   have Q:Hid (true=R):=zdG (HY.out (fun j b=>HK.out j b (by rw[F.out] at b;omega)))
   go_wp2_with fail
   go_ret
   exact⟨yK Q.out,by rw[z.out];exact below_drewN' (Below.refl _ _) _⟩
theorem JK (w:World)(g:Nat)(q:zl)(x:Acc)(v:Value)(S:List Nat)(l:List Int)(h:zi w g q x)(hnb:x.boxes.length≤1099511627776)(hr:RdS w S 1 v l.length (l.map encI))(hn:l.length≤1099511627776)(hin:∀i∈l,i∈ids x.boxes) :
  Calls Tryz.prog 122 #[.pointer (some ⟨g,0,none⟩),v] w fun e w'=>e=.returned (.bool (!l.any x.spent))∧Below w.heap.size w w':=by
 obtain⟨A,c,hv,_,_⟩:=hr.form
 subst hv
 obtain⟨n,D⟩:∃n,l.length=n:=⟨_,rfl⟩
 obtain⟨R,hR⟩:∃R,(!l.any x.spent)=R:=⟨_,rfl⟩
 have K:∀k (hk:k < l.length),x.spent l[k]=true→false=R:=fun k hk h2=>by
  rw[←hR]
  have:l.any x.spent=true:=List.any_eq_true.2 ⟨l[k],List.getElem_mem hk,h2⟩
  rw[this]
  rfl
 have r:(∀j (f:j < l.length),x.spent l[j]=false)→true=R:=fun h=>by
  rw[←hR]
  have:l.any x.spent=false:=by
   rw[List.any_eq_false]
   intro y I
   obtain⟨j,f,rfl⟩:=List.getElem_of_mem I
   simp[h j f]
  rw[this]
  rfl
 obtain⟨Ab,cb,o,_,_⟩:=h.boxes.form
 have B:=h.zQ
 rw[o] at B
 have c5:w.cell? ⟨g,5,none⟩=some (.int .i64 x.cfg.maxUid):=h.cells 5
 have L:∀W id,W.heap=w.heap→Calls Tryz.prog 85 #[.slice Ab x.boxes.length cb,.int .i64 id] W fun e w'=>e=.returned (.int .i64 (yx id x.boxes))∧W=w':=fun W id he=>by
  have M:=(h.boxes.heap he).reads [] (by simp)
  rw[o] at M
  exact Zb _ [] x.boxes id W M hnb
 have N:=zdG L
 have O:Hid (Sl w 89 6 (.slice Ab x.boxes.length cb) q.hb x.boxes.length (zk xQ x.boxes)):=zdG (by rw[←o];exact h.boxes)
 have a2:=zdG hin
 have HR:=zdG hr
 have P:=zdG D
 have HY:=zdG r
 have HN:=zdG K
 rw[hR]
 obtain⟨J,a⟩:∃J,x.boxes.length=J:=⟨_,rfl⟩
 have a3:=zdG a
 rw[a] at B N hnb O
 rw[D] at hn ⊢
 obtain⟨E,F⟩:∃E,x.cfg.maxUid=E:=⟨_,rfl⟩
 rw[F] at c5
 have a4:=zdG F
 clear hr D r K hR h o L a hin F
 go_enter Tryz.func122,Tryz.ntmps122
 go_wp2_with fail
 go_loopw [5] (fun iv wr=>∃(k d:Nat),k≤n∧iv=.int .i64 k∧Hid (wr=w.drewN d)∧Hid (∀j (f:j < l.length),j < k→x.spent l[j]=false)) (fun iv _=>n - (intOf iv).toNat)
 case atStart=>exact⟨0,0,Nat.zero_le _,rfl,zdG rfl,zdG (fun _ _ h=>by omega)⟩
 case round=>
  obtain⟨k,d,hk,rfl,t,HK⟩:=hrel
  by_cases a5:k < n
  ·have Q:(k:Int) < (n:Int):=by omega
   have a7:(0:Int)≤(k:Int):=by omega
   have C:k < l.length:=by rw[P.out];exact a5
   have a8:IntKind.i64.wrap ((k:Int)+1)=(k:Int)+1:=IntWalk.i64_in _ (by omega)
   obtain⟨b1,o1,c1,Y,_,_,ad,_,u⟩:=HR.out.at_ (by omega)
   have e1:=(Value.slice.inj Y).1
   subst e1
   obtain⟨y,I⟩:∃y,l[k]=y:=⟨_,rfl⟩
   have d0:wr.cell? ⟨b1,o1+k,none⟩=some (.int .i64 y):=by
    rw[t.out]
    refine(u k (by omega)).trans ?_
    rw[List.getElem?_map,List.getElem?_eq_getElem C,I]
    rfl
   have a9:wr.cell? ⟨g,10,none⟩=some (.slice Ab J cb):=by rw[t.out];exact B
   have k5:wr.cell? ⟨g,5,none⟩=some (.int .i64 E):=by rw[t.out];exact c5
   obtain⟨p,hp,Z,_,a0,_,_⟩:=Zy (a2.out y (I ▸ List.getElem_mem C))
   have aa:p < J:=by rw[←a3.out];exact hp
   have HQ:Hid (∀m,Calls Tryz.prog 85 #[.slice Ab J cb,.int .i64 y] (wr.drewN m) fun e w'=>e=.returned (.int .i64 (p:Int))∧wr.drewN m=w'):=zdG (fun m=>by
    have M:=N.out (wr.drewN m) y (by rw[t.out];rfl)
    rw[Z] at M
    exact M)
   obtain⟨b9,o9,c9,_,a1,_,_,_,z⟩:=O.out.at_ (by omega)
   have e9:=(Value.slice.inj a1).1
   subst e9
   obtain⟨G,b⟩:∃G,x.boxes[p].next=G:=⟨_,rfl⟩
   have k4:wr.cell? ⟨b9,o9+p * 6+4,none⟩=some (.int .i64 G):=by
    rw[t.out,Nat.add_assoc]
    refine(z (p * 6+4) (by omega)).1.trans ?_
    rw[zy zT x.boxes p 4 hp (by omega),←b]
    rfl
   have ab:(0:Int)≤(p:Int):=by omega
   have ac:(p:Int) < (J:Int):=by omega
   have s:x.spent y=decide (E < G):=by
    unfold Acc.spent
    rw[a0,b,a4.out]
   have T:=zdG I
   have U:=zdG s
   clear u Y I z a1 Z a0 b s
   by_cases H:E < G
   ·have g1:decide (E < G)=true:=decide_eq_true H
    have HE:Hid (false=R):=zdG (HN.out k C (by rw[T.out,U.out];exact decide_eq_true H))
    clear H
    go_wp2_with fail
    go_quiet ((go_at_call 85;exact XE (HQ.out _)))
    go_wp2_with fail
    go_ret
    exact⟨yK HE.out,by rw[t.out];exact below_drewN' (below_drewN' (Below.refl _ _) _) _⟩
   ·have g1:decide (E < G)=false:=decide_eq_false H
    have V:Hid (∀j (f:j < l.length),j < k+1→x.spent l[j]=false):=zdG (fun j f h=>by
     by_cases a6:j < k
     ·exact HK.out j f a6
     ·obtain rfl:j=k:=by omega
      rw[T.out,U.out]
      exact decide_eq_false H)
    clear H
    go_wp2_with fail
    go_quiet ((go_at_call 85;exact XE (HQ.out _)))
    go_wp2_with fail
    have X:Hid (wr.drewN nq=w.drewN (d+nq)):=zdG (by rw[t.out,World.drewN_drewN])
    refine⟨?_,by simp[intOf];omega⟩
    first|exact⟨k+1,_,by omega,by go_num,X,V⟩|((repeat apply Exists.intro);exact⟨⟨k+1,_,by omega,by go_num,X,V⟩,rfl⟩)
  ·have Q:¬(k:Int) < (n:Int):=by omega
   have HE:Hid (true=R):=zdG (HY.out (fun j f=>HK.out j f (by rw[P.out] at f;omega)))
   go_wp2_with fail
   go_ret
   exact⟨yK HE.out,by rw[t.out];exact below_drewN' (Below.refl _ _) _⟩
end Go.Proofs.YtfhlhdmhgheonaaGreatDoor
namespace Go.Proofs.YtfhlhdmhgheonaaGreatDoor
open Go.RowKit
theorem lowB_big (c:UInt8)(h1:65≤(c.toNat:Int))(h2:(c.toNat:Int)≤90):(c.toNat:Int)+32=((lowB c).toNat:Int):=(za0 c h1 h2).symm
theorem zcb (c:UInt8)(h:¬(65≤(c.toNat:Int)∧(c.toNat:Int)≤90)):lowB c=c:=by
 have:=V9 c h
 unfold lowN at this
 exact UInt8.toNat_inj.1 (by omega)
theorem Y2 (s:ByteArray)(w:World)(hs:s.size≤140737488351232) :
  Calls Tryz.prog 177 #[.string s] w fun e w'=>e=.returned (.string (VX s))∧Below w.heap.size w w':=by
 go_enter Tryz.func177,Tryz.ntmps177
 go_wp2_with (refine Vv rfl 9 139 5 _ rfl Tryz.underlying9 Tryz.underlying139 Tryz.underlying5 _ rfl ?_)
 intro cap J E _ p I v
 have q:=zdG p
 clear p
 go_wp2
 go_loopw [4] (fun i wr=>∃k:Nat,k≤s.size∧i=.int .i64 k∧RowB wr w.heap.size (xq s.data.toList k)∧w.heap.size < wr.heap.size∧Below w.heap.size w wr) (fun i _=>s.size - (intOf i).toNat)
 case atStart=>exact⟨0,Nat.zero_le _,rfl,by rw[Qd];exact q.out,v,I⟩
 case round=>
  obtain⟨k,K,rfl,n,d,f⟩:=hrel
  by_cases z:k < s.size
  ·have o:k < s.data.toList.length:=by rw[V4];exact z
   have r:k < (xq s.data.toList k).length:=by rw[Zk];exact o
   obtain⟨F,L⟩:=n k r
   rw[Ub _ _ o r] at F
   have x:=zdG n
   have g:=Vq s.data.toList k o
   have b:=Js s.data.toList k o
   have j:=lowB_big s.data.toList[k]
   have l:=zcb s.data.toList[k]
   generalize s.data.toList[k]=c at F g b j l
   have G:=zdG g
   have A:=zdG b
   have H:=zdG j
   have B:=zdG l
   clear n g b j l
   by_cases C:65≤(c.toNat:Int)
   ·by_cases D:(c.toNat:Int)≤90
    ·go_wp2
     refine⟨?_,by simp[intOf];omega⟩
     have a:RowB (wr.setCell ⟨w.heap.size,k,none⟩ (.int .u8 ((c.toNat:Int)+32))) w.heap.size (xq s.data.toList (k+1)):=by
      rw[←G.out,H.out C D]
      exact x.out.set k r _
     have u:Below w.heap.size w (wr.setCell ⟨w.heap.size,k,none⟩ (.int .u8 ((c.toNat:Int)+32))):=f.setCell (Nat.le_refl _) _
     first|exact⟨k+1,by omega,by go_num,a,by simpa using d,u⟩|((repeat apply Exists.intro);exact⟨⟨k+1,by omega,by go_num,a,by simpa using d,u⟩,rfl⟩)
    ·have a:RowB wr w.heap.size (xq s.data.toList (k+1)):=by
      rw[←A.out (B.out (fun h=>D h.2))]
      exact x.out
     have m:=zdG a
     clear a
     go_wp2
     refine⟨?_,by simp[intOf];omega⟩
     first|exact⟨k+1,by omega,by go_num,m.out,d,f⟩|((repeat apply Exists.intro);exact⟨⟨k+1,by omega,by go_num,m.out,d,f⟩,rfl⟩)
   ·have a:RowB wr w.heap.size (xq s.data.toList (k+1)):=by
     rw[←A.out (B.out (fun h=>C h.1))]
     exact x.out
    have m:=zdG a
    clear a
    go_wp2
    refine⟨?_,by simp[intOf];omega⟩
    first|exact⟨k+1,by omega,by go_num,m.out,d,f⟩|((repeat apply Exists.intro);exact⟨⟨k+1,by omega,by go_num,m.out,d,f⟩,rfl⟩)
  ·have y:k=s.size:=by omega
   subst y
   have t:=vz (P:=Tryz.prog) (cap:=cap) Tryz.underlying139 Tryz.underlying5 n s.size (by rw[Zk,V4]) 9 Tryz.underlying9
   rw[show xq s.data.toList s.size=vP s.data.toList from by rw[←V4,zaJ]] at t
   clear n
   go_wp2
   go_ret
   exact⟨rfl,f⟩
theorem X4 (r:Int)(h0:0≤r)(h1:r < 1073741824):bits .and .i64 r 63=r % 64:=bits_mask .i64 62 (by decide) (fun n _ _=>IntWalk.i64_in _ (by omega)) 6 (by decide) r h0 (by omega)
theorem zbA (r:Int)(_:0≤r):bits .or .i64 128 (r % 64)=128+r % 64:=bits_join .i64 62 (by decide) (fun n h0 h1=>IntWalk.i64_in _ (by omega)) 6 128 (r % 64) (by omega) (by omega) (by omega) (by omega) (by omega) (by omega)
theorem zbE (r:Int)(_:0≤r):IntKind.u8.wrap (128+r % 64)=128+r % 64:=by rw[IntKind.wrap_u8];omega
theorem rput_any (r:Int)(h0:0≤r)(h1:r < 1073741824)(p:List UInt8)(hp:XQ r.toNat=p)(w:World) :
  Calls Tryz.prog 256 #[.int .i64 r] w fun e w'=>e=.returned (.string ⟨p.toArray⟩)∧Below w.heap.size w w':=by
 by_cases x:1114111 < r
 ·have e:p=[]:=by rw[←hp];unfold XQ;rw[if_pos (by omega)]
  subst e
  clear hp
  go_enter Tryz.func256,Tryz.ntmps256
  go_wp2
  go_ret
  exact⟨rfl,Below.refl _ _⟩
 by_cases a:55296≤r∧r≤57343
 ·have e:p=[]:=by rw[←hp];unfold XQ;rw[if_pos (by omega)]
  obtain⟨a,u⟩:=a
  subst e
  clear hp
  go_enter Tryz.func256,Tryz.ntmps256
  go_wp2
  go_ret
  exact⟨rfl,Below.refl _ _⟩
 by_cases u:r < 128
 ·have e:p=[UInt8.ofNat r.toNat]:=by rw[←hp];unfold XQ;rw[if_neg (by omega),if_pos (by omega)]
  subst e
  have v:IntKind.u8.wrap r=r:=by rw[IntKind.wrap_u8];omega
  have b:=conv1 r (by omega) w
  have c:¬55296≤r:=by omega
  clear hp a
  go_enter Tryz.func256,Tryz.ntmps256
  go_wp2
  go_ret
  exact⟨rfl,(Below.refl _ w).alloc (Nat.le_refl _) _⟩
 by_cases y:r < 2048
 ·have e:p=[UInt8.ofNat (192+r / 64).toNat,UInt8.ofNat (128+r % 64).toNat]:=by
   rw[←hp];unfold XQ;rw[if_neg (by omega),if_neg (by omega),if_pos (by omega)]
   rw[show (192+r / 64).toNat=192+r.toNat / 64 by omega,show (128+r % 64).toNat=128+r.toNat % 64 by omega]
  have k:bits .or .i64 192 (r / 64)=192+r / 64:=bits_join .i64 62 (by decide) (fun n h0 h1=>IntWalk.i64_in _ (by omega)) 6 192 (r / 64) (by omega) (by omega) (by omega) (by omega) (by omega) (by omega)
  have l:IntKind.u8.wrap (192+r / 64)=192+r / 64:=by rw[IntKind.wrap_u8];omega
  have b:=conv2 (192+r / 64) (128+r % 64) (by omega) (by omega) w
  rw[←e] at b
  have d:=X4 r h0 h1
  have f:=zbA r h0
  have g:=zbE r h0
  have c:¬55296≤r:=by omega
  clear hp a e
  go_enter Tryz.func256,Tryz.ntmps256
  go_wp2_with fail
  go_ret
  exact⟨rfl,(Below.refl _ w).alloc (Nat.le_refl _) _⟩
 by_cases z:r < 65536
 ·have e:p=[UInt8.ofNat (224+r / 4096).toNat,UInt8.ofNat (128+r / 64 % 64).toNat,UInt8.ofNat (128+r % 64).toNat]:=by
   rw[←hp];unfold XQ;rw[if_neg (by omega),if_neg (by omega),if_neg (by omega),if_pos (by omega)]
   rw[show (224+r / 4096).toNat=224+r.toNat / 4096 by omega,show (128+r % 64).toNat=128+r.toNat % 64 by omega,show (128+r / 64 % 64).toNat=128+r.toNat / 64 % 64 by omega]
  have k:bits .or .i64 224 (r / 4096)=224+r / 4096:=bits_join .i64 62 (by decide) (fun n h0 h1=>IntWalk.i64_in _ (by omega)) 5 224 (r / 4096) (by omega) (by omega) (by omega) (by omega) (by omega) (by omega)
  have l:IntKind.u8.wrap (224+r / 4096)=224+r / 4096:=by rw[IntKind.wrap_u8];omega
  have b:=conv3 (224+r / 4096) (128+r / 64 % 64) (128+r % 64) (by omega) (by omega) (by omega) w
  rw[←e] at b
  have d:=X4 r h0 h1
  have f:=zbA r h0
  have g:=zbE r h0
  have h:=X4 (r / 64) (by omega) (by omega)
  have i:=zbA (r / 64) (by omega)
  have j:=zbE (r / 64) (by omega)
  have c:55296≤r→¬r≤57343:=fun h1 h2=>a ⟨h1,h2⟩
  clear hp a e
  go_enter Tryz.func256,Tryz.ntmps256
  by_cases m:55296≤r
  ·have o:=c m
   clear c
   go_wp2_with fail
   go_ret
   exact⟨rfl,(Below.refl _ w).alloc (Nat.le_refl _) _⟩
  ·clear c
   go_wp2_with fail
   go_ret
   exact⟨rfl,(Below.refl _ w).alloc (Nat.le_refl _) _⟩
 ·have e:p=[UInt8.ofNat (240+r / 262144).toNat,UInt8.ofNat (128+r / 4096 % 64).toNat,UInt8.ofNat (128+r / 64 % 64).toNat,UInt8.ofNat (128+r % 64).toNat]:=by
   rw[←hp];unfold XQ;rw[if_neg (by omega),if_neg (by omega),if_neg (by omega),if_neg (by omega)]
   rw[show (240+r / 262144).toNat=240+r.toNat / 262144 by omega,show (128+r % 64).toNat=128+r.toNat % 64 by omega,show (128+r / 64 % 64).toNat=128+r.toNat / 64 % 64 by omega,show (128+r / 4096 % 64).toNat=128+r.toNat / 4096 % 64 by omega]
  have k:bits .or .i64 240 (r / 262144)=240+r / 262144:=bits_join .i64 62 (by decide) (fun n h0 h1=>IntWalk.i64_in _ (by omega)) 4 240 (r / 262144) (by omega) (by omega) (by omega) (by omega) (by omega) (by omega)
  have l:IntKind.u8.wrap (240+r / 262144)=240+r / 262144:=by rw[IntKind.wrap_u8];omega
  have b:=conv4 (240+r / 262144) (128+r / 4096 % 64) (128+r / 64 % 64) (128+r % 64) (by omega) (by omega) (by omega) (by omega) w
  rw[←e] at b
  have d:=X4 r h0 h1
  have f:=zbA r h0
  have g:=zbE r h0
  have h:=X4 (r / 64) (by omega) (by omega)
  have i:=zbA (r / 64) (by omega)
  have j:=zbE (r / 64) (by omega)
  have q:=X4 (r / 4096) (by omega) (by omega)
  have s:=zbA (r / 4096) (by omega)
  have t:=zbE (r / 4096) (by omega)
  have m:55296≤r:=by omega
  have o:¬r≤57343:=by omega
  clear hp a e
  go_enter Tryz.func256,Tryz.ntmps256
  go_wp2_with fail
  go_ret
  exact⟨rfl,(Below.refl _ w).alloc (Nat.le_refl _) _⟩
def xJ (c:Nat):Nat×Nat:=if 240≤c then (4,c % 8) else if 224≤c then (3,c % 16) else if 192≤c then (2,c % 32) else (1,c)
theorem zbd (c:Nat):1≤(xJ c).1∧(xJ c).1≤4:=by
 unfold xJ
 repeat' split
 all_goals simp
theorem zdw {r:Nat}{c:UInt8}{a b d:UInt8}(h:XQ r=[c,a,b,d]):c.toNat≤244:=by
 unfold XQ at h
 split at h
 ·cases h
 split at h
 ·simp at h
 split at h
 ·simp at h
 split at h
 ·simp at h
 ·rename_i h1 _ _ _
  simp only[List.cons.injEq] at h
  rw[←h.1,UInt8.toNat_ofNat']
  omega
theorem zbF (c:UInt8)(r:List UInt8):VU (c :: r)=if r.length+1 < (xJ c.toNat).1 then none
  else if XQ (vO (xJ c.toNat).2 (r.take ((xJ c.toNat).1 - 1)))=c :: r.take ((xJ c.toNat).1 - 1) then some (vO (xJ c.toNat).2 (r.take ((xJ c.toNat).1 - 1)),(xJ c.toNat).1) else none:=by
 have j:=c.toNat_lt
 by_cases h:c.toNat < 128
 ·have e:yP c.toNat=(1,c.toNat):=by unfold yP;rw[if_pos h]
  have f:xJ c.toNat=(1,c.toNat):=by unfold xJ;rw[if_neg (by omega),if_neg (by omega),if_neg (by omega)]
  rw[VU,e,f]
  simp
 by_cases l:c.toNat < 192
 ·have e:yP c.toNat=(0,0):=by unfold yP;rw[if_neg h,if_neg (by omega),if_neg (by omega),if_neg (by omega)]
  have f:xJ c.toNat=(1,c.toNat):=by unfold xJ;rw[if_neg (by omega),if_neg (by omega),if_neg (by omega)]
  rw[VU,e,f,if_pos (by simp),if_neg (by simp)]
  simp only[Nat.sub_self,List.take_zero,vO,List.foldl_nil]
  rw[if_neg]
  unfold XQ
  rw[if_neg (by omega),if_neg (by omega),if_pos (by omega)]
  simp
 by_cases m:c.toNat < 224
 ·have e:yP c.toNat=(2,c.toNat % 32):=by unfold yP;rw[if_neg h,if_pos (by omega)]
  have f:xJ c.toNat=(2,c.toNat % 32):=by unfold xJ;rw[if_neg (by omega),if_neg (by omega),if_pos (by omega)]
  rw[VU,e,f]
  simp
 by_cases n:c.toNat < 240
 ·have e:yP c.toNat=(3,c.toNat % 16):=by unfold yP;rw[if_neg h,if_neg (by omega),if_pos (by omega)]
  have f:xJ c.toNat=(3,c.toNat % 16):=by unfold xJ;rw[if_neg (by omega),if_pos (by omega)]
  rw[VU,e,f]
  simp
 by_cases o:c.toNat < 248
 ·have e:yP c.toNat=(4,c.toNat % 8):=by unfold yP;rw[if_neg h,if_neg (by omega),if_neg (by omega),if_pos (by omega)]
  have f:xJ c.toNat=(4,c.toNat % 8):=by unfold xJ;rw[if_pos (by omega)]
  rw[VU,e,f]
  simp
 ·have e:yP c.toNat=(0,0):=by unfold yP;rw[if_neg h,if_neg (by omega),if_neg (by omega),if_neg (by omega)]
  have f:xJ c.toNat=(4,c.toNat % 8):=by unfold xJ;rw[if_pos (by omega)]
  rw[VU,e,f,if_pos (by simp)]
  simp only
  by_cases g:r.length+1 < 4
  ·rw[if_pos g]
  ·rw[if_neg g,if_neg]
   intro i
   match r,g with
   |[],g=>exact g (by simp)
   |[_],g=>exact g (by simp)
   |[_,_],g=>exact g (by simp)
   |a :: b :: d :: r',_=>
    have k:=zdw (c:=c) (a:=a) (b:=b) (d:=d) (by simpa using i)
    omega
theorem QW (c:Nat)(hc:c < 256)(l:List UInt8)(hl:l.length≤3):vO (xJ c).2 l < 67108864:=by
 have a:=zaV (xJ c).2 l
 have d:(xJ c).2 < 192:=by
  unfold xJ
  repeat' split
  all_goals (simp only;omega)
 have b:64 ^ l.length≤64 ^ 3:=Nat.pow_le_pow_right (by omega) hl
 calc vO (xJ c).2 l < ((xJ c).2+1) * 64 ^ l.length:=a
  _≤192 * 64 ^ 3:=Nat.mul_le_mul (by omega) b
  _ < 67108864:=by decide
theorem zaM (s:ByteArray)(k:Nat)(hk:k < s.size)(hs:s.size≤4294967296)(v x:Int)(hv:zbJ s k=(v,x))(w:World) :
  Calls Tryz.prog 207 #[.string s,.int .i64 k] w fun e w'=>e=.returned (.tuple #[.int .i64 v,.int .i64 x])∧Below w.heap.size w w':=by
 have hc:=s[k].toNat_lt
 obtain⟨n,C⟩:∃n,(xJ s[k].toNat).1=n:=⟨_,rfl⟩
 obtain⟨b,G⟩:∃b,(xJ s[k].toNat).2=b:=⟨_,rfl⟩
 have a6:n≤4:=by rw[←C];exact(zbd _).2
 have a7:1≤n:=by rw[←C];exact(zbd _).1
 have a5:IntKind.i64.wrap ((s.size:Int) - k)=(s.size:Int) - k:=IntWalk.i64_in _ (by omega)
 have o:(s.data.toList.drop (k+1)).length+1=s.size - k:=by simp;omega
 have hg:VU (s.data.toList.drop k)=if s.size - k < n then none else if XQ (vO b ((s.data.toList.drop (k+1)).take (n - 1)))=(s.data.toList.drop k).take n then some (vO b ((s.data.toList.drop (k+1)).take (n - 1)),n) else none:=by
  rw[drop_at s k hk,zbF,C,G,o]
  obtain⟨n',rfl⟩:∃n',n=n'+1:=⟨n - 1,by omega⟩
  rw[List.take_succ_cons,Nat.add_sub_cancel]
 have E:∀j,j≤n→vO b ((s.data.toList.drop (k+1)).take (j - 1)) < 67108864:=fun j hj=>by
  rw[←G]
  exact QW _ hc _ (by rw[List.length_take];omega)
 obtain⟨c,a4⟩:∃c:Nat,s[k].toNat=c:=⟨_,rfl⟩
 rw[a4] at hc C G
 have J:=zdG hg
 have K:=zdG hv
 have L:=zdG E
 have M:=zdG C
 have N:=zdG G
 have a8:(0:Int)≤(k:Int):=by omega
 have a9:(k:Int) < (s.size:Int):=by omega
 have aa:¬(k:Int) < 0:=by omega
 have ab:¬(s.size:Int)≤(k:Int):=by omega
 have w7:bits .and .i64 (c:Int) 7=(c:Int) % 8:=bits_mask .i64 62 (by decide) (fun n _ _=>IntWalk.i64_in _ (by omega)) 3 (by decide) c (by omega) (by omega)
 have S:bits .and .i64 (c:Int) 15=(c:Int) % 16:=bits_mask .i64 62 (by decide) (fun n _ _=>IntWalk.i64_in _ (by omega)) 4 (by decide) c (by omega) (by omega)
 have T:bits .and .i64 (c:Int) 31=(c:Int) % 32:=bits_mask .i64 62 (by decide) (fun n _ _=>IntWalk.i64_in _ (by omega)) 5 (by decide) c (by omega) (by omega)
 have U:IntKind.i64.wrap (c:Int)=(c:Int):=IntWalk.i64_in _ (by omega)
 clear hg hv E o C G
 go_enter Tryz.func207,Tryz.ntmps207
 go_upto_block 0 with(fail)
 go_cut [7,8] (fun nv bv wx=>nv=.int .i64 n∧bv=.int .i64 b∧Hid (wx=w))
 case first=>
  by_cases u:240≤c
  ·have q1:(240:Int)≤(c:Int):=by omega
   have d:Hid (n=4):=zdG (by rw[←M.out];unfold xJ;rw[if_pos u])
   have g:Hid ((b:Int)=(c:Int) % 8):=zdG (by rw[←N.out];unfold xJ;rw[if_pos u];omega)
   go_wp2_with fail
   go_meet
   exact⟨by rw[d.out];rfl,by rw[g.out],zdG rfl⟩
  have q1:¬(240:Int)≤(c:Int):=by omega
  by_cases B:224≤c
  ·have q2:(224:Int)≤(c:Int):=by omega
   have d:Hid (n=3):=zdG (by rw[←M.out];unfold xJ;rw[if_neg u,if_pos B])
   have g:Hid ((b:Int)=(c:Int) % 16):=zdG (by rw[←N.out];unfold xJ;rw[if_neg u,if_pos B];omega)
   go_wp2_with fail
   go_meet
   exact⟨by rw[d.out];rfl,by rw[g.out],zdG rfl⟩
  have q2:¬(224:Int)≤(c:Int):=by omega
  by_cases O:192≤c
  ·have q3:(192:Int)≤(c:Int):=by omega
   have d:Hid (n=2):=zdG (by rw[←M.out];unfold xJ;rw[if_neg u,if_neg B,if_pos O])
   have g:Hid ((b:Int)=(c:Int) % 32):=zdG (by rw[←N.out];unfold xJ;rw[if_neg u,if_neg B,if_pos O];omega)
   go_wp2_with fail
   go_meet
   exact⟨by rw[d.out];rfl,by rw[g.out],zdG rfl⟩
  have q3:¬(192:Int)≤(c:Int):=by omega
  have d:Hid (n=1):=zdG (by rw[←M.out];unfold xJ;rw[if_neg u,if_neg B,if_neg O])
  have g:Hid ((b:Int)=(c:Int)):=zdG (by rw[←N.out];unfold xJ;rw[if_neg u,if_neg B,if_neg O])
  go_wp2_with fail
  go_meet
  exact⟨by rw[d.out];rfl,by rw[g.out],zdG rfl⟩
 case rest=>
  obtain⟨rfl,rfl,HW⟩:=hcut
  obtain⟨wa,rfl⟩:∃wa:World,wa=wc:=⟨_,rfl⟩
  have V:=HW.out
  subst V
  clear w7 S T U
  by_cases p1:s.size - k < n
  ·have e:zbJ s k=(-1,(k:Int)):=by
    unfold zbJ
    rw[J.out,if_pos p1]
   have hv:=K.out
   rw[e] at hv
   injection hv with D I
   subst D I
   have X:(s.size:Int) - k < n:=by omega
   clear e
   go_wp2_with fail
   go_ret2
   exact⟨rfl,Below.refl _ _⟩
  ·have X:¬(s.size:Int) - k < n:=by omega
   have y:Hid (VU (s.data.toList.drop k)=if XQ (vO b ((s.data.toList.drop (k+1)).take (n - 1)))=(s.data.toList.drop k).take n then some (vO b ((s.data.toList.drop (k+1)).take (n - 1)),n) else none):=zdG (by rw[J.out,if_neg p1])
   go_wp2_with fail
   go_loop [8,9] (fun r i=>∃j f:Nat,1≤j∧j≤n∧i=.int .i64 j∧r=.int .i64 f∧f < 67108864∧Hid (f=vO b ((s.data.toList.drop (k+1)).take (j - 1)))) (fun _ i=>n - (intOf i).toNat)
   case atStart=>
    have Y:=L.out 1 (by omega)
    exact⟨1,b,Nat.le_refl _,by omega,rfl,rfl,Y,zdG rfl⟩
   case round=>
    obtain⟨j,f,ag,ah,rfl,rfl,hf,P⟩:=hrel
    by_cases af:j < n
    ·have ac:k+j < s.size:=by omega
     have ad:=s[k+j].toNat_lt
     have e1:=X4 (s[k+j].toNat:Int) (by omega) (by omega)
     have e2:IntKind.i64.wrap (s[k+j].toNat:Int)=(s[k+j].toNat:Int):=IntWalk.i64_in _ (by omega)
     have e3:IntKind.i64.wrap ((f:Int) * 64)=(f:Int) * 64:=IntWalk.i64_in _ (by omega)
     have e4:bits .or .i64 ((f:Int) * 64) ((s[k+j].toNat:Int) % 64)=(f:Int) * 64+(s[k+j].toNat:Int) % 64:=bits_join .i64 62 (by decide) (fun n h0 D=>IntWalk.i64_in _ (by omega)) 6 _ _ (by omega) (by omega) (by omega) (by omega) (by omega) (by omega)
     have e5:IntKind.i64.wrap ((k:Int)+j)=(k:Int)+j:=IntWalk.i64_in _ (by omega)
     have z:f * 64+s[k+j].toNat % 64=vO b ((s.data.toList.drop (k+1)).take (j+1 - 1)):=by
      obtain⟨H,rfl⟩:∃H,j=H+1:=⟨j - 1,by omega⟩
      rw[Nat.add_sub_cancel,Qv s (k+1) H (by omega),Uj,P.out,Nat.add_sub_cancel]
      simp only[show k+1+H=k+(H+1) by omega]
     have F:=L.out (j+1) (by omega)
     rw[←z] at F
     have Z:=zdG z
     clear z
     go_wp2_with fail
     refine⟨⟨j+1,f * 64+s[k+j].toNat % 64,by omega,by omega,by go_num,by go_num,F,Z⟩,by simp[intOf];omega⟩
    ·have a0:j=n:=by omega
     subst a0
     obtain⟨p,Q⟩:∃p,XQ f=p:=⟨_,rfl⟩
     obtain⟨t,R⟩:∃t,(s.data.toList.drop k).take j=t:=⟨_,rfl⟩
     have q:=fun W=>rput_any (f:Int) (by omega) (by omega) p (by simpa using Q) W
     have hcut:s.extract k (k+j)=⟨t.toArray⟩:=by rw[cut_at,R]
     have e5:IntKind.i64.wrap ((k:Int)+j)=(k:Int)+j:=IntWalk.i64_in _ (by omega)
     have l:=y.out
     rw[←P.out,Q,R] at l
     have a:=K.out
     unfold zbJ at a
     rw[l] at a
     by_cases m:p=t
     ·rw[if_pos m] at a
      subst m
      simp only[Prod.mk.injEq] at a
      obtain⟨D,I⟩:=a
      subst D I
      clear Q R l J y K L P
      go_wp2_with fail
      go_region_with (first
       |(go_at_call 256;refine(q _).mono ?_;rintro e w4 ⟨rfl,h⟩;have A:=zdG (bdrop h);clear h)
       |fail)
      all_goals
       go_wp2_with fail
       go_ret2
       exact⟨rfl,A.out⟩
     ·rw[if_neg m] at a
      simp only[Prod.mk.injEq] at a
      obtain⟨D,I⟩:=a
      subst D I
      have ae:(p==t)=false:=by simpa using m
      clear Q R l J y K L P
      go_wp2_with fail
      go_region_with (first
       |(go_at_call 256;refine(q _).mono ?_;rintro e w4 ⟨rfl,h⟩;have A:=zdG (bdrop h);clear h)
       |fail)
      all_goals
       go_wp2_with fail
       go_ret2
       exact⟨rfl,A.out⟩
theorem zbG (s:ByteArray)(hs:s.size≤4294967296)(w:World) :
  Calls Tryz.prog 176 #[.string s] w fun e w'=>e=.returned (.bool (xY s.size s.data.toList))∧Below w.heap.size w w':=by
 obtain⟨b,l⟩:∃b,xY s.size s.data.toList=b:=⟨_,rfl⟩
 rw[l]
 have p:Ya s 0=b:=by
  unfold Ya
  rw[List.drop_zero,V4]
  exact l
 have h:=zdG p
 clear l p
 go_enter Tryz.func176,Tryz.ntmps176
 go_wp2_with fail
 go_loopw [3] (fun i wr=>∃k:Nat,k≤s.size∧i=.int .i64 k∧Hid (Below w.heap.size w wr)∧Hid (Ya s k=b)) (fun i _=>s.size - (intOf i).toNat)
 case atStart=>exact⟨0,Nat.zero_le _,rfl,zdG (Below.refl _ _),h⟩
 case round=>
  obtain⟨k,u,rfl,m,o⟩:=hrel
  by_cases f:k < s.size
  ·rcases Xy s k f with⟨hg,hf⟩|⟨v,n,hg,hn1,hn2,hf⟩
   ·have a:=zaM s k f hs _ _ hg wr
    have g:=zdG (o.out.symm.trans hf)
    clear hg hf
    go_wp2_with (first
     |(go_at_call 207;refine a.mono ?_;rintro e t ⟨rfl,c⟩;have d:=zdG c;clear c)
     |fail)
    go_ret
    exact⟨zH g.out.symm,V8 m.out d.out⟩
   ·have a:=zaM s k f hs _ _ hg wr
    have g:=zdG (hf.symm.trans o.out)
    have r:¬(v:Int) < 0:=by omega
    clear hg hf
    go_wp2_with (first
     |(go_at_call 207;refine a.mono ?_;rintro e t ⟨rfl,c⟩;have d:=zdG c;clear c)
     |fail)
    have q:=zdG (V8 m.out d.out)
    refine⟨?_,by simp[intOf];omega⟩
    first|exact⟨k+n,hn2,by go_num,q,g⟩|((repeat apply Exists.intro);exact⟨⟨k+n,hn2,by go_num,q,g⟩,rfl⟩)
  ·have j:k=s.size:=by omega
   subst j
   have g:Hid (b=true):=zdG (by
    rw[←o.out]
    unfold Ya
    rw[List.drop_of_length_le (by rw[V4];exact Nat.le_refl _)]
    rfl)
   go_wp2_with fail
   go_ret
   exact⟨zH g.out.symm,m.out⟩
theorem Uu (s:ByteArray)(hs:s.size≤140737488351232)(w:World) :
  Calls Tryz.prog 105 #[.string s] w fun e w'=>e=.returned (.bool (zo s.data.toList))∧Below w.heap.size w w':=by
 obtain⟨b,G⟩:∃b,zo s.data.toList=b:=⟨_,rfl⟩
 rw[G]
 have f:=zdG G
 clear G
 by_cases q:s.size=0
 ·have r:s=⟨#[]⟩:=by
   apply X3
   exact List.eq_nil_of_length_eq_zero (by rw[V4];exact q)
  subst r
  have m:b=false:=by
   rw[←f.out]
   rfl
  subst m
  clear f q
  go_enter Tryz.func105,Tryz.ntmps105
  go_wp2_with fail
  go_ret
  exact⟨rfl,Below.refl _ _⟩
 have J:(s.toList==[])=false:=UD s [] (fun e=>q (by rw[e];rfl))
 by_cases B:64 < s.size
 ·have m:b=false:=by
   rw[←f.out]
   unfold zo
   rw[decide_eq_false (show ¬s.data.toList.length≤64 by rw[V4];omega),Bool.false_and,Bool.and_false]
  subst m
  have t:(64:Int) < s.size:=by omega
  go_enter Tryz.func105,Tryz.ntmps105
  go_wp2_with fail
  go_ret
  exact⟨rfl,Below.refl _ _⟩
 have t:¬(64:Int) < s.size:=by omega
 have g:=zbG s (by omega) w
 have p:Hid (∀v,xY s.size s.data.toList=v→b=(v && s.data.toList.all fun c=>!XF c.toNat)):=zdG (fun v hv=>by
  rw[←f.out]
  unfold zo
  rw[V4,hv,decide_eq_true (show s.size≤64 by omega),decide_eq_false (show ¬s.data.toList=[] from fun e=>q (by rw[←V4 s,e];rfl))]
  rfl)
 generalize xY s.size s.data.toList=v at g p
 cases v with
 |false=>
  have m:b=false:=by rw[p.out false rfl];simp
  subst m
  clear p
  go_enter Tryz.func105,Tryz.ntmps105
  go_wp2_with (first
   |(go_at_call 176;refine g.mono ?_;rintro e L ⟨rfl,j⟩;have a:=zdG j;clear j)
   |fail)
  go_ret
  exact⟨rfl,a.out⟩
 |true=>
  go_enter Tryz.func105,Tryz.ntmps105
  go_wp2_with (first
   |(go_at_call 176;refine g.mono ?_;rintro e L ⟨rfl,j⟩;have a:=zdG j;clear j)
   |fail)
  go_loop [3] (fun i=>∃k:Nat,k≤s.size∧i=.int .i64 k∧Hid (((s.data.toList.take k).all fun c=>!XF c.toNat)=true)) (fun i=>s.size - (intOf i).toNat)
  case atStart=>exact⟨0,Nat.zero_le _,rfl,zdG rfl⟩
  case round=>
   obtain⟨k,N,rfl,H⟩:=hrel
   by_cases n:k < s.size
   ·obtain⟨c,I⟩:∃c:Int,c=(s[k].toNat:Int):=⟨_,rfl⟩
    have o:=zdG I
    have m:∀(hbad:XF s[k].toNat=true),b=false:=fun hbad=>f.out.symm.trans (zaX s k n hbad)
    have d:=zdG m
    clear I m
    by_cases M:(s[k].toNat:Int) < 32
    ·have l:=zdG (d.out (by unfold XF;rw[decide_eq_true (by omega)];rfl))
     clear d o
     go_wp2_with fail
     go_ret
     exact⟨zH l.out.symm,a.out⟩
    by_cases C:s[k].toNat=127
    ·have l:=zdG (d.out (by unfold XF;rw[C];rfl))
     have u:(s[k].toNat:Int)=127:=by omega
     clear d o
     go_wp2_with fail
     go_ret
     exact⟨zH l.out.symm,a.out⟩
    by_cases D:s[k].toNat=47
    ·have l:=zdG (d.out (by unfold XF;rw[D];rfl))
     have x:(s[k].toNat:Int)=47:=by omega
     clear d o
     go_wp2_with fail
     go_ret
     exact⟨zH l.out.symm,a.out⟩
    by_cases E:s[k].toNat=42
    ·have l:=zdG (d.out (by unfold XF;rw[E];rfl))
     have y:(s[k].toNat:Int)=42:=by omega
     clear d o
     go_wp2_with fail
     go_ret
     exact⟨zH l.out.symm,a.out⟩
    by_cases F:s[k].toNat=37
    ·have l:=zdG (d.out (by unfold XF;rw[F];rfl))
     have z:(s[k].toNat:Int)=37:=by omega
     clear d o
     go_wp2_with fail
     go_ret
     exact⟨zH l.out.symm,a.out⟩
    ·have h:XF s[k].toNat=false:=by
      unfold XF
      rw[decide_eq_false (by omega),decide_eq_false C,decide_eq_false D,decide_eq_false E,decide_eq_false F]
      rfl
     have K:=zdG (Ul s k n H.out h)
     have u:((s[k].toNat:Int)==127)=false:=by simpa using (show ¬(s[k].toNat:Int)=127 by omega)
     have x:((s[k].toNat:Int)==47)=false:=by simpa using (show ¬(s[k].toNat:Int)=47 by omega)
     have y:((s[k].toNat:Int)==42)=false:=by simpa using (show ¬(s[k].toNat:Int)=42 by omega)
     have z:((s[k].toNat:Int)==37)=false:=by simpa using (show ¬(s[k].toNat:Int)=37 by omega)
     clear d o h C D E F
     go_wp2_with fail
     exact⟨⟨k+1,n,by go_num,K⟩,by simp[intOf];omega⟩
   ·have A:k=s.size:=by omega
    subst A
    have d:Hid (b=true):=zdG (by
     rw[p.out true rfl]
     have B:=H.out
     rw[Xa s _ (Nat.le_refl _)] at B
     rw[B]
     rfl)
    go_wp2_with fail
    go_ret
    exact⟨zH d.out.symm,a.out⟩
end Go.Proofs.YtfhlhdmhgheonaaGreatDoor
namespace Go.Proofs.YtfhlhdmhgheonaaGreatDoor
open Go.Shelf Go.RowKit
attribute [local go_sem ↓] Go.wp_at_zero Go.wp_at_succ
theorem zbj (v:Value)(S:List Nat)(l:List yg)(id top:Int)(w:World)(hr:RdS w S 6 v l.length (zk xQ l))(hn:l.length≤1099511627775) :
  Calls Tryz.prog 112 #[v,.int .i64 id,.int .i64 top] w fun e w'=>e=.returned (.bool (xU l top (l.length+1) id))∧Below w.heap.size w w':=by
 obtain⟨b,G⟩:∃b,xU l top (l.length+1) id=b:=⟨_,rfl⟩
 rw[G]
 obtain⟨A,L,H,_,_⟩:=hr.form
 obtain⟨n,q⟩:∃n,l.length=n:=⟨_,rfl⟩
 rw[q] at H G
 have M:=zdG hr
 have I:=zdG G
 have N:=zdG H
 have J:=zdG q
 rw[H]
 have V:n≤1099511627775:=by omega
 clear hr G H q
 go_enter Tryz.func112,Tryz.ntmps112
 go_wp2_with fail
 go_loopw [1,7] (fun c i wr=>∃(k:Nat) (a:Int),k≤n+1∧i=.int .i64 k∧c=.int .i64 a∧Hid (Below w.heap.size w wr)∧Hid (xU l top (n+1 - k) a=b)) (fun _ i _=>n+1 - (intOf i).toNat)
 case atStart=>exact⟨0,id,Nat.zero_le _,rfl,rfl,zdG (Below.refl _ _),I⟩
 case round=>
  obtain⟨k,a,hk,rfl,rfl,s,P⟩:=hrel
  by_cases a3:k < n+1
  ·have K:(k:Int)≤(n:Int):=by omega
   have W:IntKind.i64.wrap ((k:Int)+1)=(k:Int)+1:=IntWalk.i64_in _ (by omega)
   obtain⟨f,hf⟩:∃f,n+1 - k=f+1:=⟨n - k,by omega⟩
   have d:=P.out
   rw[hf,xU] at d
   by_cases p:a=top
   ·rw[if_pos p] at d
    have X:(a==top)=true:=by simpa using p
    have o:=zdG d
    clear d p
    go_wp2_with fail
    go_ret
    exact⟨zH o.out,s.out⟩
   ·rw[if_neg p] at d
    have X:(a==top)=false:=by simpa using p
    have g:=Zb (.slice A n L) [] l a wr (by rw[←N.out];exact(M.out.below s.out).sub (fun _ _ _ hm=>by cases hm)) (by omega)
    by_cases m:a∈ids l
    ·obtain⟨i,Q,u,_,_,_,R⟩:=Zy m
     rw[R] at d
     simp only at d
     rw[u] at g
     obtain⟨T,z,U,B,_,_,C,_,D⟩:=M.out.at_ (by omega)
     have t:=N.out.symm.trans B
     have Y:A=some ⟨T,z,none⟩:=(Value.slice.inj t).1
     subst Y
     have Z:wr.cell? ⟨T,z+i * 6+2,none⟩=some (.int .i64 l[i].parent):=by
      refine(s.out.cell C).trans ?_
      have u:=D (i * 6+2) (by omega)
      rw[zy zT l i 2 Q (by omega),←Nat.add_assoc] at u
      exact u
     obtain⟨E,F⟩:∃E,l[i].parent=E:=⟨_,rfl⟩
     rw[F] at Z d
     have a0:(i:Int) < (n:Int):=by rw[J.out] at Q;omega
     have a1:¬(i:Int) < 0:=by omega
     have a2:(0:Int)≤(i:Int):=by omega
     have o:Hid (xU l top (n+1 - (k+1)) E=b):=zdG (by rw[show n+1 - (k+1)=f by omega];exact d)
     clear d u R D B t m p F
     go_wp2_with (first
      |(go_at_call 85;refine g.mono ?_;rintro e w4 ⟨rfl,rfl⟩;clear g)
      |fail)
     refine⟨?_,by simp[intOf];omega⟩
     first|exact⟨k+1,E,by omega,by go_num,rfl,s,o⟩|((repeat apply Exists.intro);exact⟨⟨k+1,E,by omega,by go_num,rfl,s,o⟩,rfl⟩)
    ·have h:=xR a l
     have O:zu l a=false:=by
      cases hx:zu l a with
      |false=>rfl
      |true=>exact absurd ((yU l a).1 hx) m
     rw[O] at h
     have x:yx a l < 0:=by simpa using h
     have j:l.find? (fun b=>decide (b.id=a))=none:=by
      rw[List.find?_eq_none]
      intro y hy hd
      exact m (List.mem_map.2 ⟨y,hy,by simpa using hd⟩)
     rw[j] at d
     simp only at d
     generalize yx a l=r at g x
     have o:=zdG d
     clear d h O j m p
     go_wp2_with (first
      |(go_at_call 85;refine g.mono ?_;rintro e w4 ⟨rfl,rfl⟩;clear g)
      |fail)
     go_ret
     exact⟨zH o.out,s.out⟩
  ·have K:¬(k:Int)≤(n:Int):=by omega
   have d:=P.out
   rw[show n+1 - k=0 by omega,xU] at d
   have o:=zdG d
   clear d
   go_wp2_with fail
   go_ret
   exact⟨zH o.out,s.out⟩
def uq (m:List (Int×Int))(box:Int):Int:=match m.find? (fun p=>decide (p.1=box)) with
 |some p=>p.2
 |none=>0
theorem X6:∀(l:List (Int×Int)) (b:Int) (k:Nat) (hk:k < l.length),(∀t (ht:t < l.length),t < k→l[t].1≠b)→l[k].1=b→uq l b=l[k].2
 |[],_,k,hk,_,_=>by simp at hk
 |y :: r,b,0,_,_,h=>by
  have h0:y.1=b:=h
  simp[uq,h0]
 |y :: r,b,k+1,hk,hlt,h=>by
  have h0:¬y.1=b:=hlt 0 (by simp) (by omega)
  have h1:=X6 r b k (by simpa using hk) (fun t ht htk=>by have:=hlt (t+1) (by simp;omega) (by omega);simpa using this) (by simpa using h)
  unfold uq at h1 ⊢
  rw[List.find?_cons_of_neg (by simpa using h0),h1]
  rfl
theorem zbY:∀(l:List (Int×Int)) (b:Int),(∀t (ht:t < l.length),l[t].1≠b)→uq l b=0:=fun l b h=>by
 unfold uq
 rw[List.find?_eq_none.2]
 intro y hy hd
 obtain⟨j,hj,rfl⟩:=List.getElem_of_mem hy
 exact h j hj (by simpa using hd)
theorem U5 (w:World)(a0 a1 a3 a6 a7:Int)(s2:ByteArray)(vk vm:Value)(l:List (Int×Int))(b:Int)(hm:RdS w [] 2 vm l.length (zk zA l))(hn:l.length≤1099511627776) :
  Calls Tryz.prog 84 #[.agg #[.int .i64 a0,.int .i64 a1,.string s2,.int .i64 a3,vk,vm,.int .i64 a6,.int .i64 a7],.int .i64 b] w fun e w'=>e=.returned (.int .i64 (uq l b))∧Below w.heap.size w w':=by
 obtain⟨n,i⟩:∃n,l.length=n:=⟨_,rfl⟩
 rw[i] at hm hn
 obtain⟨A,v,rfl,_,_⟩:=hm.form
 obtain⟨R,C⟩:∃R,uq l b=R:=⟨_,rfl⟩
 have c:∀k (H:k < l.length),(∀t (ht:t < l.length),t < k→l[t].1≠b)→l[k].1=b→l[k].2=R:=fun k H B h2=>by
  rw[←C]
  exact(X6 l b k H B h2).symm
 have o:(∀t (ht:t < l.length),l[t].1≠b)→(0:Int)=R:=fun h=>by
  rw[←C]
  exact(zbY l b h).symm
 have O:=zdG hm
 have p:=zdG i
 have P:=zdG c
 have Q:=zdG o
 rw[C]
 clear hm i c o C
 go_enter Tryz.func84,Tryz.ntmps84
 go_upto_block 0 with(fail)
 obtain⟨j,a⟩:∃j:World,j=w.alloc (.cells #[.int .i64 a0,.int .i64 a1,.string s2,.int .i64 a3,vk,.slice A n v,.int .i64 a6,.int .i64 a7] 54):=⟨_,rfl⟩
 rw[←a]
 have D:=zdG (show Below w.heap.size w j by rw[a];exact below_alloc1 _ _)
 have S:j.cell? ⟨w.heap.size,5,none⟩=some (.slice A n v):=by rw[a];exact(Blk.new _ _ _).cell 5
 clear a
 obtain⟨X,N⟩:∃X,X=w.heap.size:=⟨_,rfl⟩
 rw[←N] at S ⊢
 clear N
 go_wp2_with fail
 go_loop [5] (fun iv=>∃k:Nat,k≤n∧iv=.int .i64 k∧Hid (∀t (ht:t < l.length),t < k→l[t].1≠b)) (fun iv=>n - (intOf iv).toNat)
 case atStart=>exact⟨0,Nat.zero_le _,rfl,zdG (fun _ _ h=>by omega)⟩
 case round=>
  obtain⟨k,H,rfl,I⟩:=hrel
  by_cases F:k < n
  ·have q:(k:Int) < (n:Int):=by omega
   have T:(0:Int)≤(k:Int):=by omega
   have r:k < l.length:=by rw[p.out];exact F
   have U:IntKind.i64.wrap ((k:Int)+1)=(k:Int)+1:=IntWalk.i64_in _ (by omega)
   obtain⟨J,K,c1,x,_,_,L,_,d⟩:=O.out.at_ (by omega)
   have V:=(Value.slice.inj x).1
   subst V
   obtain⟨⟨y,z⟩,M⟩:∃y,l[k]=y:=⟨_,rfl⟩
   have f:∀u,u < 2→j.cell? ⟨J,K+k * 2+u,none⟩=(zA (y,z))[u]?:=fun u hu=>by
    rw[Nat.add_assoc]
    refine(D.out.cell L).trans ((d (k * 2+u) (by omega)).trans ?_)
    rw[zy zJ l k u r hu,M]
   have Y:j.cell? ⟨J,K+k * 2,none⟩=some (.int .i64 y):=f 0 (by omega)
   have Z:j.cell? ⟨J,K+k * 2+1,none⟩=some (.int .i64 z):=f 1 (by omega)
   have g:=zdG M
   clear d x M f
   by_cases m:y=b
   ·have W:(y==b)=true:=by simpa using m
    have E:Hid (z=R):=zdG (by
     have B:=P.out k r I.out (by rw[g.out];exact m)
     rw[g.out] at B
     exact B)
    clear m
    go_wp2_with fail
    go_ret
    exact⟨Z4 E.out,D.out⟩
   ·have W:(y==b)=false:=by simpa using m
    have s:Hid (∀t (ht:t < l.length),t < k+1→l[t].1≠b):=zdG (fun t ht h=>by
     by_cases G:t < k
     ·exact I.out t ht G
     ·obtain rfl:t=k:=by omega
      rw[g.out]
      exact m)
    clear m
    go_wp2_with fail
    refine⟨?_,by simp[intOf];omega⟩
    first|exact⟨k+1,by omega,by go_num,s⟩|((repeat apply Exists.intro);exact⟨⟨k+1,by omega,by go_num,s⟩,rfl⟩)
  ·have q:¬(k:Int) < (n:Int):=by omega
   have E:Hid ((0:Int)=R):=zdG (Q.out (fun t ht=>I.out t ht (by rw[p.out] at ht;omega)))
   go_wp2_with fail
   go_ret
   exact⟨Z4 E.out,D.out⟩
theorem QT (w:World)(a0 a1 a3 a6 a7:Int)(s2:ByteArray)(vk vm:Value)(l:List (Int×Int))(hm:RdS w [] 2 vm l.length (zk zA l))(hn:l.length≤1099511627776) :
  Calls Tryz.prog 133 #[.agg #[.int .i64 a0,.int .i64 a1,.string s2,.int .i64 a3,vk,vm,.int .i64 a6,.int .i64 a7]] w fun e w'=>∃v hh,e=.returned v∧Sl w' 3 1 v hh l.length ((yF l).map encI)∧(∀b,hh=some b→w.heap.size≤b)∧Below w.heap.size w w':=by
 obtain⟨i0,Z,L,M,N⟩:=info_parts Try.infoInt3
 obtain⟨n,m⟩:∃n,l.length=n:=⟨_,rfl⟩
 rw[m] at hm
 obtain⟨A,p,rfl,_,_⟩:=hm.form
 have T:=zdG hm
 have d:=zdG m
 have U:n≤1099511627776:=by omega
 clear hm m
 go_enter Tryz.func133,Tryz.ntmps133
 go_upto_block 0 with(fail)
 obtain⟨j,h⟩:∃j:World,j=w.alloc (.cells #[.int .i64 a0,.int .i64 a1,.string s2,.int .i64 a3,vk,.slice A n p,.int .i64 a6,.int .i64 a7] 54):=⟨_,rfl⟩
 rw[←h]
 have s:=zdG (show Below w.heap.size w j by rw[h];exact below_alloc1 _ _)
 have F:j.cell? ⟨w.heap.size,5,none⟩=some (.slice A n p):=by rw[h];exact(Blk.new _ _ _).cell 5
 clear h
 obtain⟨X,Q⟩:∃X,X=w.heap.size:=⟨_,rfl⟩
 rw[←Q] at F ⊢
 clear Q
 have t:=zdG F
 clear F
 have H:Hid (uV j j l 0 (.slice none 0 0)):=zdG ⟨Below.refl _ _,none,Sl.nil _ _ _,fun b hb=>(by cases hb)⟩
 go_wp2_with fail
 go_loopw [3,4] (fun o i wr=>∃k:Nat,k≤n∧i=.int .i64 k∧Hid (uV j wr l k o)) (fun _ i _=>n - (intOf i).toNat)
 case atStart=>exact⟨0,Nat.zero_le _,rfl,H⟩
 case round=>
  obtain⟨k,hk,rfl,q⟩:=hrel
  have F:wr.cell? ⟨X,5,none⟩=some (.slice A n p):=(q.out.below.cell (World.block_lt_of_cell? _ _ t.out)).trans t.out
  by_cases K:k < n
  ·have u:k < l.length:=by rw[d.out];exact K
   have x:(k:Int) < (n:Int):=by omega
   have V:(0:Int)≤(k:Int):=by omega
   have W:IntKind.i64.wrap ((k:Int)+1)=(k:Int)+1:=IntWalk.i64_in _ (by omega)
   obtain⟨b,O,R,S,_,_,z,_,B⟩:=T.out.at_ (by omega)
   have Y:=(Value.slice.inj S).1
   clear S
   subst Y
   obtain⟨P,r⟩:∃P,l[k].1=P:=⟨_,rfl⟩
   have e0:wr.cell? ⟨b,O+k * 2,none⟩=some (.int .i64 P):=by
    refine((za s.out q.out.below).cell z).trans ?_
    have h1:=B (k * 2+0) (by omega)
    rw[zy zJ l k 0 u (by omega)] at h1
    rw[←r]
    exact h1
   obtain⟨G,a,c⟩:=q.out.out
   obtain⟨A0,c0,rfl,_,_⟩:=a.form
   have f:=zdG a
   have g:=zdG c
   have I:=zdG r
   clear a c r B
   go_wp2_with (first
    |(at_builtin;refine zC rfl _ _ 37 rfl Tryz.underlying37 Z L M N rfl (by decide) f.out rfl 1 1 rfl rfl ?_ ?_ ?_ ?_)
    |fail)
   any_goals (first|(simp[Value.oneCell'];done)|(unfold maxLen;omega)|omega)
   intro v2 h2 w5 C D E
   have y:Hid (uV j w5 l (k+1) v2):=zdG (uV.next (h1:=G) q.out u (Below.refl _ wr) g.out (by rw[I.out];exact C) D E)
   clear C D E
   go_wp2_with fail
   refine⟨?_,by simp[intOf];omega⟩
   first|exact⟨k+1,by omega,by go_num,y⟩|((repeat apply Exists.intro);exact⟨⟨k+1,by omega,by go_num,y⟩,rfl⟩)
  ·have x:¬(k:Int) < (n:Int):=by omega
   have J:k=n:=by omega
   subst J
   obtain⟨G,a,c⟩:=q.out.out
   rw[List.take_of_length_le (by rw[d.out];exact Nat.le_refl _)] at a
   have f:=zdG a
   have g:=zdG c
   clear a c
   go_wp2_with fail
   go_ret
   first|exact⟨_,G,rfl,by rw[d.out];exact f.out,(fun b hb=>Nat.le_trans s.out.size (g.out b hb)),za s.out q.out.below⟩|exact⟨_,rfl,G,by rw[d.out];exact f.out,(fun b hb=>Nat.le_trans s.out.size (g.out b hb)),za s.out q.out.below⟩
theorem vK (w:World)(g:Nat)(q:zl)(x:Acc)(k i h:Int)(hs:zi w g q x) :
  Calls Tryz.prog 109 #[.pointer (some ⟨g,0,none⟩),.int .i64 k,.int .i64 i,.int .i64 h] w fun e w'=>e=.returned (.agg #[.int .i64 x.clock,.int .i64 k,.int .i64 i,.int .i64 h])∧Below w.heap.size w w':=by
 have c:=hs.yo
 have d:=hs.blk.lt
 obtain⟨b,a⟩:∃b,x.clock=b:=⟨_,rfl⟩
 rw[a] at c ⊢
 clear hs a
 go_enter Tryz.func109,Tryz.ntmps109
 go_wp2_with fail
 refine bodyPost_ret (v:=.agg #[.int .i64 b,.int .i64 k,.int .i64 i,.int .i64 h]) ?_ rfl ⟨rfl,?_⟩
 ·simp[results,Tryz.results109,go_sem]
 ·exact below_alloc1 w _
theorem uI (w:World)(g:Nat)(q:zl)(x:Acc)(hs:zi w g q x)(hf:Fit x) :
  Calls Tryz.prog 107 #[.pointer (some ⟨g,0,none⟩)] w fun e w'=>e=.returned (.bool (!x.ends))∧ze w w' g q (if x.ends then x else {x with clock:=x.clock+1}) q:=by
 have l:=hs.yo
 have p:=hs.frozen 9
 have n:w.cell? ⟨g,6,none⟩=some (.int .i64 x.cfg.maxMod):=hs.cells 6
 have h:=hf.clock
 have i:=hf.cfg.mod
 have H:=zdG hs
 cases k:x.ends with
 |true=>
  have a:x.cfg.maxMod≤x.clock:=by simpa[Acc.ends] using k
  simp only[if_true,Bool.not_true]
  obtain⟨d,b⟩:∃d,x.clock=d:=⟨_,rfl⟩
  obtain⟨f,c⟩:∃f,x.cfg.maxMod=f:=⟨_,rfl⟩
  rw[b] at l a
  rw[c] at n a
  have r:decide (f≤d)=true:=decide_eq_true a
  clear hs k h i hf b c a
  go_enter Tryz.func107,Tryz.ntmps107
  go_wp2_with fail
  go_quiet (fail)
  go_wp2_with fail
  go_ret
  exact⟨rfl,ze.of_below H.out (below_drewN' (Below.refl _ _) _)⟩
 |false=>
  have a:¬x.cfg.maxMod≤x.clock:=by simpa[Acc.ends] using k
  simp only[Bool.false_eq_true,if_false,Bool.not_false]
  have m:Hid (∀W,W.heap=w.heap→Below w.heap.size w W→ze w (W.setCell ⟨g,9,none⟩ (.int .i64 (x.clock+1))) g q {x with clock:=x.clock+1} q):=zdG (fun W _ hb=>(ze.of_below H.out hb).trans ((H.out.later hb).yj 9 (.int .i64 (x.clock+1)) {x with clock:=x.clock+1} rfl rfl rfl rfl))
  have s:IntKind.i64.wrap (x.clock+1)=x.clock+1:=IntWalk.i64_in _ (by omega)
  obtain⟨o,j⟩:∃o:Acc,o={x with clock:=x.clock+1}:=⟨_,rfl⟩
  rw[←j] at m ⊢
  obtain⟨d,b⟩:∃d,x.clock=d:=⟨_,rfl⟩
  obtain⟨f,c⟩:∃f,x.cfg.maxMod=f:=⟨_,rfl⟩
  rw[b] at l a s m
  rw[c] at n a
  have r:decide (f≤d)=false:=decide_eq_false a
  clear hs k h i hf b c a j
  go_enter Tryz.func107,Tryz.ntmps107
  go_wp2_with fail
  go_quiet (fail)
  have t:(w.drewN nq).cell? ⟨g,9,none⟩=some (.int .i64 d):=l
  have u:(w.drewN nq).frozen? ⟨g,9,none⟩=false:=p
  go_wp2_with fail
  go_ret
  exact⟨rfl,m.out (w.drewN _) rfl (below_drewN' (Below.refl _ _) _)⟩
def ZB (x:Acc)(name:Text)(parent but:Int):Bool:=x.boxes.any (fun b=>decide (b.id≠but) && (decide (b.parent=parent) && decide (b.name=name)))||(decide (parent=0) && decide (vP name=[105,110,98,111,120]))
theorem Uk (w:World)(g:Nat)(q:zl)(x:Acc)(name:Text)(parent but:Int)(hs:zi w g q x)(hnb:x.boxes.length≤1099511627776)(hnl:name.length≤140737488351232) :
  Calls Tryz.prog 106 #[.pointer (some ⟨g,0,none⟩),.string ⟨name.toArray⟩,.int .i64 parent,.int .i64 but] w fun e w'=>e=.returned (.bool (ZB x name parent but))∧Below w.heap.size w w':=by
 obtain⟨A,c,hv,_,_⟩:=hs.boxes.form
 have G:=hs.zQ
 rw[hv] at G
 obtain⟨n,C⟩:∃n,x.boxes.length=n:=⟨_,rfl⟩
 obtain⟨R,T⟩:∃R,ZB x name parent but=R:=⟨_,rfl⟩
 have p:∀k (hk:k < x.boxes.length),x.boxes[k].id≠but→x.boxes[k].parent=parent→x.boxes[k].name=name→true=R:=fun k hk X h2 h3=>by
  rw[←T]
  unfold ZB
  rw[List.any_eq_true.2 ⟨x.boxes[k],List.getElem_mem hk,by simp[X,h2,h3]⟩]
  rfl
 have s:(∀t (ht:t < x.boxes.length),¬(x.boxes[t].id≠but∧x.boxes[t].parent=parent∧x.boxes[t].name=name))→(decide (parent=0) && decide (vP name=[105,110,98,111,120]))=R:=fun h=>by
  rw[←T]
  unfold ZB
  have X:(x.boxes.any fun b=>decide (b.id≠but) && (decide (b.parent=parent) && decide (b.name=name)))=false:=by
   rw[List.any_eq_false]
   intro y E hd
   obtain⟨j,hj,rfl⟩:=List.getElem_of_mem E
   exact h j hj (by simpa using hd)
  rw[X,Bool.false_or]
 have i:=Y2 ⟨name.toArray⟩ w (by show name.toArray.size≤_;simpa using hnl)
 obtain⟨F,D⟩:∃F,vP name=F:=⟨_,rfl⟩
 have H:VX ⟨name.toArray⟩=⟨F.toArray⟩:=by
  rw[←D]
  simp[VX,vP]
 rw[H] at i
 rw[D] at s
 have HR:Hid (Sl w 89 6 (.slice A x.boxes.length c) q.hb x.boxes.length (zk xQ x.boxes)):=zdG (by rw[←hv];exact hs.boxes)
 have I:=zdG C
 have HY:=zdG p
 have HN:=zdG s
 rw[T]
 rw[C] at hnb G HR
 clear hs C p s T hv H D
 go_enter Tryz.func106,Tryz.ntmps106
 go_wp2_with fail
 go_loop [9] (fun iv=>∃k:Nat,k≤n∧iv=.int .i64 k∧Hid (∀t (ht:t < x.boxes.length),t < k→¬(x.boxes[t].id≠but∧x.boxes[t].parent=parent∧x.boxes[t].name=name))) (fun iv=>n - (intOf iv).toNat)
 case atStart=>exact⟨0,Nat.zero_le _,rfl,zdG (fun _ _ h=>by omega)⟩
 case round=>
  obtain⟨k,hk,rfl,HK⟩:=hrel
  by_cases Y:k < n
  ·have J:(k:Int) < (n:Int):=by omega
   have a0:(0:Int)≤(k:Int):=by omega
   have K:k < x.boxes.length:=by rw[I.out];exact Y
   have a1:IntKind.i64.wrap ((k:Int)+1)=(k:Int)+1:=IntWalk.i64_in _ (by omega)
   obtain⟨U,V,c1,_,O,_,_,_,r⟩:=HR.out.at_ (by omega)
   have L:=(Value.slice.inj O).1
   subst L
   obtain⟨y,E⟩:∃y,x.boxes[k]=y:=⟨_,rfl⟩
   have o:∀u,u < 6→w.cell? ⟨U,V+k * 6+u,none⟩=(xQ y)[u]?:=fun u hu=>by
    rw[Nat.add_assoc,(r (k * 6+u) (by omega)).1,zy zT x.boxes k u K hu,E]
   obtain⟨P,W,Q,v0,x0,m0⟩:=y
   have d0:w.cell? ⟨U,V+k * 6,none⟩=some (.int .i64 P):=o 0 (by omega)
   have d1:w.cell? ⟨U,V+k * 6+1,none⟩=some (.string ⟨W.toArray⟩):=o 1 (by omega)
   have d2:w.cell? ⟨U,V+k * 6+2,none⟩=some (.int .i64 Q):=o 2 (by omega)
   have l:¬(P≠but∧Q=parent∧W=name)→∀t (ht:t < x.boxes.length),t < k+1→¬(x.boxes[t].id≠but∧x.boxes[t].parent=parent∧x.boxes[t].name=name):=fun h t ht h2=>by
    by_cases Z:t < k
    ·exact HK.out t ht Z
    ·obtain rfl:t=k:=by omega
     rw[E]
     exact h
   have v:=zdG l
   have z:=zdG E
   clear r O E o l
   by_cases d:P=but
   ·have L:(P !=but)=false:=by simpa using d
    have a:=zdG (v.out (fun h=>h.1 d))
    clear d
    go_wp2_with fail
    refine⟨?_,by simp[intOf];omega⟩
    first|exact⟨k+1,by omega,by go_num,a⟩|((repeat apply Exists.intro);exact⟨⟨k+1,by omega,by go_num,a⟩,rfl⟩)
   have L:(P !=but)=true:=by simpa using d
   by_cases f:Q=parent
   ·have e2:(Q==parent)=true:=by simpa using f
    by_cases S:W=name
    ·subst S
     have M:Hid (true=R):=zdG (HY.out k K (by rw[z.out];exact d) (by rw[z.out];exact f) (by rw[z.out]))
     clear d f
     go_wp2_with fail
     go_ret
     exact⟨yK M.out,Below.refl _ _⟩
    ·have e3:(W==name)=false:=by simpa using S
     have a:=zdG (v.out (fun h=>S h.2.2))
     clear d f S
     go_wp2_with fail
     refine⟨?_,by simp[intOf];omega⟩
     first|exact⟨k+1,by omega,by go_num,a⟩|((repeat apply Exists.intro);exact⟨⟨k+1,by omega,by go_num,a⟩,rfl⟩)
   ·have e2:(Q==parent)=false:=by simpa using f
    have a:=zdG (v.out (fun h=>f h.2.1))
    clear d f
    go_wp2_with fail
    refine⟨?_,by simp[intOf];omega⟩
    first|exact⟨k+1,by omega,by go_num,a⟩|((repeat apply Exists.intro);exact⟨⟨k+1,by omega,by go_num,a⟩,rfl⟩)
  ·have J:¬(k:Int) < (n:Int):=by omega
   have M:Hid ((decide (parent=0) && decide (F=[105,110,98,111,120]))=R):=zdG (HN.out (fun t ht=>HK.out t ht (by rw[I.out] at ht;omega)))
   by_cases d:parent=0
   ·have L:(parent==0)=true:=by simpa using d
    by_cases f:F=[105,110,98,111,120]
    ·have N:Hid (true=R):=zdG (by rw[←M.out,decide_eq_true d,decide_eq_true f];rfl)
     subst f
     clear d
     go_wp2_with (first
      |(go_at_call 177;refine i.mono ?_;rintro e w4 ⟨rfl,m⟩;have B:=zdG m;clear m i)
      |fail)
     go_ret
     exact⟨yK N.out,B.out⟩
    ·have N:Hid (false=R):=zdG (by rw[←M.out,decide_eq_false f,Bool.and_false])
     have e2:(F==[105,110,98,111,120])=false:=by simpa using f
     clear d f
     go_wp2_with (first
      |(go_at_call 177;refine i.mono ?_;rintro e w4 ⟨rfl,m⟩;have B:=zdG m;clear m i)
      |fail)
     go_ret
     exact⟨yK N.out,B.out⟩
   ·have L:(parent==0)=false:=by simpa using d
    have N:Hid (false=R):=zdG (by rw[←M.out,decide_eq_false d,Bool.false_and])
    clear d
    go_wp2_with fail
    go_ret
    exact⟨yK N.out,Below.refl _ _⟩
theorem ze.newer {w W W2:World}{g:Nat}{q:zl}{x x1:Acc}{S:List Nat}(h:ze w W g q x1 q)(hw:zi w g q x)(hc:Chg S W W2)(hS:∀k∈S,w.heap.size≤k):ze w W2 g q x1 q:=by
 have c:Chg (q.own g) w W2:=h.chg.trans hc fun i hi=>.inr (hS i hi)
 have a:∀k∈q.own g,k∉S:=fun k hk hm=>by
  have d:=hw.lt k hk
  have e:=hS k hm
  omega
 exact⟨⟨h.at_.blk.chg hc (a g zl.ZP),h.at_.log.chg hc (a _ zl.Yg) (fun b hb=>a b (zl.Yp hb)),h.at_.boxes.chg hc (fun b hb=>a b (zl.vW hb)),h.at_.same,h.at_.mails.chg hc (fun b hb=>a b (zl.vR hb)),fun m hm=>(hw.parts m hm).step c fun k hk=>.inl hk⟩,c,fun k hk=>.inl hk⟩
theorem JC (w:World)(g:Nat)(q:zl)(x:Acc)(h:zi w g q x)(hn:x.boxes.length≤1099511627776)(id:Int)(hid:id∈ids x.boxes)(hnx:0≤zw x.boxes id∧zw x.boxes id≤4294967296) :
  Calls Tryz.prog 124 #[.pointer (some ⟨g,0,none⟩),.int .i64 id] w fun e w'=>e=.returned (.int .i64 (zw x.boxes id))∧ze w w' g q {x with boxes:=bump id x.boxes} q:=by
 obtain⟨k,v,z,_,A,B,_⟩:=Zy hid
 obtain⟨b,a,i,t,n,K,L,M,o⟩:=h.Zp k v
 have j:w.cell? ⟨g,10,none⟩=some (.slice (some ⟨b,a,none⟩) x.boxes.length i):=h.zQ.trans (by rw[t])
 obtain⟨p,O⟩:=o 4 (by omega)
 have y:w.cell? ⟨b,a+k * 6+4,none⟩=some (.int .i64 x.boxes[k].next):=p
 clear p
 have d:=Zb (.slice (some ⟨b,a,none⟩) x.boxes.length i) [] x.boxes id w (by rw[←t];exact h.boxes.reads [] (by simp)) hn
 rw[z] at d
 have s:=h.yw t k v 4 (by omega) (.int .i64 (x.boxes[k].next+1)) {x.boxes[k] with next:=x.boxes[k].next+1} rfl
 have l:bump id x.boxes=x.boxes.set k {x.boxes[k] with next:=x.boxes[k].next+1}:=B _
 rw[←l] at s
 have m:b≠g:=fun e=>h.apart.hb (by rw[n,e])
 rw[A] at hnx ⊢
 obtain⟨c,f⟩:∃c,x.boxes[k].next=c:=⟨_,rfl⟩
 rw[f] at y s hnx ⊢
 have C:=zdG s
 have D:IntKind.i64.wrap (c+1)=c+1:=IntWalk.i64_in _ (by omega)
 have E:IntKind.i64.wrap (c+1 - 1)=c:=by
  rw[show c+1 - 1=c by omega]
  exact IntWalk.i64_in _ (by omega)
 have F:IntKind.i64.wrap c=c:=IntWalk.i64_in _ (by omega)
 have G:(0:Int)≤(k:Int):=by omega
 obtain⟨u,r⟩:∃u,x.boxes.length=u:=⟨_,rfl⟩
 rw[r] at j d v
 have H:(k:Int) < (u:Int):=by omega
 have I:¬g=b:=fun e=>m e.symm
 have N:(w.setCell ⟨b,a+k * 6+4,none⟩ (.int .i64 (c+1))).cell? ⟨b,a+k * 6+4,none⟩=some (.int .i64 (c+1)):=World.cell?_setCell_same' w _ _ (by rw[y];rfl)
 have J:(w.setCell ⟨b,a+k * 6+4,none⟩ (.int .i64 (c+1))).cell? ⟨g,10,none⟩=some (.slice (some ⟨b,a,none⟩) u i):=(World.cell?_setCell_far w _ _ _ m).trans j
 clear h t n o z A B f l s hnx r
 go_enter Tryz.func124,Tryz.ntmps124
 go_wp2_with (first
  |(go_at_call 85;refine d.mono ?_;rintro e P ⟨rfl,rfl⟩;clear d)
  |fail)
 go_ret
 exact⟨rfl,C.out⟩
structure Jf (w wr:World)(g:Nat)(q:zl)(x:Acc)(l:List Int)(k:Nat)(o:Value)(h:Option Nat):Prop where
 out:Sl wr 177 4 o h k (zM (zn x.clock (l.take k)))
 new:∀b,h=some b→w.heap.size≤b
 st:ze w wr g q {x with boxes:=zf x.clock (l.take k) x.boxes} q
theorem Xc (w:World)(g:Nat)(q:zl)(x:Acc)(h:zi w g q x)(hn:x.boxes.length≤1099511627776)(l:List Int)(v:Value)(hr:RdS w (q.own g) 1 v l.length (l.map encI))(hin:l.length≤1099511627776)(hall:∀i∈l,i∈ids x.boxes) :
  Calls Tryz.prog 125 #[.pointer (some ⟨g,0,none⟩),v] w fun e w'=>∃v' hh,e=.returned v'∧Sl w' 177 4 v' hh l.length (zM (zn x.clock l))∧(∀b,hh=some b→w.heap.size≤b)∧ze w w' g q {x with boxes:=zf x.clock l x.boxes} q:=by
 obtain⟨i0,hi,ag,ah,ai⟩:=info_parts Try.infoEntry
 obtain⟨n,O⟩:∃n,l.length=n:=⟨_,rfl⟩
 obtain⟨A,au,hv,_,_⟩:=hr.form
 subst hv
 have HW:=zdG h
 have U:=zdG hall
 have HR:=zdG hr
 have V:=zdG O
 have aa:Hid (Jf w w g q x l 0 (.slice none 0 0) none):=zdG ⟨Sl.nil _ _ _,(fun b hb=>by cases hb),by
  have u:=ze.refl h
  exact u⟩
 rw[O] at hin ⊢
 clear hr hall h O
 go_enter Tryz.func125,Tryz.ntmps125
 go_wp2_with fail
 go_loopw [5,6] (fun o i wr=>∃(k:Nat) (h:Option Nat),k≤n∧i=.int .i64 k∧Hid (Jf w wr g q x l k o h)) (fun _ i _=>n - (intOf i).toNat)
 case atStart=>exact⟨0,none,Nat.zero_le _,rfl,aa⟩
 case round=>
  obtain⟨k,h,hk,rfl,y⟩:=hrel
  by_cases af:k < n
  ·have z:k < l.length:=by rw[V.out];exact af
   have X:(k:Int) < (n:Int):=by omega
   have al:(0:Int)≤(k:Int):=by omega
   have am:IntKind.i64.wrap ((k:Int)+1)=(k:Int)+1:=IntWalk.i64_in _ (by omega)
   obtain⟨C,hid⟩:∃C,l[k]=C:=⟨_,rfl⟩
   have a:=y.out.st.at_
   have c:=yc x.clock (l.take k) x.boxes
   have G:C∈ids (zf x.clock (l.take k) x.boxes):=by
    rw[uM,←hid]
    exact U.out _ (List.getElem_mem z)
   obtain⟨j,hj,e1,_,_,e4,_⟩:=Zy G
   obtain⟨r,D,P,E,F,_,_,av,I⟩:=a.Zp j hj
   obtain⟨c5,f5⟩:=I 5 (by omega)
   have Y:wr.cell? ⟨g,10,none⟩=some (.slice (some ⟨r,D,none⟩) x.boxes.length P):=by
    rw[a.zQ,E]
    simp only[c]
   have k9:wr.cell? ⟨g,9,none⟩=some (.int .i64 x.clock):=a.yo
   have hq:∀W,W.heap=wr.heap→Calls Tryz.prog 85 #[.slice (some ⟨r,D,none⟩) x.boxes.length P,.int .i64 C] W fun e w'=>e=.returned (.int .i64 (j:Int))∧W=w':=fun W he=>by
    have u:=(a.boxes.heap he).reads [] (by simp)
    rw[E] at u
    have L:=Zb _ [] (zf x.clock (l.take k) x.boxes) C W u (by simp only[c];exact hn)
    simp only[c] at L
    rw[e1] at L
    exact L
   obtain⟨b3,o3,aw,a6,_,_,ax,J,K⟩:=(HR.out.chg y.out.st.chg).at_ (by omega)
   have e3:=(Value.slice.inj a6).1
   subst e3
   have cs:wr.cell? ⟨b3,o3+k,none⟩=some (.int .i64 C):=by
    refine(K k (by omega)).trans ?_
    rw[List.getElem?_map,List.getElem?_eq_getElem z,hid]
    rfl
   have an:r≠g:=fun e=>a.apart.hb (by rw[F,e])
   have ab:r≠b3:=fun e=>J (e ▸ zl.vW F)
   have H:ze w (wr.drew.setCell ⟨r,D+j * 6+5,none⟩ (.int .i64 x.clock)) g q {x with boxes:=zf x.clock (l.take (k+1)) x.boxes} q:=by
    have ht:=(a.later (zb wr)).yw E j hj 5 (by omega) (.int .i64 x.clock) {(zf x.clock (l.take k) x.boxes)[j] with mod:=x.clock} rfl
    have L:=(y.out.st.trans (ze.of_below a (zb wr))).trans ht
    have Z:(zf x.clock (l.take k) x.boxes).set j {(zf x.clock (l.take k) x.boxes)[j] with mod:=x.clock}=zf x.clock (l.take (k+1)) x.boxes:=by
     rw[List.take_succ_eq_append_getElem z,YG,hid]
     exact(e4 (fun b=>{b with mod:=x.clock})).symm
    rw[←Z]
    exact L
   obtain⟨A0,t,Q,_,_⟩:=y.out.out.form
   subst Q
   have a0:Sl (wr.drew.setCell ⟨r,D+j * 6+5,none⟩ (.int .i64 x.clock)) 177 4 (.slice A0 k t) h k (zM (zn x.clock (l.take k))):=by
    refine(y.out.out.heap (w':=wr.drew) rfl).far (p:=⟨r,D+j * 6+5,none⟩) (fun e=>?_) _
    have h5:=y.out.new r e
    have h6:=HW.out.lt r (zl.vW F)
    omega
   have a1:(wr.drew.setCell ⟨r,D+j * 6+5,none⟩ (.int .i64 x.clock)).cell? ⟨b3,o3+k,none⟩=some (.int .i64 C):=(World.cell?_setCell_far wr.drew _ _ _ ab).trans cs
   obtain⟨nb,R⟩:∃nb,x.boxes.length=nb:=⟨_,rfl⟩
   rw[c,R] at hj
   rw[R] at Y hq
   have ao:(0:Int)≤(j:Int):=by omega
   have ap:(j:Int) < (nb:Int):=by omega
   obtain⟨u5,aj⟩:∃u5,wr.cell? ⟨r,D+j * 6+5,none⟩=some u5:=⟨_,c5⟩
   obtain⟨ck,S⟩:∃ck,x.clock=ck:=⟨_,rfl⟩
   have d:=zdG H
   have B:=zdG a0
   have s:=zdG a1
   have HQ:=zdG hq
   have ac:=zdG hid
   have M:=zdG S
   rw[S] at k9 d B s
   clear H a0 a1 hq hid G a e1 e4 E I c5 K a6 R c S J F
   go_upto_region 5 with(fail)
   go_cut [] (fun wx=>Hid (wx=wr.drew.setCell ⟨r,D+j * 6+5,none⟩ (.int .i64 ck)))
   case first=>
    go_region_held3 (fun W=>W.cell? ⟨g,10,none⟩=some (.slice (some ⟨r,D,none⟩) nb P)∧W.cell? ⟨g,9,none⟩=some (.int .i64 ck)∧W.cell? ⟨b3,o3+k,none⟩=some (.int .i64 C)) (go_keep) (first
     |(go_at_call 85;refine(HQ.out _ (by rfl)).mono ?_;rintro e w4 ⟨rfl,rfl⟩)
     |fail)
    all_goals
     go_wp2_with fail
     go_meet
     exact zdG rfl
   case rest=>
    obtain⟨we,rfl⟩:∃we:World,we=wc:=⟨_,rfl⟩
    have a2:=hcut.out
    rw[←a2] at d B s
    have m:=vK we g q _ 1 C 2 d.out.at_
    simp only at m
    try rw[M.out] at m
    have aq:=s.out
    clear a2 hcut Y k9 cs aj f5
    go_wp2_with (first
     |(go_at_call 109;refine m.mono ?_;rintro e w6 ⟨rfl,T⟩;have ad:=zdG (B.out.keep (fun b hb=>T.block b (B.out.lt b hb)));have a3:=zdG T;clear m T)
     |(at_builtin;refine zC rfl _ _ 102 rfl Tryz.underlying102 hi ag ah ai rfl (by decide) ad.out rfl 1 1 rfl rfl ?_ ?_ ?_ ?_)
     |fail)
    ·simp[Value.oneCell']
    ·unfold maxLen
     omega
    ·omega
    ·intro v2 L w7 a7 a8 a9
     have HN:Hid (Jf w w7 g q x l (k+1) v2 L):=zdG (by
      have ar:=d.out.chg.size
      have ak:=a3.out.size
      have f:=d.out
      rw[←M.out] at f
      refine⟨?_,fun b hb=>?_,((f.trans (ze.of_below f.at_ a3.out)).newer HW.out a8 (fun k hk=>y.out.new k (by simpa using hk)))⟩
      ·rw[List.take_succ_eq_append_getElem z,Xe,zP,ac.out,M.out]
       exact a7
      ·rcases a9 with Z|⟨g2,Z,h4⟩
       ·exact y.out.new b (by rw[←Z];exact hb)
       ·rw[Z] at hb
        injection hb with hb
        omega)
     clear a7 a8 a9
     go_wp2_with fail
     refine⟨?_,by simp[intOf];omega⟩
     first|exact⟨k+1,_,by omega,by go_num,HN⟩|((repeat apply Exists.intro);exact⟨⟨k+1,_,by omega,by go_num,HN⟩,rfl⟩)
  ·have X:¬(k:Int) < (n:Int):=by omega
   have ae:k=n:=by omega
   subst ae
   have hu:=y.out
   obtain⟨A0,t,Q,_,_⟩:=hu.out.form
   subst Q
   have N:l.take k=l:=List.take_of_length_le (by rw[V.out];exact Nat.le_refl _)
   have HS:Hid (Sl wr 177 4 (.slice A0 k t) h k (zM (zn x.clock l))):=zdG (by
    have u:=hu.out
    rw[N] at u
    exact u)
   have a4:Hid (ze w wr g q {x with boxes:=zf x.clock l x.boxes} q):=zdG (by
    have u:=hu.st
    rw[N] at u
    exact u)
   have a5:=zdG hu.new
   clear hu N y
   go_wp2_with fail
   go_ret
   first|exact⟨_,h,rfl,HS.out,a5.out,a4.out⟩|exact⟨_,rfl,h,HS.out,a5.out,a4.out⟩
end Go.Proofs.YtfhlhdmhgheonaaGreatDoor
