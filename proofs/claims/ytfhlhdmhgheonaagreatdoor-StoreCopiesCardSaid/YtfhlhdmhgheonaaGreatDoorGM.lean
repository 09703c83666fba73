/-
  The walks of an email's copy, and of the store's Mails. The library's Delete of one element out of a slice of the account's mailboxes, of its emails.
-/
import Derived.Test.YtfhlhdmhgheonaaGreatDoorGE
import Derived.Test.YtfhlhdmhgheonaaGreatDoorGD
import Derived.Deep.QuietTactic
import Derived.Deep.RegionLaw
import Derived.Deep.DrawnRows
set_option maxRecDepth 100000
set_option maxHeartbeats 8000000
namespace Go.Proofs.YtfhlhdmhgheonaaGreatDoor
open Go.Shelf Go.RowKit
attribute [local go_sem ↓] Go.wp_at_zero Go.wp_at_succ
theorem Try.infoMail2:(Tryz.prog.info? 54).map (fun i=>(i.zero,i.size,i.bytes))=some (some (.agg #[.int .i64 0,.int .i64 0,.string ⟨#[]⟩,.int .i64 0,.slice none 0 0,.slice none 0 0,.int .i64 0,.int .i64 0]),8,104):=by kernel_rfl
theorem zbp (w:World)(a0 a1 a3 a6 a7:Int)(s2:ByteArray)(vk vm:Value)(nk nm:Nat)(xk xm:List Value)(hk:RdS w [] 1 vk nk xk)(hm:RdS w [] 2 vm nm xm)(hk1:∀u∈xk,u.oneCell'=true)(hm1:∀u∈xm,u.oneCell'=true)(hnk:nk≤1099511627776)(hnm:nm≤1099511627776) :
  Calls Tryz.prog 67 #[.agg #[.int .i64 a0,.int .i64 a1,.string s2,.int .i64 a3,vk,vm,.int .i64 a6,.int .i64 a7]] w fun e w'=>∃vk' hk' vm' hm',e=.returned (.agg #[.int .i64 a0,.int .i64 a1,.string s2,.int .i64 a3,vk',vm',.int .i64 a6,.int .i64 a7])∧Sl w' 9 1 vk' hk' nk xk∧Sl w' 56 2 vm' hm' nm xm∧(∀b,hk'=some b→w.heap.size≤b)∧(∀b,hm'=some b→w.heap.size≤b)∧Below w.heap.size w w':=by
 have I:=fun W (f:Below w.heap.size w W)=>Uc W vk nk xk (hk.keep f.size (fun b h _=>f.block b h) (fun _ _ h=>h)) hk1 (by omega)
 have r:=fun W (f:Below w.heap.size w W)=>XC W vm nm xm (hm.keep f.size (fun b h _=>f.block b h) (fun _ _ h=>h)) hm1 hnm
 have P:=zdG I
 have Q:=zdG r
 clear I r hk hm
 go_enter Tryz.func67,Tryz.ntmps67
 go_wp2
 obtain⟨j,g⟩:∃j:World,j=(w.alloc (.cells #[.int .i64 a0,.int .i64 a1,.string s2,.int .i64 a3,vk,vm,.int .i64 a6,.int .i64 a7] 54)).alloc (.cells #[.int .i64 0,.int .i64 0,.string ⟨#[]⟩,.int .i64 0,.slice none 0 0,.slice none 0 0,.int .i64 0,.int .i64 0] 54):=⟨_,rfl⟩
 rw[←g]
 have i:Blk j w.heap.size 54 #[.int .i64 a0,.int .i64 a1,.string s2,.int .i64 a3,vk,vm,.int .i64 a6,.int .i64 a7]:=by
  rw[g]
  exact(Blk.new w _ _).below (below_alloc1 _ _) (by simp)
 have s:Blk j (w.heap.size+1) 54 #[.int .i64 0,.int .i64 0,.string ⟨#[]⟩,.int .i64 0,.slice none 0 0,.slice none 0 0,.int .i64 0,.int .i64 0]:=by
  rw[g]
  have J:=Blk.new (w.alloc (.cells #[.int .i64 a0,.int .i64 a1,.string s2,.int .i64 a3,vk,vm,.int .i64 a6,.int .i64 a7] 54)) 54 #[.int .i64 0,.int .i64 0,.string ⟨#[]⟩,.int .i64 0,.slice none 0 0,.slice none 0 0,.int .i64 0,.int .i64 0]
  rw[World.size_alloc] at J
  exact J
 have t:Below w.heap.size w j:=by
  rw[g]
  exact za (below_alloc1 _ _) (below_alloc1 _ _)
 have k4:j.cell? ⟨w.heap.size,4,none⟩=some vk:=i.cell 4
 have k5:j.cell? ⟨w.heap.size,5,none⟩=some vm:=i.cell 5
 have x:=zdG i
 have B:=zdG s
 have C:=zdG t
 clear g i s t
 go_region_law (first
  |(refine zF (by rfl) (by rfl) (enters_of Tryz.func151 (by kernel_rfl) rfl) (by first|(simp[Act.eval];done)|simp[Act.eval,Act.put]) (P.out _ (za C.out (zb _))) ?_;rintro e w2 ⟨v2,O,rfl,n,o,z⟩;obtain⟨E,F,rfl,_,_⟩:=n.form;refine⟨_,rfl,?_⟩;have m:=zdG (yV o);have m5:w2.cell? ⟨w.heap.size,5,none⟩=some vm:=(x.out.below (yV o) x.out.lt).cell 5;have R:=zdG n;have K:Hid (∀b,O=some b→j.heap.size≤b):=zdG (fun b f=>z b f);clear n o z)
  |(refine zF (by rfl) (by rfl) (enters_of Tryz.func140 (by kernel_rfl) rfl) (by first|(simp[Act.eval];done)|simp[Act.eval,Act.put]) (Q.out _ (za C.out m.out)) ?_;rintro e c ⟨v3,y,rfl,q,l,A⟩;obtain⟨G,H,rfl,_,_⟩:=q.form;refine⟨_,rfl,?_⟩;have L:=zdG l;have d:=(x.out.below m.out x.out.lt).below l (Nat.lt_of_lt_of_le x.out.lt m.out.size);have a:=(B.out.below m.out B.out.lt).below l (Nat.lt_of_lt_of_le B.out.lt m.out.size);have n0:c.cell? ⟨w.heap.size,0,none⟩=some (.int .i64 a0):=d.cell 0;have n1:c.cell? ⟨w.heap.size,1,none⟩=some (.int .i64 a1):=d.cell 1;have n2:c.cell? ⟨w.heap.size,2,none⟩=some (.string s2):=d.cell 2;have n3:c.cell? ⟨w.heap.size,3,none⟩=some (.int .i64 a3):=d.cell 3;have n4:c.cell? ⟨w.heap.size,4,none⟩=some (vk):=d.cell 4;have S:c.frozen? ⟨w.heap.size,4,none⟩=false:=d.frozen 4;have n5:c.cell? ⟨w.heap.size,5,none⟩=some (vm):=d.cell 5;have T:c.frozen? ⟨w.heap.size,5,none⟩=false:=d.frozen 5;have n6:c.cell? ⟨w.heap.size,6,none⟩=some (.int .i64 a6):=d.cell 6;have n7:c.cell? ⟨w.heap.size,7,none⟩=some (.int .i64 a7):=d.cell 7;have U:c.cell? ⟨w.heap.size+1,0,none⟩=some (.int .i64 0):=a.cell 0;have V:c.frozen? ⟨w.heap.size+1,0,none⟩=false:=a.frozen 0;have X:c.cell? ⟨w.heap.size+1,1,none⟩=some (.int .i64 0):=a.cell 1;have Y:c.frozen? ⟨w.heap.size+1,1,none⟩=false:=a.frozen 1;have Z:c.cell? ⟨w.heap.size+1,2,none⟩=some (.string ⟨#[]⟩):=a.cell 2;have a2:c.frozen? ⟨w.heap.size+1,2,none⟩=false:=a.frozen 2;have r3:c.cell? ⟨w.heap.size+1,3,none⟩=some (.int .i64 0):=a.cell 3;have a4:c.frozen? ⟨w.heap.size+1,3,none⟩=false:=a.frozen 3;have r4:c.cell? ⟨w.heap.size+1,4,none⟩=some (.slice none 0 0):=a.cell 4;have a5:c.frozen? ⟨w.heap.size+1,4,none⟩=false:=a.frozen 4;have r5:c.cell? ⟨w.heap.size+1,5,none⟩=some (.slice none 0 0):=a.cell 5;have a8:c.frozen? ⟨w.heap.size+1,5,none⟩=false:=a.frozen 5;have r6:c.cell? ⟨w.heap.size+1,6,none⟩=some (.int .i64 0):=a.cell 6;have a9:c.frozen? ⟨w.heap.size+1,6,none⟩=false:=a.frozen 6;have r7:c.cell? ⟨w.heap.size+1,7,none⟩=some (.int .i64 0):=a.cell 7;have aa:c.frozen? ⟨w.heap.size+1,7,none⟩=false:=a.frozen 7;have N1:=zdG d;have N2:=zdG a;have S3:=zdG q;have M:Hid (∀b,y=some b→j.heap.size≤b):=zdG (fun b f=>Nat.le_trans (Below.size m.out) (A b f));clear q l A d a)
  |fail)
 all_goals
  go_wp2
  have D:Chg [w.heap.size,w.heap.size+1] c _:=((((((((((Chg.refl [w.heap.size,w.heap.size+1] c).set (p:=⟨w.heap.size,4,none⟩) (.inl (by simp)) (.slice E nk F)).set (p:=⟨w.heap.size,5,none⟩) (.inl (by simp)) (.slice G nm H)).set (p:=⟨w.heap.size+1,0,none⟩) (.inl (by simp)) (.int .i64 a0)).set (p:=⟨w.heap.size+1,1,none⟩) (.inl (by simp)) (.int .i64 a1)).set (p:=⟨w.heap.size+1,2,none⟩) (.inl (by simp)) (.string s2)).set (p:=⟨w.heap.size+1,3,none⟩) (.inl (by simp)) (.int .i64 a3)).set (p:=⟨w.heap.size+1,4,none⟩) (.inl (by simp)) (.slice E nk F)).set (p:=⟨w.heap.size+1,5,none⟩) (.inl (by simp)) (.slice G nm H)).set (p:=⟨w.heap.size+1,6,none⟩) (.inl (by simp)) (.int .i64 a6)).set (p:=⟨w.heap.size+1,7,none⟩) (.inl (by simp)) (.int .i64 a7)
  have hl:=B.out.lt
  have N:=C.out.size
  refine bodyPost_ret (v:=.agg #[.int .i64 a0,.int .i64 a1,.string s2,.int .i64 a3,.slice E nk F,.slice G nm H,.int .i64 a6,.int .i64 a7]) ?_ rfl ⟨_,O,_,y,rfl,(R.out.chg (Chg.of_below L.out []) (by simp)).chg D ?_,S3.out.chg D ?_,fun b f=>Nat.le_trans N (K.out b f),fun b f=>Nat.le_trans N (M.out b f),?_⟩
  ·simp[results,Tryz.results67,go_sem,U,X,Z,r3,r4,r5,r6,r7]
  ·intro b f hm
   have:=K.out b f
   simp at hm
   omega
  ·intro b f hm
   have:=M.out b f
   simp at hm
   omega
  ·have y:=za C.out (za m.out L.out)
   refine y.trans (D.below y.size (fun k hk=>?_))
   simp at hk
   omega
def Z7 (w:World)(B:Nat)(m:zR):Prop:=∃hk hm,Sl w 9 1 m.kv hk m.p.keys.length (m.p.keys.map encStr)∧Sl w 56 2 m.mv hm m.p.members.length (zk zA m.p.members)∧(∀b,hk=some b→B≤b)∧∀b,hm=some b→B≤b
def Z5 (w:World)(S:List Nat)(v:Value)(l:List zX):Prop:=∃ms:List zR,ms.map (·.p)=l∧RdS w S 8 v ms.length (zk xP ms)∧∀m∈ms,yD w S m
structure yR (w wr:World)(ms:List zR)(k:Nat)(o:Value):Prop where
 below:Below w.heap.size w wr
 out:∃mc h,Sl wr 54 8 o h k (zk xP mc)∧mc.map (·.p)=(ms.map (·.p)).take k∧(∀b,h=some b→w.heap.size≤b)∧∀m∈mc,Z7 wr w.heap.size m
theorem Z7.below {w wr w':World}{m:zR}(h:Z7 wr w.heap.size m)(hb:Below wr.heap.size wr w'):Z7 w' w.heap.size m:=by
 obtain⟨a,b,c,d,e,f⟩:=h
 exact⟨a,b,c.keep (fun b hb2=>hb.block b (c.lt b hb2)),d.keep (fun b hb2=>hb.block b (d.lt b hb2)),e,f⟩
theorem yR.next {w wr W W2:World}{ms:List zR}{k:Nat}{o o2:Value}{h1 h2:Option Nat}{mc:List zR}{m:zR}(hR:Below w.heap.size w wr)(hk:k < ms.length)(hmc:mc.map (·.p)=(ms.map (·.p)).take k)(hpp:∀m∈mc,Z7 wr w.heap.size m)(hb:Below wr.heap.size wr W)(hm:m.p=ms[k].p)(hp:Z7 W w.heap.size m)(hs1:Sl W 54 8 o h1 k (zk xP mc))(hf1:∀b,h1=some b→w.heap.size≤b)(hs2:Sl W2 54 8 o2 h2 (k+1) (zk xP mc++xP m))(hc2:Chg h1.toList W W2)(ho2:h2=h1∨∃g,h2=some g∧W.heap.size≤g):yR w W2 ms (k+1) o2:=by
 have c:=za hR hb
 refine⟨c.trans (hc2.below c.size (fun k hk=>hf1 k (by simpa using hk))),mc++[m],h2,?_,?_,fun b hb=>?_,fun y hy=>?_⟩
 ·rw[vJ]
  exact hs2
 ·rw[List.map_append,hmc,List.take_succ_eq_append_getElem (by simpa using hk)]
  simp[hm]
 ·rcases ho2 with h3|⟨e,h3,h4⟩
  ·exact hf1 b (by rw[←h3];exact hb)
  ·rw[h3] at hb
   injection hb with hb
   have:=c.size
   omega
 ·have d:Z7 W w.heap.size y:=by
   rcases List.mem_append.1 hy with h5|h5
   ·exact(hpp y h5).below hb
   ·rw[List.mem_singleton] at h5
    rw[h5]
    exact hp
  obtain⟨a,b,f,e,h,i⟩:=d
  exact⟨a,b,f.chg hc2 (fun b hb hm=>f.XR hs1 (by decide) b hb (by simpa using hm)),e.chg hc2 (fun b hb hm=>e.XR hs1 (by decide) b hb (by simpa using hm)),h,i⟩
theorem yR.done {w wr:World}{ms:List zR}{o:Value}{S:List Nat}{l:List zX}(h:yR w wr ms ms.length o)(hS:∀b∈S,b < w.heap.size)(hl:ms.map (·.p)=l):Z5 wr S o l:=by
 obtain⟨f,s,j,e,k,n⟩:=h.out
 rw[List.take_of_length_le (by simp)] at e
 have d:f.length=ms.length:=by simpa using congrArg List.length e
 have c:∀h:Option Nat,(∀b,h=some b→w.heap.size≤b)→∀b,h=some b→b∉S:=fun h hf b hb hm=>by
  have:=hS b hm
  have:=hf b hb
  omega
 refine⟨f,e.trans hl,?_,fun m hm=>?_⟩
 ·rw[d]
  exact j.reads _ (c _ k)
 ·obtain⟨a,b,g,i,q,r⟩:=n m hm
  exact⟨g.reads _ (c _ q),i.reads _ (c _ r),g.ty,i.ty⟩
def XJ (x:Acc):Prop:=x.mails.length≤1099511627776∧∀m∈x.mails,m.keys.length≤1099511627776∧m.members.length≤1099511627776
theorem Vh (w:World)(g:Nat)(q:zl)(x:Acc)(h:zh w g q x)(hn:XJ x) :
  Calls Tryz.prog 18 #[.pointer (some ⟨g,0,none⟩)] w fun e w'=>∃A c,e=.returned (.slice A x.mails.length c)∧yR w w' q.ms q.ms.length (.slice A x.mails.length c):=by
 obtain⟨i0,hi,ai,aj,ak⟩:=info_parts Try.infoMail2
 have E:=h.Za
 have F:=h.zU
 obtain⟨Am,cm,I,_,_⟩:=h.mails.form
 rw[I] at F
 obtain⟨n,z⟩:∃n,x.mails.length=n:=⟨_,rfl⟩
 rw[z] at F E ⊢
 have a4:=hn.1
 rw[z] at a4
 have a5:Hid (yR w w q.ms 0 (.slice none 0 0)):=zdG ⟨Below.refl _ _,[],none,Sl.nil _ _ _,by simp,fun b hb=>(by cases hb),fun m hm=>(by cases hm)⟩
 have HW:=zdG h
 have HN:=zdG hn
 have a6:=zdG z
 have a7:=zdG I
 clear h hn z I
 go_enter Tryz.func18,Tryz.ntmps18
 go_wp2
 go_loopw [3,13] (fun o i wr=>∃k:Nat,k≤n∧i=.int .i64 k∧Hid (yR w wr q.ms k o)) (fun _ i _=>n - (intOf i).toNat)
 case atStart=>exact⟨0,Nat.zero_le _,rfl,a5⟩
 case round=>
  obtain⟨k,hk,rfl,t⟩:=hrel
  by_cases ah:k < n
  ·have v:k < q.ms.length:=by omega
   obtain⟨b,f,an,hv,_,_,_,Q,R⟩:=HW.out.xu k (by rw[a6.out];exact ah) v
   have a8:=hv.symm.trans a7.out
   injection a8 with hv3 _ hv4
   subst hv3 hv4
   have a:∀j,j < 8→wr.cell? ⟨b,f+k * 8+j,none⟩=(xP q.ms[k])[j]?:=fun j hj=>(t.out.below.cell Q).trans (R j hj).1
   obtain⟨d,J⟩:∃d,q.ms[k]=d:=⟨_,rfl⟩
   have l:=(HW.out.parts q.ms[k] (List.getElem_mem v))
   have y:=HN.out.2 q.ms[k].p (by rw[←HW.out.same];exact List.mem_map_of_mem (List.getElem_mem v))
   rw[J] at a l y
   have e0:wr.cell? ⟨b,f+k * 8,none⟩=some (.int .i64 d.p.id):=a 0 (by omega)
   have e1:wr.cell? ⟨b,f+k * 8+1,none⟩=some (.int .i64 d.p.thread):=a 1 (by omega)
   have e2:wr.cell? ⟨b,f+k * 8+2,none⟩=some (.string ⟨d.p.text.toArray⟩):=a 2 (by omega)
   have e3:wr.cell? ⟨b,f+k * 8+3,none⟩=some (.int .i64 d.p.at_):=a 3 (by omega)
   have e4:wr.cell? ⟨b,f+k * 8+4,none⟩=some d.kv:=a 4 (by omega)
   have e5:wr.cell? ⟨b,f+k * 8+5,none⟩=some d.mv:=a 5 (by omega)
   have e6:wr.cell? ⟨b,f+k * 8+6,none⟩=some (.int .i64 d.p.mod):=a 6 (by omega)
   have e7:wr.cell? ⟨b,f+k * 8+7,none⟩=some (.int .i64 d.p.born):=a 7 (by omega)
   obtain⟨Ak,ck,K,_,_⟩:=l.keys.form
   obtain⟨Av,cv,L,_,_⟩:=l.mem.form
   rw[K] at e4
   rw[L] at e5
   have G:∀W,Below wr.heap.size wr W→_:=fun W (hb:Below wr.heap.size wr W)=>zbp W d.p.id d.p.thread d.p.at_ d.p.mod d.p.born ⟨d.p.text.toArray⟩ d.kv d.mv _ _ _ _ (l.keys.keep (T:=[]) (za t.out.below hb).size (fun b h _=>(za t.out.below hb).block b h) (fun _ _ _ h=>by cases h)) (l.mem.keep (T:=[]) (za t.out.below hb).size (fun b h _=>(za t.out.below hb).block b h) (fun _ _ _ h=>by cases h)) (fun u hu=>by obtain⟨s,_,rfl⟩:=List.mem_map.1 hu;rfl) (ZI Yz _) y.1 y.2
   rw[K,L] at G
   obtain⟨mc,h0,r,B,C,D⟩:=t.out.out
   obtain⟨A0,c0,rfl,_,_⟩:=r.form
   have a9:=zdG G
   have O:=zdG r
   have aa:=zdG B
   have ab:=zdG C
   have ac:=zdG D
   have ad:=zdG J
   clear G r B C D J R a l y K L F
   go_wp2_with (first
    |(go_at_call 67;refine(a9.out _ (below_alloc1 _ _)).mono ?_;rintro e w4 ⟨ao,al,ap,am,rfl,M,N,S,U,V⟩;obtain⟨X,Y,rfl,_,_⟩:=M.form;obtain⟨Z,a0,rfl,_,_⟩:=N.form;have H:=za (below_alloc1 _ _) V;have ae:=zdG H;have HO:=zdG (O.out.keep (fun b hb=>H.block b (O.out.lt b hb)));have af:Hid (Z7 w4 w.heap.size ⟨d.p,.slice X d.p.keys.length Y,.slice Z d.p.members.length a0⟩):=zdG ⟨al,am,M,N,fun b hb=>Nat.le_trans (Nat.le_trans t.out.below.size (by rw[World.size_alloc];omega)) (S b hb),fun b hb=>Nat.le_trans (Nat.le_trans t.out.below.size (by rw[World.size_alloc];omega)) (U b hb)⟩;clear M N S U V H)
    |(at_builtin;refine zC rfl _ _ 43 rfl Tryz.underlying43 hi ai aj ak rfl (by decide) HO.out rfl 1 1 rfl rfl ?_ ?_ ?_ ?_)
    |fail)
   ·simp[Value.oneCell']
   ·unfold maxLen
    omega
   ·omega
   ·intro v2 h2 w5 a1 a2 a3
    have P:Hid (yR w w5 q.ms (k+1) v2):=zdG (yR.next (m:=⟨d.p,.slice X d.p.keys.length Y,.slice Z d.p.members.length a0⟩) t.out.below v aa.out ac.out ae.out (by rw[ad.out]) af.out HO.out ab.out a1 a2 a3)
    clear a1 a2 a3
    go_wp2
    refine⟨?_,by simp[intOf];omega⟩
    first|exact⟨k+1,by omega,by go_num,P⟩|((repeat apply Exists.intro);exact⟨⟨k+1,by omega,by go_num,P⟩,rfl⟩)
  ·have ag:k=n:=by omega
   subst ag
   have hl:q.ms.length=k:=E
   obtain⟨mc,h0,r,B,C,D⟩:=t.out.out
   obtain⟨A0,c0,rfl,_,_⟩:=r.form
   have HF:Hid (yR w wr q.ms q.ms.length (.slice A0 k c0)):=zdG (by rw[hl];exact t.out)
   clear r B C D
   go_wp2
   go_ret
   exact⟨_,_,rfl,HF.out⟩
theorem zbm (w:World)(g:Nat)(q:zl)(x:Acc)(h:zh w g q x)(hn:XJ x)(S:List Nat)(hS:∀b∈S,b < w.heap.size) :
  Calls Tryz.prog 18 #[.pointer (some ⟨g,0,none⟩)] w fun e w'=>∃A c,e=.returned (.slice A x.mails.length c)∧Z5 w' S (.slice A x.mails.length c) x.mails∧Below w.heap.size w w':=by
 refine(Vh w g q x h hn).mono ?_
 rintro e w' ⟨A,c,rfl,a⟩
 exact⟨A,c,rfl,a.done hS h.same,a.below⟩
theorem zcI (w:World)(g:Nat)(q:zl)(x:Acc)(h:zh w g q x)(hn:XJ x) :
  Calls Tryz.prog 18 #[.pointer (some ⟨g,0,none⟩)] w fun e w'=>∃A c,e=.returned (.slice A x.mails.length c)∧Z5 w' (q.own g) (.slice A x.mails.length c) x.mails∧Below w.heap.size w w':=
 zbm w g q x h hn (q.own g) h.lt
theorem Y1 {P:Program}(w:World)(t e ty:TypeId)(z:Value)(zs:List Value)(ht:P.underlying t=some (.slice e))(hv:∀w,(zeroValue e).run P w=.ok z w)(hz:z.cells=zs.toArray)(h1:∀u∈zs,u.oneCell'=true)(b o c:Nat)(hc:∀j,j < zs.length→(w.cell? ⟨b,o+j,none⟩).isSome=true)(hf:∀j,j < zs.length→w.frozen? ⟨b,o+j,none⟩=false) :
  (Builtin.clear_ #[t] ty #[.slice (some ⟨b,o,none⟩) 1 c]).run P w=.ok (.tuple #[]) (w.setCells b o zs):=by
 have d:(Builtin.zeroCells z.cells 1).toList=zs:=by
  rw[hz]
  simp only[Builtin.zeroCells,List.size_toArray,Nat.one_mul]
  apply List.ext_getElem
  ·simp
  ·intro i h1 f
   simp[Nat.mod_eq_of_lt f,f]
 have a:=run_storeCells_cells (P:=P) b o zs 0 w (by simpa using hc) (by simpa using hf) h1
 simp only[Nat.add_zero] at a
 simp[Builtin.clear_,run_underlying ht,hv,d,a]
theorem delM_any (w:World)(v:Value)(h:Option Nat)(n:Nat)(xs:List Value)(hs:Sl w 54 8 v h n xs)(h1:∀u∈xs,u.oneCell'=true)(hn:n≤1099511627776)(i:Nat)(hi:i < n) :
  Calls Tryz.prog 147 #[v,.int .i64 i,.int .i64 ((i:Int)+1)] w fun e w'=>∃v',e=.returned v'∧Sl w' 54 8 v' h (n - 1) (xs.take (i * 8)++xs.drop ((i+1) * 8))∧Chg h.toList w w':=by
 obtain⟨i0,L,a3,M,a4⟩:=info_parts Try.infoMail2
 have F:=hs.1
 rcases hs.2 with⟨_,_,N⟩|⟨b,off,cap,cur,rfl,rfl,hB,hnc,hcm,hcs,htake⟩
 ·omega
 have f:∀j,j < n * 8→w.cell? ⟨b,off+j,none⟩=xs[j]?:=fun j hj=>by
  rw[hB.cell,←htake,List.getElem?_take,if_pos hj,List.getElem?_drop,Array.getElem?_toList]
 obtain⟨a,d⟩:∃a,a=xs.drop ((i+1) * 8):=⟨_,rfl⟩
 have c:a.length=(n - (i+1)) * 8:=by
  rw[d,List.length_drop,F]
  omega
 have T:IntKind.i64.wrap ((i:Int)+1)=(i:Int)+1:=IntWalk.i64_in _ (by omega)
 have q1:(0:Int)≤(i:Int):=by omega
 have q2:(i:Int)≤(i:Int)+1:=by omega
 have q3:(i:Int)+1≤(n:Int):=by omega
 have q6:(0:Int)≤(i:Int)+1:=by omega
 have q4:(n:Int)≤(cap:Int):=by omega
 have q5:((i:Int)==(i:Int)+1)=false:=by simpa using (show ¬(i:Int)=(i:Int)+1 by omega)
 have U:i≤cap:=by omega
 have V:i+1≤cap:=by omega
 clear hs
 obtain⟨A,hA,z⟩:∃A:Addr,(if cap=i+1 then (some (⟨b,off,none⟩:Addr)) else some ⟨b,off+(i+1) * 8,none⟩)=some A∧Hid (∀t u,a[t]?=some u→w.drew.cell? (A.add t)=some u):=by
  by_cases h:cap=i+1
  ·refine⟨⟨b,off,none⟩,by simp[h],zdG (fun t u hu=>?_)⟩
   have N:a.length=0:=by
    rw[c,show n - (i+1)=0 by omega,Nat.zero_mul]
   rw[List.length_eq_zero_iff.1 N] at hu
   simp at hu
  ·refine⟨⟨b,off+(i+1) * 8,none⟩,by simp[h],zdG (fun t u hu=>?_)⟩
   have O:t < (n - (i+1)) * 8:=by
    have:=(List.getElem?_eq_some_iff.1 hu).1
    rwa [c] at this
   rw[d,List.getElem?_drop] at hu
   rw[Addr.add_lit,show off+(i+1) * 8+t=off+((i+1) * 8+t) by omega]
   exact(f ((i+1) * 8+t) (by omega)).trans hu
 have X:=zdG c
 have Y:Hid (∀u∈a,u.oneCell'=true):=zdG (fun u hu=>by
  rw[d] at hu
  exact h1 u (List.mem_of_mem_drop hu))
 have Z:Hid (∀t,t < a.length→(w.drew.cell? ⟨b,off+i * 8+t,none⟩).isSome=true∧w.drew.frozen? ⟨b,off+i * 8+t,none⟩=false):=zdG (fun t O=>by
  rw[c] at O
  refine⟨?_,hB.frozen _⟩
  show (w.cell? _).isSome=true
  rw[Nat.add_assoc,f (i * 8+t) (by omega),List.getElem?_eq_getElem (by omega)]
  rfl)
 obtain⟨g,l⟩:∃g,g=w.drew.setCells b (off+i * 8) a:=⟨_,rfl⟩
 have k:Blk g b 54 (cur.toList.take (off+i * 8)++a++cur.toList.drop (off+i * 8+a.length)).toArray:=by
  rw[l]
  exact yZ b 54 a (off+i * 8) w.drew cur (hB.heap (w':=w.drew) rfl) (by omega)
 obtain⟨B,C,D,E⟩:=yY b a (off+i * 8) w.drew
 rw[←l] at B C D E
 have s:Chg [b] w g:=⟨B,C,D,Nat.le_of_eq E.symm,fun j _ hj=>by
  rw[l]
  exact xD b a _ w.drew j (by simpa using hj)⟩
 have p:(cur.toList.take (off+i * 8)++a++cur.toList.drop (off+i * 8+a.length)).length=cur.size:=by
  simp only[List.length_append,List.length_take,List.length_drop,Array.length_toList]
  omega
 obtain⟨m,o⟩:∃m,m=cur.toList.take (off+i * 8)++a++cur.toList.drop (off+i * 8+a.length):=⟨_,rfl⟩
 rw[←o] at k p
 have G:i+(n - (i+1))=n - 1:=by omega
 have a0:∀ty,(Builtin.clear_ #[43] ty #[.slice (some ⟨b,off+(i+(n - (i+1))) * 8,none⟩) (n - (i+(n - (i+1)))) (cap - (i+(n - (i+1))))]).run Tryz.prog g=.ok (.tuple #[]) (g.setCells b (off+(n - 1) * 8) [.int .i64 0,.int .i64 0,.string ⟨#[]⟩,.int .i64 0,.slice none 0 0,.slice none 0 0,.int .i64 0,.int .i64 0]):=fun ty=>by
  rw[G,show n - (n - 1)=1 by omega]
  exact Y1 g _ 54 ty (.agg #[.int .i64 0,.int .i64 0,.string ⟨#[]⟩,.int .i64 0,.slice none 0 0,.slice none 0 0,.int .i64 0,.int .i64 0]) [.int .i64 0,.int .i64 0,.string ⟨#[]⟩,.int .i64 0,.slice none 0 0,.slice none 0 0,.int .i64 0,.int .i64 0] Tryz.underlying43 (fun W=>by first|rfl|kernel_rfl) rfl (by simp[Value.oneCell']) b (off+(n - 1) * 8) _ (fun j hj=>by
   have a1:j < 8:=hj
   rw[k.cell]
   rw[List.getElem?_toArray,List.getElem?_eq_getElem (by omega)]
   rfl) (fun j hj=>k.frozen _)
 have q:Sl (g.setCells b (off+(n - 1) * 8) [.int .i64 0,.int .i64 0,.string ⟨#[]⟩,.int .i64 0,.slice none 0 0,.slice none 0 0,.int .i64 0,.int .i64 0]) 54 8 (.slice (some ⟨b,off,none⟩) (i+(n - (i+1))) cap) (some b) (n - 1) (xs.take (i * 8)++a):=by
  have H:=yZ b 54 [.int .i64 0,.int .i64 0,.string ⟨#[]⟩,.int .i64 0,.slice none 0 0,.slice none 0 0,.int .i64 0,.int .i64 0] (off+(n - 1) * 8) g m.toArray k (by simp;omega)
  rw[G]
  refine⟨by rw[List.length_append,List.length_take,c];omega,.inr ⟨b,off,cap,_,rfl,rfl,H,by omega,hcm,?_,?_⟩⟩
  ·simp only[List.size_toArray,List.length_append,List.length_take,List.length_drop,List.length_cons,List.length_nil,p]
   omega
  ·have I:(m.take (off+(n - 1) * 8)).length=off+(n - 1) * 8:=by
    rw[List.length_take,p]
    omega
   show (List.drop off (m.take (off+(n - 1) * 8)++[.int .i64 0,.int .i64 0,.string ⟨#[]⟩,.int .i64 0,.slice none 0 0,.slice none 0 0,.int .i64 0,.int .i64 0]++_)).take ((n - 1) * 8)=xs.take (i * 8)++a
   rw[List.append_assoc,List.drop_append_of_le_length (by omega),List.take_append_of_le_length (by rw[List.length_drop,I];omega),List.drop_take,Nat.add_sub_cancel_left,List.take_take,Nat.min_self,o]
   have a2:(cur.toList.take (off+i * 8)).length=off+i * 8:=by
    rw[List.length_take,Array.length_toList]
    omega
   rw[List.append_assoc,List.drop_append_of_le_length (by omega),List.drop_take,Nat.add_sub_cancel_left,←List.append_assoc]
   rw[List.take_append_of_le_length (by rw[List.length_append,List.length_take,List.length_drop,Array.length_toList,c];omega)]
   rw[←htake,List.take_take,Nat.min_eq_left (by omega)]
   exact List.take_of_length_le (by rw[List.length_append,List.length_take,List.length_drop,Array.length_toList,c];omega)
 obtain⟨P,Q,R,S⟩:=yY b [.int .i64 0,.int .i64 0,.string ⟨#[]⟩,.int .i64 0,.slice none 0 0,.slice none 0 0,.int .i64 0,.int .i64 0] (off+(n - 1) * 8) g
 have x:Chg [b] w (g.setCells b (off+(n - 1) * 8) [.int .i64 0,.int .i64 0,.string ⟨#[]⟩,.int .i64 0,.slice none 0 0,.slice none 0 0,.int .i64 0,.int .i64 0]):=⟨P.trans B,Q.trans C,R.trans D,by rw[S,E];exact Nat.le_refl _,fun j hj hjn=>(xD b _ _ g j (by simpa using hjn)).trans (s.block j hj hjn)⟩
 have y:=zdG q
 have J:=zdG x
 have r:=zdG d
 have K:=zdG l
 clear f d c B C D E k s p o l P Q R S q x G htake
 go_enter Tryz.func147,Tryz.ntmps147
 go_wp2_with fail
 go_region_law (first
  |(refine step_append_room rfl (.tmp 22) (.tmp 25) 43 rfl 54 i0 8 Tryz.underlying43 L M b off i cap (by simp[Act.eval,Act.put]) A (n - (i+1)) (cap - (i+1)) a (by simp[Act.eval,Act.put]) X.out z.out Y.out (by omega) Z.out ?_;rw[←K.out])
  |fail)
 all_goals
  go_wp2
  go_ret
  exact⟨_,rfl,by rw[←r.out];exact y.out,J.out⟩
theorem delB_any (w:World)(v:Value)(h:Option Nat)(n:Nat)(xs:List Value)(hs:Sl w 89 6 v h n xs)(h1:∀u∈xs,u.oneCell'=true)(hn:n≤1099511627776)(i:Nat)(hi:i < n) :
  Calls Tryz.prog 117 #[v,.int .i64 i,.int .i64 ((i:Int)+1)] w fun e w'=>∃v',e=.returned v'∧Sl w' 89 6 v' h (n - 1) (xs.take (i * 6)++xs.drop ((i+1) * 6))∧Chg h.toList w w':=by
 obtain⟨i0,L,a3,M,a4⟩:=info_parts Try.infoBox
 have F:=hs.1
 rcases hs.2 with⟨_,_,N⟩|⟨b,off,cap,cur,rfl,rfl,hB,hnc,hcm,hcs,htake⟩
 ·omega
 have f:∀j,j < n * 6→w.cell? ⟨b,off+j,none⟩=xs[j]?:=fun j hj=>by
  rw[hB.cell,←htake,List.getElem?_take,if_pos hj,List.getElem?_drop,Array.getElem?_toList]
 obtain⟨a,d⟩:∃a,a=xs.drop ((i+1) * 6):=⟨_,rfl⟩
 have c:a.length=(n - (i+1)) * 6:=by
  rw[d,List.length_drop,F]
  omega
 have T:IntKind.i64.wrap ((i:Int)+1)=(i:Int)+1:=IntWalk.i64_in _ (by omega)
 have q1:(0:Int)≤(i:Int):=by omega
 have q2:(i:Int)≤(i:Int)+1:=by omega
 have q3:(i:Int)+1≤(n:Int):=by omega
 have q6:(0:Int)≤(i:Int)+1:=by omega
 have q4:(n:Int)≤(cap:Int):=by omega
 have q5:((i:Int)==(i:Int)+1)=false:=by simpa using (show ¬(i:Int)=(i:Int)+1 by omega)
 have U:i≤cap:=by omega
 have V:i+1≤cap:=by omega
 clear hs
 obtain⟨A,hA,z⟩:∃A:Addr,(if cap=i+1 then (some (⟨b,off,none⟩:Addr)) else some ⟨b,off+(i+1) * 6,none⟩)=some A∧Hid (∀t u,a[t]?=some u→w.drew.cell? (A.add t)=some u):=by
  by_cases h:cap=i+1
  ·refine⟨⟨b,off,none⟩,by simp[h],zdG (fun t u hu=>?_)⟩
   have N:a.length=0:=by
    rw[c,show n - (i+1)=0 by omega,Nat.zero_mul]
   rw[List.length_eq_zero_iff.1 N] at hu
   simp at hu
  ·refine⟨⟨b,off+(i+1) * 6,none⟩,by simp[h],zdG (fun t u hu=>?_)⟩
   have O:t < (n - (i+1)) * 6:=by
    have:=(List.getElem?_eq_some_iff.1 hu).1
    rwa [c] at this
   rw[d,List.getElem?_drop] at hu
   rw[Addr.add_lit,show off+(i+1) * 6+t=off+((i+1) * 6+t) by omega]
   exact(f ((i+1) * 6+t) (by omega)).trans hu
 have X:=zdG c
 have Y:Hid (∀u∈a,u.oneCell'=true):=zdG (fun u hu=>by
  rw[d] at hu
  exact h1 u (List.mem_of_mem_drop hu))
 have Z:Hid (∀t,t < a.length→(w.drew.cell? ⟨b,off+i * 6+t,none⟩).isSome=true∧w.drew.frozen? ⟨b,off+i * 6+t,none⟩=false):=zdG (fun t O=>by
  rw[c] at O
  refine⟨?_,hB.frozen _⟩
  show (w.cell? _).isSome=true
  rw[Nat.add_assoc,f (i * 6+t) (by omega),List.getElem?_eq_getElem (by omega)]
  rfl)
 obtain⟨g,l⟩:∃g,g=w.drew.setCells b (off+i * 6) a:=⟨_,rfl⟩
 have k:Blk g b 89 (cur.toList.take (off+i * 6)++a++cur.toList.drop (off+i * 6+a.length)).toArray:=by
  rw[l]
  exact yZ b 89 a (off+i * 6) w.drew cur (hB.heap (w':=w.drew) rfl) (by omega)
 obtain⟨B,C,D,E⟩:=yY b a (off+i * 6) w.drew
 rw[←l] at B C D E
 have s:Chg [b] w g:=⟨B,C,D,Nat.le_of_eq E.symm,fun j _ hj=>by
  rw[l]
  exact xD b a _ w.drew j (by simpa using hj)⟩
 have p:(cur.toList.take (off+i * 6)++a++cur.toList.drop (off+i * 6+a.length)).length=cur.size:=by
  simp only[List.length_append,List.length_take,List.length_drop,Array.length_toList]
  omega
 obtain⟨m,o⟩:∃m,m=cur.toList.take (off+i * 6)++a++cur.toList.drop (off+i * 6+a.length):=⟨_,rfl⟩
 rw[←o] at k p
 have G:i+(n - (i+1))=n - 1:=by omega
 have a0:∀ty,(Builtin.clear_ #[42] ty #[.slice (some ⟨b,off+(i+(n - (i+1))) * 6,none⟩) (n - (i+(n - (i+1)))) (cap - (i+(n - (i+1))))]).run Tryz.prog g=.ok (.tuple #[]) (g.setCells b (off+(n - 1) * 6) [.int .i64 0,.string ⟨#[]⟩,.int .i64 0,.int .i64 0,.int .i64 0,.int .i64 0]):=fun ty=>by
  rw[G,show n - (n - 1)=1 by omega]
  exact Y1 g _ 89 ty (.agg #[.int .i64 0,.string ⟨#[]⟩,.int .i64 0,.int .i64 0,.int .i64 0,.int .i64 0]) [.int .i64 0,.string ⟨#[]⟩,.int .i64 0,.int .i64 0,.int .i64 0,.int .i64 0] Tryz.underlying42 (fun W=>by first|rfl|kernel_rfl) rfl (by simp[Value.oneCell']) b (off+(n - 1) * 6) _ (fun j hj=>by
   have a1:j < 6:=hj
   rw[k.cell]
   rw[List.getElem?_toArray,List.getElem?_eq_getElem (by omega)]
   rfl) (fun j hj=>k.frozen _)
 have q:Sl (g.setCells b (off+(n - 1) * 6) [.int .i64 0,.string ⟨#[]⟩,.int .i64 0,.int .i64 0,.int .i64 0,.int .i64 0]) 89 6 (.slice (some ⟨b,off,none⟩) (i+(n - (i+1))) cap) (some b) (n - 1) (xs.take (i * 6)++a):=by
  have H:=yZ b 89 [.int .i64 0,.string ⟨#[]⟩,.int .i64 0,.int .i64 0,.int .i64 0,.int .i64 0] (off+(n - 1) * 6) g m.toArray k (by simp;omega)
  rw[G]
  refine⟨by rw[List.length_append,List.length_take,c];omega,.inr ⟨b,off,cap,_,rfl,rfl,H,by omega,hcm,?_,?_⟩⟩
  ·simp only[List.size_toArray,List.length_append,List.length_take,List.length_drop,List.length_cons,List.length_nil,p]
   omega
  ·have I:(m.take (off+(n - 1) * 6)).length=off+(n - 1) * 6:=by
    rw[List.length_take,p]
    omega
   show (List.drop off (m.take (off+(n - 1) * 6)++[.int .i64 0,.string ⟨#[]⟩,.int .i64 0,.int .i64 0,.int .i64 0,.int .i64 0]++_)).take ((n - 1) * 6)=xs.take (i * 6)++a
   rw[List.append_assoc,List.drop_append_of_le_length (by omega),List.take_append_of_le_length (by rw[List.length_drop,I];omega),List.drop_take,Nat.add_sub_cancel_left,List.take_take,Nat.min_self,o]
   have a2:(cur.toList.take (off+i * 6)).length=off+i * 6:=by
    rw[List.length_take,Array.length_toList]
    omega
   rw[List.append_assoc,List.drop_append_of_le_length (by omega),List.drop_take,Nat.add_sub_cancel_left,←List.append_assoc]
   rw[List.take_append_of_le_length (by rw[List.length_append,List.length_take,List.length_drop,Array.length_toList,c];omega)]
   rw[←htake,List.take_take,Nat.min_eq_left (by omega)]
   exact List.take_of_length_le (by rw[List.length_append,List.length_take,List.length_drop,Array.length_toList,c];omega)
 obtain⟨P,Q,R,S⟩:=yY b [.int .i64 0,.string ⟨#[]⟩,.int .i64 0,.int .i64 0,.int .i64 0,.int .i64 0] (off+(n - 1) * 6) g
 have x:Chg [b] w (g.setCells b (off+(n - 1) * 6) [.int .i64 0,.string ⟨#[]⟩,.int .i64 0,.int .i64 0,.int .i64 0,.int .i64 0]):=⟨P.trans B,Q.trans C,R.trans D,by rw[S,E];exact Nat.le_refl _,fun j hj hjn=>(xD b _ _ g j (by simpa using hjn)).trans (s.block j hj hjn)⟩
 have y:=zdG q
 have J:=zdG x
 have r:=zdG d
 have K:=zdG l
 clear f d c B C D E k s p o l P Q R S q x G htake
 go_enter Tryz.func117,Tryz.ntmps117
 go_wp2_with fail
 go_region_law (first
  |(refine step_append_room rfl (.tmp 22) (.tmp 25) 42 rfl 89 i0 6 Tryz.underlying42 L M b off i cap (by simp[Act.eval,Act.put]) A (n - (i+1)) (cap - (i+1)) a (by simp[Act.eval,Act.put]) X.out z.out Y.out (by omega) Z.out ?_;rw[←K.out])
  |fail)
 all_goals
  go_wp2
  go_ret
  exact⟨_,rfl,by rw[←r.out];exact y.out,J.out⟩
end Go.Proofs.YtfhlhdmhgheonaaGreatDoor
