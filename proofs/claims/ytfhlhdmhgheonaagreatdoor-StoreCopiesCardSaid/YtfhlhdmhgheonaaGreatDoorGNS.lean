/-
  The walks of store.New and of the reference's New at any config.
-/
import Derived.Test.YtfhlhdmhgheonaaGreatDoorGD
import Derived.Test.YtfhlhdmhgheonaaGreatDoorGZ
set_option maxRecDepth 100000
set_option maxHeartbeats 8000000
namespace Go.Proofs.YtfhlhdmhgheonaaGreatDoor
open Go.Shelf Go.RowKit Go.Lib
attribute [local go_sem ↓] Go.wp_at_zero Go.wp_at_succ
def NewOut (w:World)(c:Xv)(ok:Bool)(e:Ending)(w':World):Prop:=(ok=true→∃g q,e=.returned (.tuple #[.pointer (some ⟨g,0,none⟩),.int .i64 0])∧xI w w' g q (newP c))∧(ok=false→e=.returned (.tuple #[.pointer none,.int .i64 1])∧Below w.heap.size w w')
def RNewOut (w:World)(c:Xv)(ok:Bool)(e:Ending)(w':World):Prop:=(ok=true→∃g q,e=.returned (.tuple #[.pointer (some ⟨g,0,none⟩),.int .i64 0])∧Yr w w' g q (newP c))∧(ok=false→e=.returned (.tuple #[.pointer none,.int .i64 1])∧Below w.heap.size w w')
def msF (m1 m2 m3 m4 m5 m6 m7:Int):Nat→Int
 |0=>m1
 |1=>m2
 |2=>m3
 |3=>m4
 |4=>m5
 |5=>m6
 |_=>m7
theorem J4 (u:Text)(hu:u.length≤140737488351232)(W:World):Calls Tryz.prog 40 #[.string ⟨u.toArray⟩] W fun e w'=>e=.returned (.bool (Zn u))∧W=w':=by
 have h:=XZ ⟨u.toArray⟩ W (by show u.toArray.size≤_;simpa using hu)
 simpa using h
theorem XI (u:Text)(hu:u.length≤140737488351232)(W:World):Calls Tryz.prog 43 #[.string ⟨u.toArray⟩] W fun e w'=>e=.returned (.bool (Zn u))∧W=w':=by
 have h:=VL ⟨u.toArray⟩ W (by show u.toArray.size≤_;simpa using hu)
 simpa using h
theorem newS_num (u p:Text)(hu:u.length≤140737488351232)(hp:p.length≤140737488351232)(au:Zn u=true)(ap:Zn p=true)(m1 m2 m3 m4 m5 m6 m7:Int)(k0:Nat)(h7:k0≤7)(hgood:∀j,j < k0→lim (msF m1 m2 m3 m4 m5 m6 m7 j))(hbad:k0 < 7→¬lim (msF m1 m2 m3 m4 m5 m6 m7 k0))(w:World) :
  Calls Tryz.prog 9 #[.agg #[.string ⟨u.toArray⟩,.string ⟨p.toArray⟩,.int .i64 m1,.int .i64 m2,.int .i64 m3,.int .i64 m4,.int .i64 m5,.int .i64 m6,.int .i64 m7]] w (NewOut w ⟨u,p,m1,m2,m3,m4,m5,m6,m7⟩ (decide (k0=7))):=by
 have B:=fun W=>J4 u hu W
 have C:=fun W=>J4 p hp W
 rw[au] at B
 rw[ap] at C
 have K:k0=7→∀W,_:=fun h W=>new_ok m6 W (by have O:lim m6:=hgood 5 (by omega);unfold lim at O;omega)
 have c:∀k,k < 7→((w.alloc (.cells #[.string ⟨u.toArray⟩,.string ⟨p.toArray⟩,.int .i64 m1,.int .i64 m2,.int .i64 m3,.int .i64 m4,.int .i64 m5,.int .i64 m6,.int .i64 m7] 30)).alloc (.cells #[.int .i64 m1,.int .i64 m2,.int .i64 m3,.int .i64 m4,.int .i64 m5,.int .i64 m6,.int .i64 m7] 3)).cell? ⟨w.heap.size+1,k,none⟩=some (.int .i64 (msF m1 m2 m3 m4 m5 m6 m7 k)):=by
  intro k z
  have P:=Blk.new (w.alloc (.cells #[.string ⟨u.toArray⟩,.string ⟨p.toArray⟩,.int .i64 m1,.int .i64 m2,.int .i64 m3,.int .i64 m4,.int .i64 m5,.int .i64 m6,.int .i64 m7] 30)) 3 #[.int .i64 m1,.int .i64 m2,.int .i64 m3,.int .i64 m4,.int .i64 m5,.int .i64 m6,.int .i64 m7]
  have g:=P.cell k
  rw[show (w.alloc (.cells #[.string ⟨u.toArray⟩,.string ⟨p.toArray⟩,.int .i64 m1,.int .i64 m2,.int .i64 m3,.int .i64 m4,.int .i64 m5,.int .i64 m6,.int .i64 m7] 30)).heap.size=w.heap.size+1 from by simp] at g
  rw[g]
  rcases k with _|_|_|_|_|_|_|k
  ·rfl
  ·rfl
  ·rfl
  ·rfl
  ·rfl
  ·rfl
  ·rfl
  ·omega
 have y:=zdG c
 have L:=zdG hgood
 have d:=zdG hbad
 have Q:=zdG ((Blk.new w 30 #[.string ⟨u.toArray⟩,.string ⟨p.toArray⟩,.int .i64 m1,.int .i64 m2,.int .i64 m3,.int .i64 m4,.int .i64 m5,.int .i64 m6,.int .i64 m7]).alloc (.cells #[.int .i64 m1,.int .i64 m2,.int .i64 m3,.int .i64 m4,.int .i64 m5,.int .i64 m6,.int .i64 m7] 3))
 have f:=zdG (za (below_alloc1 w (.cells #[.string ⟨u.toArray⟩,.string ⟨p.toArray⟩,.int .i64 m1,.int .i64 m2,.int .i64 m3,.int .i64 m4,.int .i64 m5,.int .i64 m6,.int .i64 m7] 30)) (below_alloc1 _ (.cells #[.int .i64 m1,.int .i64 m2,.int .i64 m3,.int .i64 m4,.int .i64 m5,.int .i64 m6,.int .i64 m7] 3)))
 clear c hgood hbad au ap hu hp
 obtain⟨A,t⟩:∃A,msF m1 m2 m3 m4 m5 m6 m7=A:=⟨_,rfl⟩
 rw[t] at y L d
 clear t
 go_enter Tryz.func9,Tryz.ntmps9
 go_wp2_with (first
  |(go_at_call 40;(with_reducible refine(B _).mono ?_);rintro e T ⟨rfl,rfl⟩;clear B)
  |(go_at_call 40;(with_reducible refine(C _).mono ?_);rintro e T ⟨rfl,rfl⟩;clear C)
  |fail)
 go_loop [35] (fun i=>∃k:Nat,k≤k0∧i=.int .i64 k) (fun i=>k0+1 - (intOf i).toNat)
 case atStart=>exact⟨0,Nat.zero_le _,rfl⟩
 case round=>
  obtain⟨k,z,rfl⟩:=hrel
  by_cases H:k < k0
  ·have g:=y.out k (by omega)
   obtain⟨I,J⟩:=L.out k H
   obtain⟨m,v⟩:∃m,A k=m:=⟨_,rfl⟩
   rw[v] at g I J
   have D:(k:Int) < 7:=by omega
   have R:¬m < 1:=by omega
   have S:¬2147483647 < m:=by omega
   clear v
   go_wp2_with fail
   refine⟨?_,by simp[intOf];omega⟩
   first|exact⟨k+1,by omega,by go_num⟩|((repeat apply Exists.intro);exact⟨⟨k+1,by omega,by go_num⟩,rfl⟩)
  ·have E:k=k0:=by omega
   subst E
   by_cases s:k < 7
   ·have g:=y.out k s
    have l:=d.out s
    obtain⟨m,v⟩:∃m,A k=m:=⟨_,rfl⟩
    rw[v] at g l
    have D:(k:Int) < 7:=by omega
    clear v
    by_cases R:m < 1
    ·go_wp2_with fail
     go_ret2
     exact⟨fun h=>absurd h (by rw[decide_eq_false (by omega)];decide),fun _=>⟨rfl,f.out⟩⟩
    ·have S:2147483647 < m:=by
      unfold lim at l
      omega
     go_wp2_with fail
     go_ret2
     exact⟨fun h=>absurd h (by rw[decide_eq_false (by omega)];decide),fun _=>⟨rfl,f.out⟩⟩
   ·have n:k=7:=by omega
    subst n
    have o:=K rfl
    clear y K
    go_wp2_with (first
     |(go_at_call 41;refine(o _).mono ?_;rintro e b ⟨rfl,N,l,x⟩;have a:=Q.out.below l (by simp;omega);have U:b.cell? ⟨w.heap.size,0,none⟩=some (.string ⟨u.toArray⟩):=a.cell 0;have V:b.cell? ⟨w.heap.size,1,none⟩=some (.string ⟨p.toArray⟩):=a.cell 1;have X:b.cell? ⟨w.heap.size,2,none⟩=some (.int .i64 m1):=a.cell 2;have Y:b.cell? ⟨w.heap.size,3,none⟩=some (.int .i64 m2):=a.cell 3;have Z:b.cell? ⟨w.heap.size,4,none⟩=some (.int .i64 m3):=a.cell 4;have d5:b.cell? ⟨w.heap.size,5,none⟩=some (.int .i64 m4):=a.cell 5;have d6:b.cell? ⟨w.heap.size,6,none⟩=some (.int .i64 m5):=a.cell 6;have d7:b.cell? ⟨w.heap.size,7,none⟩=some (.int .i64 m6):=a.cell 7;have d8:b.cell? ⟨w.heap.size,8,none⟩=some (.int .i64 m7):=a.cell 8;have q:=zdG (za f.out l);have F:=zdG N;clear l N o a)
     |(go_at_call 42;(refine(ZM (b.heap.size+1) 9 0 1 _ ((ZV b _ _ _).cell 9) ((ZV b _ _ _).frozen 9)).mono ?_;rintro e w4 ⟨rfl,rfl⟩))
     |fail)
    go_ret2
    have r:=F.out
    simp only[World.size_alloc] at r
    have M:w.heap.size+1+1 < b.heap.size:=by simpa using x
    have G:=q.out.size
    refine⟨fun _=>⟨b.heap.size+1,⟨w.heap.size+1+1,none,some b.heap.size,none,.slice (some ⟨b.heap.size,0,none⟩) 1 1,.slice none 0 0,[]⟩,rfl,⟨VG (ZV b _ _ _) (r.chg (((Chg.refl [] b).alloc _).alloc _) (by simp) (by simp)) ((Blk.new b _ _).alloc _),(q.out.alloc G _).alloc (by simp;omega) _,fun k z=>?_⟩⟩,fun h=>absurd h (by decide)⟩
    simp only[zl.own,Option.toList,List.mem_cons,List.mem_append,List.not_mem_nil,or_false,false_or] at z
    rcases z with rfl|rfl|rfl <;> omega
theorem Qu {w:World}{g gl b:Nat}{c:Xv}(hB:Blk w g 46 (Zq ⟨gl,none,some b,none,.slice (some ⟨b,0,none⟩) 1 1,.slice none 0 0,[]⟩ (newP c)).toArray)(hl:vL w gl none ⟨c.maxLog,[],0⟩)(hb:Blk w b 89 (xQ ⟨1,uH,0,1,1,1⟩).toArray):zi w g ⟨gl,none,some b,none,.slice (some ⟨b,0,none⟩) 1 1,.slice none 0 0,[]⟩ (newP c):=by
 refine⟨hB,hl,⟨rfl,.inr ⟨b,0,1,_,rfl,rfl,hb,Nat.le_refl _,by unfold maxLen;omega,by simp[xQ],?_⟩⟩,rfl,Sl.nil _ _ _,fun m hm=>by simp at hm⟩
 simp[newP,zk,xQ]
theorem ref_new3 (w2:World)(c:Xv)(n:Nat)(hn:w2.heap.size=n) :
  zi (((w2.alloc (.cells (xQ ⟨1,uH,0,1,1,1⟩).toArray 89)).alloc (.cells #[.int .i64 c.maxLog,.slice none 0 0,.int .i64 0] 104)).alloc (.cells (Zq ⟨n+1,none,some n,none,.slice (some ⟨n,0,none⟩) 1 1,.slice none 0 0,[]⟩ (newP c)).toArray 46)) (n+1+1)
   ⟨n+1,none,some n,none,.slice (some ⟨n,0,none⟩) 1 1,.slice none 0 0,[]⟩ (newP c):=by
 subst hn
 refine Qu ?_ ⟨.slice none 0 0,?_,Sl.nil _ _ _⟩ ?_
 ·have h:=Blk.new ((w2.alloc (.cells (xQ ⟨1,uH,0,1,1,1⟩).toArray 89)).alloc (.cells #[.int .i64 c.maxLog,.slice none 0 0,.int .i64 0] 104)) 46 (Zq ⟨w2.heap.size+1,none,some w2.heap.size,none,.slice (some ⟨w2.heap.size,0,none⟩) 1 1,.slice none 0 0,[]⟩ (newP c)).toArray
  rw[World.size_alloc,World.size_alloc] at h
  exact h
 ·have h:=(Blk.new (w2.alloc (.cells (xQ ⟨1,uH,0,1,1,1⟩).toArray 89)) 104 #[.int .i64 c.maxLog,.slice none 0 0,.int .i64 0]).alloc (.cells (Zq ⟨w2.heap.size+1,none,some w2.heap.size,none,.slice (some ⟨w2.heap.size,0,none⟩) 1 1,.slice none 0 0,[]⟩ (newP c)).toArray 46)
  rw[World.size_alloc] at h
  exact h
 ·exact((Blk.new w2 89 (xQ ⟨1,uH,0,1,1,1⟩).toArray).alloc _).alloc _
theorem Un (u p:Text)(hu:u.length≤140737488351232)(hp:p.length≤140737488351232)(m1 m2 m3 m4 m5 m6 m7:Int)(k0:Nat)(h7:k0≤7)(hgood:∀j,j < k0→lim (msF m1 m2 m3 m4 m5 m6 m7 j))(hbad:k0 < 7→¬lim (msF m1 m2 m3 m4 m5 m6 m7 k0))(ok:Bool)(hok:ok=(decide (k0=7) && (Zn u && Zn p)))(w:World) :
  Calls Tryz.prog 11 #[.agg #[.string ⟨u.toArray⟩,.string ⟨p.toArray⟩,.int .i64 m1,.int .i64 m2,.int .i64 m3,.int .i64 m4,.int .i64 m5,.int .i64 m6,.int .i64 m7]] w (RNewOut w ⟨u,p,m1,m2,m3,m4,m5,m6,m7⟩ ok):=by
 have g:=fun W=>XI u hu W
 have n:=fun W=>XI p hp W
 obtain⟨z,s⟩:∃z,Zn u=z:=⟨_,rfl⟩
 obtain⟨A,t⟩:∃A,Zn p=A:=⟨_,rfl⟩
 rw[s] at g hok
 rw[t] at n hok
 have a:∀k,k < 7→((w.alloc (.cells #[.string ⟨u.toArray⟩,.string ⟨p.toArray⟩,.int .i64 m1,.int .i64 m2,.int .i64 m3,.int .i64 m4,.int .i64 m5,.int .i64 m6,.int .i64 m7] 30)).alloc (.cells #[.int .i64 m1,.int .i64 m2,.int .i64 m3,.int .i64 m4,.int .i64 m5,.int .i64 m6,.int .i64 m7] 3)).cell? ⟨w.heap.size+1,k,none⟩=some (.int .i64 (msF m1 m2 m3 m4 m5 m6 m7 k)):=by
  intro k B
  have O:=Blk.new (w.alloc (.cells #[.string ⟨u.toArray⟩,.string ⟨p.toArray⟩,.int .i64 m1,.int .i64 m2,.int .i64 m3,.int .i64 m4,.int .i64 m5,.int .i64 m6,.int .i64 m7] 30)) 3 #[.int .i64 m1,.int .i64 m2,.int .i64 m3,.int .i64 m4,.int .i64 m5,.int .i64 m6,.int .i64 m7]
  have l:=O.cell k
  rw[show (w.alloc (.cells #[.string ⟨u.toArray⟩,.string ⟨p.toArray⟩,.int .i64 m1,.int .i64 m2,.int .i64 m3,.int .i64 m4,.int .i64 m5,.int .i64 m6,.int .i64 m7] 30)).heap.size=w.heap.size+1 from by simp] at l
  rw[l]
  rcases k with _|_|_|_|_|_|_|k
  ·rfl
  ·rfl
  ·rfl
  ·rfl
  ·rfl
  ·rfl
  ·rfl
  ·omega
 have y:=zdG a
 have L:=zdG hgood
 have f:=zdG hbad
 have o:=zdG hok
 have M:=zdG ((Blk.new w 30 #[.string ⟨u.toArray⟩,.string ⟨p.toArray⟩,.int .i64 m1,.int .i64 m2,.int .i64 m3,.int .i64 m4,.int .i64 m5,.int .i64 m6,.int .i64 m7]).alloc (.cells #[.int .i64 m1,.int .i64 m2,.int .i64 m3,.int .i64 m4,.int .i64 m5,.int .i64 m6,.int .i64 m7] 3))
 have b:=zdG (za (below_alloc1 w (.cells #[.string ⟨u.toArray⟩,.string ⟨p.toArray⟩,.int .i64 m1,.int .i64 m2,.int .i64 m3,.int .i64 m4,.int .i64 m5,.int .i64 m6,.int .i64 m7] 30)) (below_alloc1 _ (.cells #[.int .i64 m1,.int .i64 m2,.int .i64 m3,.int .i64 m4,.int .i64 m5,.int .i64 m6,.int .i64 m7] 3)))
 clear a hgood hbad hu hp hok s t
 obtain⟨C,v⟩:∃C,msF m1 m2 m3 m4 m5 m6 m7=C:=⟨_,rfl⟩
 rw[v] at y L f
 clear v
 go_enter Tryz.func11,Tryz.ntmps11
 go_wp2_with fail
 go_loop [5] (fun i=>∃k:Nat,k≤k0∧i=.int .i64 k) (fun i=>k0+1 - (intOf i).toNat)
 case atStart=>exact⟨0,Nat.zero_le _,rfl⟩
 case round=>
  obtain⟨k,B,rfl⟩:=hrel
  by_cases I:k < k0
  ·have l:=y.out k (by omega)
   obtain⟨J,K⟩:=L.out k I
   obtain⟨m,x⟩:∃m,C k=m:=⟨_,rfl⟩
   rw[x] at l J K
   have E:(k:Int) < 7:=by omega
   have P:¬m < 1:=by omega
   have Q:¬2147483647 < m:=by omega
   clear x
   go_wp2_with fail
   refine⟨?_,by simp[intOf];omega⟩
   first|exact⟨k+1,by omega,by go_num⟩|((repeat apply Exists.intro);exact⟨⟨k+1,by omega,by go_num⟩,rfl⟩)
  ·have F:k=k0:=by omega
   subst F
   by_cases r:k < 7
   ·have l:=y.out k r
    have N:=f.out r
    obtain⟨m,x⟩:∃m,C k=m:=⟨_,rfl⟩
    rw[x] at l N
    have E:(k:Int) < 7:=by omega
    have c:Hid (ok=false):=zdG (by rw[o.out,decide_eq_false (by omega)];rfl)
    clear x
    by_cases P:m < 1
    ·go_wp2_with fail
     go_ret2
     exact⟨fun h=>absurd h (by rw[c.out];decide),fun _=>⟨rfl,b.out⟩⟩
    ·have Q:2147483647 < m:=by
      unfold lim at N
      omega
     go_wp2_with fail
     go_ret2
     exact⟨fun h=>absurd h (by rw[c.out];decide),fun _=>⟨rfl,b.out⟩⟩
   ·have q:k=7:=by omega
    subst q
    have d:Hid (ok=(z && A)):=zdG (by rw[o.out];simp)
    have R:=M.out.cell 0
    have S:=M.out.cell 1
    clear y
    cases z with
    |false=>
     have c:Hid (ok=false):=zdG (by rw[d.out];rfl)
     go_wp2_with (first
      |(go_at_call 43;(with_reducible refine(g _).mono ?_);rintro e D ⟨rfl,rfl⟩;clear g)
      |fail)
     go_ret2
     exact⟨fun h=>absurd h (by rw[c.out];decide),fun _=>⟨rfl,b.out⟩⟩
    |true=>
     cases A with
     |false=>
      have c:Hid (ok=false):=zdG (by rw[d.out];rfl)
      go_wp2_with (first
       |(go_at_call 43;(with_reducible refine(g _).mono ?_);rintro e D ⟨rfl,rfl⟩;clear g)
       |(go_at_call 43;(with_reducible refine(n _).mono ?_);rintro e D ⟨rfl,rfl⟩;clear n)
       |fail)
      go_ret2
      exact⟨fun h=>absurd h (by rw[c.out];decide),fun _=>⟨rfl,b.out⟩⟩
     |true=>
      have G:Hid (ok=true):=zdG (by rw[d.out];rfl)
      go_wp2_with (first
       |(go_at_call 43;(with_reducible refine(g _).mono ?_);rintro e D ⟨rfl,rfl⟩;clear g)
       |(go_at_call 43;(with_reducible refine(n _).mono ?_);rintro e D ⟨rfl,rfl⟩;clear n)
       |fail)
      go_ret2
      have H:=b.out.size
      simp only[World.size_alloc] at H
      refine⟨fun _=>⟨w.heap.size+1+1+1+1,⟨w.heap.size+1+1+1,none,some (w.heap.size+1+1),none,.slice (some ⟨w.heap.size+1+1,0,none⟩) 1 1,.slice none 0 0,[]⟩,rfl,⟨ref_new3 _ ⟨u,p,m1,m2,m3,m4,m5,m6,m7⟩ (w.heap.size+1+1) (by simp),((b.out.alloc (by simp;omega) _).alloc (by simp;omega) _).alloc (by simp;omega) _,fun k B=>?_⟩⟩,fun h=>absurd h (by rw[G.out];decide)⟩
      simp only[zl.own,Option.toList,List.mem_cons,List.mem_append,List.not_mem_nil,or_false,false_or] at B
      rcases B with rfl|rfl|rfl <;> omega
end Go.Proofs.YtfhlhdmhgheonaaGreatDoor
