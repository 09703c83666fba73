/-
  The reference's account: a whole list of mailboxes, of emails, stored anew; a slice less one. The walk of the reference's Drop. The walk of the reference's Rename.
-/
import Derived.Test.YtfhlhdmhgheonaaGreatDoorGRM
import Derived.Test.YtfhlhdmhgheonaaGreatDoorGN
set_option maxRecDepth 100000
set_option maxHeartbeats 8000000
namespace Go.Proofs.YtfhlhdmhgheonaaGreatDoor
open Go.Shelf Go.RowKit
section
variable {w w':World} {g:Nat} {q:zl} {x:Acc}
theorem zi.putBoxes (h:zi w g q x)(l:List yg){v':Value}{h':Option Nat}(hs:Sl w' 89 6 v' h' l.length (zk xQ l))(hc:Chg q.hb.toList w w')(ho:h'=q.hb∨∃k,h'=some k∧w.heap.size≤k) :
  ze w (w'.setCell ⟨g,10,none⟩ v') g q {x with boxes:=l} {q with hb:=h',vb:=v'}:=by
 have d:=h.apart
 have r:g < w.heap.size:=h.blk.lt
 have f:∀k,h'=some k→(q.hb=some k)∨w.heap.size≤k:=by
  intro k c
  rcases ho with h2|⟨k2,h2,h3⟩
  ·exact .inl (by rw[←h2];exact c)
  ·rw[h2] at c
   injection c with c
   exact .inr (by omega)
 have o:h'≠some g:=fun e=>by
  rcases f g e with a|a
  ·exact d.hb a
  ·omega
 have j:Chg (q.own g) w (w'.setCell ⟨g,10,none⟩ v'):=(hc.mono fun k c=>.inl (zl.vW (by simpa using c))).set (p:=⟨g,10,none⟩) (.inl zl.ZP) v'
 have i:∀k∈({q with hb:=h',vb:=v'}:zl).own g,k∈q.own g∨w.heap.size≤k:=by
  intro k c
  simp only[zl.own,List.mem_cons,List.mem_append,Option.mem_toList] at c ⊢
  rcases c with a|a|(a|a)|a
  ·exact .inl (.inl a)
  ·exact .inl (.inr (.inl a))
  ·exact .inl (.inr (.inr (.inl (.inl a))))
  ·rcases f k a with h2|h2
   ·exact .inl (.inr (.inr (.inl (.inr h2))))
   ·exact .inr h2
  ·exact .inl (.inr (.inr (.inr a)))
 have n:Chg (g :: q.hb.toList) w (w'.setCell ⟨g,10,none⟩ v'):=(hc.mono fun k c=>.inl (List.mem_cons_of_mem _ c)).set (.inl (by simp)) v'
 refine⟨⟨?_,?_,?_,h.same,?_,fun m hmm=>(h.parts m hmm).step j i⟩,j,i⟩
 ·have s:=(h.blk.chg hc (by simpa using d.hb)).set 10 v'
  exact s
 ·exact h.log.chg n (by
   simp only[List.mem_cons,Option.mem_toList,not_or]
   exact⟨fun e=>d.gl e.symm,d.lb⟩) (fun b hb=>by
   simp only[List.mem_cons,Option.mem_toList,not_or]
   exact⟨fun e=>d.hl (by rw[hb,e]),d.eb b hb⟩)
 ·have a:=hs.far (p:=⟨g,10,none⟩) o v'
  exact a
 ·exact h.mails.chg n (fun b hb=>by
   simp only[List.mem_cons,Option.mem_toList,not_or]
   exact⟨fun e=>d.hm (by rw[hb,e]),fun e=>d.bm b e hb⟩)
theorem zi.putMails (h:zi w g q x)(ms:List zR){v':Value}{h':Option Nat}(hp:∀m∈ms,yD w (q.own g) m)(hs:Sl w' 54 8 v' h' ms.length (zk xP ms))(hc:Chg q.hm.toList w w')(ho:h'=q.hm∨∃k,h'=some k∧w.heap.size≤k) :
  ze w (w'.setCell ⟨g,11,none⟩ v') g q {x with mails:=ms.map (·.p)} {q with hm:=h',vm:=v',ms:=ms}:=by
 have f:=h.apart
 have r:g < w.heap.size:=h.blk.lt
 have i:∀k,h'=some k→(q.hm=some k)∨w.heap.size≤k:=by
  intro k d
  rcases ho with h2|⟨k2,h2,h3⟩
  ·exact .inl (by rw[←h2];exact d)
  ·rw[h2] at d
   injection d with d
   exact .inr (by omega)
 have o:h'≠some g:=fun e=>by
  rcases i g e with c|c
  ·exact f.hm c
  ·omega
 have l:Chg (q.own g) w (w'.setCell ⟨g,11,none⟩ v'):=(hc.mono fun k d=>.inl (zl.vR (by simpa using d))).set (p:=⟨g,11,none⟩) (.inl zl.ZP) v'
 have j:∀k∈({q with hm:=h',vm:=v',ms:=ms}:zl).own g,k∈q.own g∨w.heap.size≤k:=by
  intro k d
  simp only[zl.own,List.mem_cons,List.mem_append,Option.mem_toList] at d ⊢
  rcases d with c|c|(c|c)|c
  ·exact .inl (.inl c)
  ·exact .inl (.inr (.inl c))
  ·exact .inl (.inr (.inr (.inl (.inl c))))
  ·exact .inl (.inr (.inr (.inl (.inr c))))
  ·rcases i k c with h2|h2
   ·exact .inl (.inr (.inr (.inr h2)))
   ·exact .inr h2
 have n:Chg (g :: q.hm.toList) w (w'.setCell ⟨g,11,none⟩ v'):=(hc.mono fun k d=>.inl (List.mem_cons_of_mem _ d)).set (.inl (by simp)) v'
 refine⟨⟨?_,?_,?_,?_,?_,fun a ha2=>?_⟩,l,j⟩
 ·have s:=(h.blk.chg hc (by simpa using f.hm)).set 11 v'
  exact s
 ·exact h.log.chg n (by
   simp only[List.mem_cons,Option.mem_toList,not_or]
   exact⟨fun e=>f.gl e.symm,f.lm⟩) (fun b hb=>by
   simp only[List.mem_cons,Option.mem_toList,not_or]
   exact⟨fun e=>f.hl (by rw[hb,e]),f.em b hb⟩)
 ·exact h.boxes.chg n (fun b hb=>by
   simp only[List.mem_cons,Option.mem_toList,not_or]
   exact⟨fun e=>f.hb (by rw[hb,e]),f.bm b hb⟩)
 ·rfl
 ·have c:=hs.far (p:=⟨g,11,none⟩) o v'
  show Sl _ _ 8 v' h' (ms.map (·.p)).length (zk xP ms)
  rw[List.length_map]
  exact c
 ·exact(hp a ha2).step l j
end
theorem Sl.pre {w:World}{e:TypeId}{size n:Nat}{h:Option Nat}{xs:List Value}{b off cap:Nat}(hs:Sl w e size (.slice (some ⟨b,off,none⟩) n cap) h n xs)(k:Nat)(hk:k≤n) :
  Sl w e size (.slice (some ⟨b,off,none⟩) k k) h k (xs.take (k * size)):=by
 have a:k * size≤n * size:=Nat.mul_le_mul_right _ hk
 refine⟨by rw[List.length_take,hs.1];omega,?_⟩
 rcases hs.2 with⟨_,hv,_⟩|⟨b',off',cap',cur,hh,hv,hB,hnc,hcm,hcs,ht⟩
 ·cases hv
 ·simp only[Value.slice.injEq,Option.some.injEq,Addr.mk.injEq,and_true,true_and] at hv
  obtain⟨⟨rfl,rfl⟩,rfl⟩:=hv
  have c:k * size≤cap * size:=Nat.mul_le_mul_right _ (by omega)
  refine .inr ⟨b,off,k,cur,hh,rfl,hB,Nat.le_refl _,by omega,by omega,?_⟩
  rw[←ht,List.take_take,Nat.min_eq_left a]
theorem Yl {P:Program}{w:World}{o:Oper}{a:Act}{K:Act→World→Prop}{Q:Exit→Act→World→Prop}(s x:Operand)(t:TypeId)(ho:o.op=.call {callee:=.builtin .append,args:=#[s,x],argTypes:=#[t,t]}){e:TypeId}{i:TypeInfo}{z:Value}{size bytes:Nat}(ht:P.underlying t=some (.slice e))(hi:P.info? e=some i)(hz:i.zero=some z)(hsize:i.size=size)(hby:i.bytes=bytes)(hzs:z.cells.size=size)(hsz:0 < size){v:Value}{h:Option Nat}{n:Nat}{xs:List Value}(hsl:Sl w e size v h n xs)(hs:a.eval s=v)(ad:Addr)(m c:Nat)(news:List Value)(hx:a.eval x=.slice (some ad) m c)(hl:news.length=m * size)(hnews:∀j u,news[j]?=some u→w.cell? (ad.add j)=some u)(h1:∀u∈news,u.oneCell'=true)(h63:n+m≤maxLen)(hbytes:(n+m) * bytes≤140737488355328)(hk:∀v' h' w',Sl w' e size v' h' (n+m) (xs++news)→Chg h.toList w w'→(h'=h∨∃g,h'=some g∧w.heap.size≤g)→K (a.put o.dst v') w') :
  o.wp P a w K Q:=by
 obtain⟨v',h',w',b,d,f,k⟩:=xG (P:=P) w (ty:=o.type) ht hi hz hsize hby hzs hsz hsl ad m c news hl hnews h1 h63 hbytes
 unfold Oper.wp execOp
 simp only[ho,resolve,invoke,builtin,Sem.run_bind,Sem.run_pure,Result.andThen_ok,List.map_toArray,List.map_cons,List.map_nil,hs,hx,b]
 exact hk v' h' w' d f k
theorem zbw {w:World}{g:Nat}{q:zl}{x:Acc}(h:zi w g q x):∀u∈zk xP q.ms,u.oneCell'=true:=by
 intro u c
 obtain⟨m,b,a⟩:=List.mem_flatMap.1 c
 obtain⟨f,i,d,_,_⟩:=(h.parts m b).keys.form
 obtain⟨j,k,e,_,_⟩:=(h.parts m b).mem.form
 simp only[xP,List.mem_cons,List.not_mem_nil,or_false] at a
 rcases a with rfl|rfl|rfl|rfl|rfl|rfl|rfl|rfl
 all_goals first|rfl|(rw[d];rfl)|(rw[e];rfl)
theorem zae {x:Acc}(hf:Fit x){m:zX}(hm:m∈x.mails)(id:Int):decide (0 < uq m.members id)=xZ m id:=by
 unfold uq xZ
 cases b:m.members.find? (fun p=>decide (p.1=id)) with
 |none=>
  have a:m.members.any (fun p=>decide (p.1=id))=false:=by
   rw[List.any_eq_false]
   exact fun p hp=>List.find?_eq_none.1 b p hp
  rw[a]
  rfl
 |some p=>
  have c:=List.mem_of_find?_eq_some b
  have d:=List.find?_some b
  have a:m.members.any (fun p=>decide (p.1=id))=true:=List.any_eq_true.2 ⟨p,c,d⟩
  rw[a]
  have e:=((hf.mail m hm).mem.each p c).2.1
  exact decide_eq_true (by show 0 < p.2;omega)
end Go.Proofs.YtfhlhdmhgheonaaGreatDoor
namespace Go.Proofs.YtfhlhdmhgheonaaGreatDoor
open Go.Shelf Go.RowKit
attribute [local go_sem ↓] Go.wp_at_zero Go.wp_at_succ
def uh (w:World)(g:Nat)(q:zl)(r:Acc×Int)(e:Ending)(w':World):Prop:=e=.returned (.int .i64 r.2)∧∃q',ze w w' g q r.1 q'
theorem Z9 {P:Program}{w:World}{ops:Array Oper}{o:Oper}{a:Act}{K:Act→World→Prop}{Q:Exit→Act→World→Prop}{E:Prop}(hgd:o.guard=none)(s x:Operand)(t:TypeId)(ho:o.op=.call {callee:=.builtin .append,args:=#[s,x],argTypes:=#[t,t]}){e:TypeId}{i:TypeInfo}{z:Value}{size bytes:Nat}(ht:P.underlying t=some (.slice e))(hi:P.info? e=some i)(hz:i.zero=some z)(hsize:i.size=size)(hby:i.bytes=bytes)(hzs:z.cells.size=size)(hsz:0 < size){b off cap n:Nat}{h:Option Nat}{xs:List Value}(hsl:Sl w e size (.slice (some ⟨b,off,none⟩) n cap) h n xs)(h1:∀u∈xs,u.oneCell'=true)(k:Nat)(hk:k < n)(hs:a.eval s=.slice (some ⟨b,off,none⟩) k k)(hx:a.eval x=.slice (if cap=k+1 then some ⟨b,off,none⟩ else some ⟨b,off+(k+1) * size,none⟩) (n - (k+1)) (cap - (k+1)))(h63:n≤maxLen)(hbytes:n * bytes≤140737488355328)(hK:∀v' h' w',Sl w' e size v' h' (n - 1) (xs.take (k * size)++xs.drop ((k+1) * size))→Chg h.toList w w'→(h'=h∨∃g,h'=some g∧w.heap.size≤g)→K (a.put o.dst v') w') :
  if Region.wanted o (yielded ops a.tmps)=true then Oper.wp P o a w K Q else E:=by
 have C:Region.wanted o (yielded ops a.tmps)=true:=by simp[Region.wanted,hgd]
 rw[if_pos C]
 have d:=hsl.1
 obtain⟨I,y,A,J,B,G,_,_,p⟩:=hsl.at_ (by omega)
 simp only[Value.slice.injEq,Option.some.injEq,Addr.mk.injEq,and_true,true_and] at B
 obtain⟨⟨rfl,rfl⟩,rfl⟩:=B
 have q:(k+1) * size≤n * size:=Nat.mul_le_mul_right _ hk
 have f:k+(n - (k+1))=n - 1:=by omega
 have c:∀v' h' w',Sl w' e size v' h' (k+(n - (k+1))) (xs.take (k * size)++xs.drop ((k+1) * size))→Chg h.toList w w'→(h'=h∨∃g,h'=some g∧w.heap.size≤g)→K (a.put o.dst v') w':=fun v' h' w' r1 r2 r3=>hK v' h' w' (by rw[f] at r1;exact r1) r2 r3
 have l:(k+(n - (k+1))) * bytes≤140737488355328:=by rw[f];exact Nat.le_trans (Nat.mul_le_mul_right _ (by omega)) hbytes
 have r:(xs.drop ((k+1) * size)).length=(n - (k+1)) * size:=by rw[List.length_drop,d,Nat.sub_mul]
 by_cases v:cap=k+1
 ·rw[if_pos v] at hx
  have m:n=k+1:=by omega
  have D:xs.drop ((k+1) * size)=[]:=List.drop_of_length_le (by rw[d,m];exact Nat.le_refl _)
  exact Yl s x t ho ht hi hz hsize hby hzs hsz (hsl.pre k (by omega)) hs _ _ _ (xs.drop ((k+1) * size)) hx r (fun j u hu=>by rw[D] at hu;simp at hu) (fun u hu=>h1 u (List.mem_of_mem_drop hu)) (by omega) l c
 ·rw[if_neg v] at hx
  exact Yl s x t ho ht hi hz hsize hby hzs hsz (hsl.pre k (by omega)) hs _ _ _ (xs.drop ((k+1) * size)) hx r (fun j u hu=>by
   rw[List.getElem?_drop] at hu
   have H:=(List.getElem?_eq_some_iff.1 hu).1
   have F:=(p ((k+1) * size+j) (by omega)).1
   rw[Addr.add_lit,Nat.add_assoc,F]
   exact hu) (fun u hu=>h1 u (List.mem_of_mem_drop hu)) (by omega) l c
theorem zdn (l:List yg):∀u∈zk xQ l,u.oneCell'=true:=by
 intro u b
 obtain⟨m,_,a⟩:=List.mem_flatMap.1 b
 simp only[xQ,List.mem_cons,List.not_mem_nil,or_false] at a
 rcases a with rfl|rfl|rfl|rfl|rfl|rfl
 all_goals rfl
theorem zc1 (w:World)(g:Nat)(q:zl)(x:Acc)(id:Int)(h:zi w g q x)(hf:Fit x) :
  Calls Tryz.prog 49 #[.pointer (some ⟨g,0,none⟩),.int .i64 id] w (uh w g q (xW x id)):=by
 obtain⟨i0,hi,bu,bv,bw⟩:=info_parts Try.infoBox
 have ak:=hf.clock
 have al:=hf.cfg.mod
 have Q:=hf.nb
 have R:=hf.nm
 have C:=xR id x.boxes
 have d:=Zb q.vb [] x.boxes id w (h.boxes.reads [] (by simp)) (by omega)
 obtain⟨Ab,cb,A,_,_⟩:=h.boxes.form
 obtain⟨Am,cm,Y,_,_⟩:=h.mails.form
 have S:w.cell? ⟨g,10,none⟩=some (.slice Ab x.boxes.length cb):=by rw[←A];exact h.zQ
 have l:∀W,Below w.heap.size w W→W.cell? ⟨g,11,none⟩=some (.slice Am x.mails.length cm):=fun W hb=>by rw[←Y];exact(h.later hb).zU
 have a9:=fun W (hb:Below w.heap.size w W)=>uI W g q x (h.later hb) hf
 rw[A] at d
 obtain⟨r,B⟩:∃r,yx id x.boxes=r:=⟨_,rfl⟩
 rw[B] at d C
 have T:zu x.boxes id=false→xW x id=(x,6):=fun h0=>by
  unfold xW
  rw[if_pos h0]
 have U:zu x.boxes id=true→id=1→xW x id=(x,1):=fun h0 n=>by
  unfold xW
  rw[if_neg (by rw[h0];decide),if_pos n]
 have D:zu x.boxes id=true→¬id=1→xW x id=(if (x.boxes.any (fun b=>decide (b.parent=id))||x.mails.any (fun m=>xZ m id))=true then (x,10)
  else if x.ends=true then (x,11) else ({x with clock:=x.clock+1,boxes:=x.boxes.eraseIdx (yx id x.boxes).toNat,log:=x.log.add [⟨x.clock+1,1,id,3⟩]},0)):=fun h0 n=>by
  unfold xW
  rw[if_neg (by rw[h0];decide),if_neg n]
 obtain⟨rr,ad⟩:∃rr,xW x id=rr:=⟨_,rfl⟩
 rw[ad] at T U D ⊢
 rw[B] at D
 obtain⟨nb,J⟩:∃nb,x.boxes.length=nb:=⟨_,rfl⟩
 obtain⟨nm,Z⟩:∃nm,x.mails.length=nm:=⟨_,rfl⟩
 rw[J] at d S
 simp only[Z] at l
 have c2:nb≤4294967296:=by omega
 have c3:nm≤4294967296:=by omega
 have az:=zdG A
 have bj:=zdG Y
 have E:=zdG J
 have a':=zdG Z
 have HS:=zdG h
 have HF:=zdG hf
 have bk:=zdG a9
 have b0:=zdG l
 have c9:=zdG B
 cases hh:zu x.boxes id with
 |false=>
  have HR:=zdG (T hh)
  rw[hh] at C
  have aa:r < 0:=by simpa using C
  clear ad B J Z A Y h hf a9 l T U D C hh ak al Q R
  go_enter Tryz.func49,Tryz.ntmps49
  go_wp2_with (first
   |(go_at_call 85;refine d.mono ?_;rintro e w3 ⟨rfl,rfl⟩;clear d)
   |fail)
  go_ret
  rw[HR.out]
  exact⟨rfl,q,ze.refl HS.out⟩
 |true=>
 obtain⟨i,bd,e1,y1,y2,y3,y4⟩:=Zy ((yU x.boxes id).1 hh)
 clear y1 y2 y3 y4
 rw[B] at e1
 subst e1
 have b2:i < nb:=by omega
 have ca:¬(i:Int) < 0:=by omega
 by_cases n:id=1
 ·have HR:=zdG (U hh n)
  have hq:(id==1)=true:=by simpa using n
  clear ad B J Z A Y h hf a9 l T U D C hh ak al Q R n bd
  go_enter Tryz.func49,Tryz.ntmps49
  go_wp2_with (first
   |(go_at_call 85;refine d.mono ?_;rintro e w3 ⟨rfl,rfl⟩;clear d)
   |fail)
  go_ret
  rw[HR.out]
  exact⟨rfl,q,ze.refl HS.out⟩
 have HR:=zdG (D hh n)
 have hq:(id==1)=false:=by simpa using n
 have F:Sl w 89 6 (.slice Ab nb cb) q.hb nb (zk xQ x.boxes):=by
  rw[←J,←A]
  exact h.boxes
 have bl:=zdG F
 clear ad B J Z A Y h hf a9 l T U D C hh ak al Q R n bd F
 go_enter Tryz.func49,Tryz.ntmps49
 go_upto_block 0 with(first
  |(go_at_call 85;refine d.mono ?_;rintro e w3 ⟨rfl,rfl⟩;clear d)
  |fail)
 go_cut [] (fun wx=>Hid (∀t (ht:t < x.boxes.length),x.boxes[t].parent≠id)∧Hid (wx=w))
 case first=>
  go_wp2_with fail
  go_loop [6] (fun iv=>∃k:Nat,k≤nb∧iv=.int .i64 k∧Hid (∀t (ht:t < x.boxes.length),t < k→x.boxes[t].parent≠id)) (fun iv=>nb - (intOf iv).toNat)
  case atStart=>exact⟨0,Nat.zero_le _,rfl,zdG (fun _ _ h=>by omega)⟩
  case round=>
   obtain⟨k,hk,rfl,O⟩:=hrel
   by_cases aa:k < nb
   ·have V:(k:Int) < (nb:Int):=by omega
    have bm:(0:Int)≤(k:Int):=by omega
    have G:k < x.boxes.length:=by rw[E.out];exact aa
    have bn:IntKind.i64.wrap ((k:Int)+1)=(k:Int)+1:=IntWalk.i64_in _ (by omega)
    obtain⟨K,L,c1,_,s,_,_,_,v⟩:=bl.out.at_ (by omega)
    have e1:=(Value.slice.inj s).1
    subst e1
    obtain⟨y,hy⟩:∃y,x.boxes[k].parent=y:=⟨_,rfl⟩
    have d2:w.cell? ⟨K,L+k * 6+2,none⟩=some (.int .i64 y):=by
     rw[←hy,Nat.add_assoc,(v (k * 6+2) (by omega)).1,zy zT x.boxes k 2 G (by omega)]
     rfl
    have b3:=zdG hy
    clear v s hy
    by_cases I:y=id
    ·have f1:(y==id)=true:=by simpa using I
     have HE:Hid (rr=(x,10)):=zdG (by
      rw[HR.out,if_pos]
      rw[Bool.or_eq_true_iff]
      exact .inl (List.any_eq_true.2 ⟨x.boxes[k],List.getElem_mem G,by rw[b3.out,I];simp⟩))
     clear I
     go_wp2_with fail
     go_ret
     rw[HE.out]
     exact⟨rfl,q,ze.refl HS.out⟩
    ·have f1:(y==id)=false:=by simpa using I
     have X:Hid (∀t (ht:t < x.boxes.length),t < k+1→x.boxes[t].parent≠id):=zdG (fun t ht h=>by
      by_cases au:t < k
      ·exact O.out t ht au
      ·obtain rfl:t=k:=by omega
       rw[b3.out]
       exact I)
     clear I
     go_wp2_with fail
     refine⟨?_,by simp[intOf];omega⟩
     first|exact⟨k+1,by omega,by go_num,X⟩|((repeat apply Exists.intro);exact⟨⟨k+1,by omega,by go_num,X⟩,rfl⟩)
   ·have V:¬(k:Int) < (nb:Int):=by omega
    have HE:Hid (∀t (ht:t < x.boxes.length),x.boxes[t].parent≠id):=zdG (fun t ht=>O.out t ht (by rw[E.out] at ht;omega))
    go_wp2_with fail
    go_meet
    exact⟨HE,zdG rfl⟩
 case rest=>
  obtain⟨HP,HW⟩:=hcut
  obtain⟨w1,rfl⟩:∃w1:World,w1=wc:=⟨_,rfl⟩
  have H:=HR.out
  have c:x.boxes.any (fun b=>decide (b.parent=id))=false:=by
   rw[List.any_eq_false]
   intro y hy hd
   obtain⟨j,hj,rfl⟩:=List.getElem_of_mem hy
   exact HP.out j hj (by simpa using hd)
  rw[c,Bool.false_or] at H
  have ab:=zdG H
  have am:Hid (Below w.heap.size w w1):=zdG (by rw[HW.out];exact Below.refl _ _)
  clear H c HP HR HW S
  go_upto_block 2 with(fail)
  go_cut [] (fun wx=>Hid (∀t (ht:t < x.mails.length),xZ x.mails[t] id=false)∧Hid (Below w.heap.size w wx))
  case first=>
   go_wp2_with fail
   go_loopw [7] (fun iv wr=>∃k:Nat,k≤nm∧iv=.int .i64 k∧Hid (∀t (ht:t < x.mails.length),t < k→xZ x.mails[t] id=false)∧Hid (Below w.heap.size w wr)) (fun iv _=>nm - (intOf iv).toNat)
   case atStart=>exact⟨0,Nat.zero_le _,rfl,zdG (fun _ _ h=>by omega),am⟩
   case round=>
    obtain⟨k,hk,rfl,O,HB⟩:=hrel
    have cc:=b0.out wr HB.out
    by_cases aa:k < nm
    ·have V:(k:Int) < (nm:Int):=by omega
     have bm:(0:Int)≤(k:Int):=by omega
     have G:k < x.mails.length:=by rw[a'.out];exact aa
     have bn:IntKind.i64.wrap ((k:Int)+1)=(k:Int)+1:=IntWalk.i64_in _ (by omega)
     obtain⟨K,L,c1,m,s,_,be,hm,v⟩:=(HS.out.later HB.out).Vx k G
     have e1:=(Value.slice.inj (bj.out.symm.trans s)).1
     subst e1
     have b4:=(HS.out.later HB.out).parts m be
     have an:m.p∈x.mails:=by rw[hm];exact List.getElem_mem G
     have ao:=zae HF.out an id
     have b5:m.p.members.length≤1099511627776:=by
      have n:=HF.out.Jp an
      have h2:=HF.out.nb
      have h3:=HF.out.clock
      have h4:=HF.out.cfg.mod
      omega
     have hu:=fun a0 a1 a3 a6 a7 s2 vk=>U5 wr a0 a1 a3 a6 a7 s2 vk m.mv m.p.members id (b4.mem.sub (fun _ _ _ hm=>by cases hm)) b5
     have f:∀u,u < 8→wr.cell? ⟨K,L+k * 8+u,none⟩=(xP m)[u]?:=fun u hu=>(v u hu).1
     have d0:wr.cell? ⟨K,L+k * 8,none⟩=some (.int .i64 m.p.id):=f 0 (by omega)
     have d1:wr.cell? ⟨K,L+k * 8+1,none⟩=some (.int .i64 m.p.thread):=f 1 (by omega)
     have d2:wr.cell? ⟨K,L+k * 8+2,none⟩=some (.string ⟨m.p.text.toArray⟩):=f 2 (by omega)
     have d3:wr.cell? ⟨K,L+k * 8+3,none⟩=some (.int .i64 m.p.at_):=f 3 (by omega)
     have d4:wr.cell? ⟨K,L+k * 8+4,none⟩=some m.kv:=f 4 (by omega)
     have d5:wr.cell? ⟨K,L+k * 8+5,none⟩=some m.mv:=f 5 (by omega)
     have d6:wr.cell? ⟨K,L+k * 8+6,none⟩=some (.int .i64 m.p.mod):=f 6 (by omega)
     have d7:wr.cell? ⟨K,L+k * 8+7,none⟩=some (.int .i64 m.p.born):=f 7 (by omega)
     have b6:xZ x.mails[k] id=xZ m.p id:=by rw[hm]
     obtain⟨u,bf⟩:∃u,uq m.p.members id=u:=⟨_,rfl⟩
     rw[bf] at hu ao
     have b7:=zdG b6
     have b8:=zdG ao
     clear bf f v s b4 hm b5 be an b6 ao
     generalize m.p.id=m0 at d0
     generalize m.p.thread=m1 at d1
     generalize m.p.text=m2 at d2
     generalize m.p.at_=m3 at d3
     generalize m.p.mod=m6 at d6
     generalize m.p.born=m7 at d7
     generalize m.kv=m4 at d4
     generalize m.mv=m5 at d5 hu
     by_cases I:0 < u
     ·have f1:decide (0 < u)=true:=decide_eq_true I
      have HE:Hid (rr=(x,10)):=zdG (by
       rw[ab.out,if_pos]
       exact List.any_eq_true.2 ⟨x.mails[k],List.getElem_mem G,by rw[b7.out,←b8.out];exact decide_eq_true I⟩)
      clear I
      go_wp2_with (first
       |(go_at_call 84;refine(hu _ _ _ _ _ _ _).mono ?_;rintro e w4 ⟨rfl,a2⟩;have ac:=zdG (za HB.out a2);clear a2 hu)
       |fail)
      go_ret
      rw[HE.out]
      exact⟨rfl,q,ze.of_below HS.out ac.out⟩
     ·have f1:decide (0 < u)=false:=decide_eq_false I
      have X:Hid (∀t (ht:t < x.mails.length),t < k+1→xZ x.mails[t] id=false):=zdG (fun t ht h=>by
       by_cases au:t < k
       ·exact O.out t ht au
       ·obtain rfl:t=k:=by omega
        rw[b7.out,←b8.out]
        exact decide_eq_false I)
      clear I
      go_wp2_with (first
       |(go_at_call 84;refine(hu _ _ _ _ _ _ _).mono ?_;rintro e w4 ⟨rfl,a2⟩;have ac:=zdG (za HB.out a2);clear a2 hu)
       |fail)
      refine⟨?_,by simp[intOf];omega⟩
      first|exact⟨k+1,by omega,by go_num,X,ac⟩|((repeat apply Exists.intro);exact⟨⟨k+1,by omega,by go_num,X,ac⟩,rfl⟩)
    ·have V:¬(k:Int) < (nm:Int):=by omega
     have HE:Hid (∀t (ht:t < x.mails.length),xZ x.mails[t] id=false):=zdG (fun t ht=>O.out t ht (by rw[a'.out] at ht;omega))
     go_wp2_with fail
     go_meet
     exact⟨HE,HB⟩
  case rest=>
   obtain⟨HP,av⟩:=hcut
   obtain⟨w2,rfl⟩:∃w2:World,w2=wc:=⟨_,rfl⟩
   have H:=ab.out
   have c:x.mails.any (fun m=>xZ m id)=false:=by
    rw[List.any_eq_false]
    intro y hy hd
    obtain⟨j,hj,rfl⟩:=List.getElem_of_mem hy
    rw[HP.out j hj] at hd
    cases hd
   rw[c,if_neg (by decide)] at H
   have a:=bk.out _ av.out
   cases he:x.ends with
   |true=>
    rw[he] at a H
    simp only[if_true,Bool.not_true] at a H
    have ap:=zdG H
    clear H c HP ab am he
    go_wp2_with (first
     |(go_at_call 107;refine a.mono ?_;rintro e w6 ⟨rfl,a4⟩;have bo:=zdG a4;clear a a4)
     |fail)
    go_ret
    rw[ap.out]
    exact⟨rfl,q,(ze.of_below HS.out av.out).trans bo.out⟩
   |false=>
    rw[he] at a H
    simp only[Bool.false_eq_true,if_false,Bool.not_false,Int.toNat_natCast] at a H
    have ap:=zdG H
    clear H c HP ab am he
    go_upto_region 18 with(first
     |(go_at_call 107;refine a.mono ?_;rintro e w6 ⟨rfl,a4⟩;have T6:=zdG ((ze.of_below HS.out av.out).trans a4);clear a a4)
     |fail)
    have S:w6.cell? ⟨g,10,none⟩=some (.slice Ab nb cb):=by rw[←E.out,←az.out];exact T6.out.at_.zQ
    have b9:w6.frozen? ⟨g,10,none⟩=false:=T6.out.at_.frozen 10
    have F:Sl w6 89 6 (.slice Ab nb cb) q.hb nb (zk xQ x.boxes):=by
     rw[←E.out,←az.out]
     exact T6.out.at_.boxes
    obtain⟨K,L,c1,ci,s,cj,bg,ck,_⟩:=F.at_ (by omega)
    have e1:=(Value.slice.inj s)
    obtain⟨rfl,_,rfl⟩:=e1
    clear s
    have cd:(i:Int) < (nb:Int):=by omega
    have c4:(0:Int)≤(i:Int):=by omega
    have ce:IntKind.i64.wrap ((i:Int)+1)=(i:Int)+1:=IntWalk.i64_in _ (by omega)
    have cf:(i:Int)≤(cb:Int):=by omega
    have c5:(i:Int)+1≤(nb:Int):=by omega
    have c6:(0:Int)≤(i:Int)+1:=by omega
    have aq:g∉q.hb.toList:=fun hm=>T6.out.at_.apart.hb (by simpa using hm)
    have ar:g < w6.heap.size:=T6.out.at_.blk.lt
    have c7:cb≤maxLen:=bg
    have ba:nb≤maxLen:=by omega
    clear bg
    have c8:(nb:Int)≤(cb:Int):=by omega
    have ae:=zdG F
    clear F
    go_cut [] (fun wx=>∃q',Hid (ze w wx g q {x with clock:=x.clock+1,boxes:=x.boxes.eraseIdx i} q'))
    case first=>
     go_region_law (first
      |(refine Z9 (by rfl) (.tmp 66) (.tmp 73) _ (by rfl) Tryz.underlying42 hi bu bv bw rfl (by omega) (ae.out.heap (by rfl)) (zdn _) i b2 (by first|(simp[Act.eval];done)|simp[Act.eval,Act.put]) (by first|(simp[Act.eval];done)|simp[Act.eval,Act.put]) ba (by omega) ?_;intro v2 h2 w9 aw z bh;obtain⟨bx,bi,rfl,_,_⟩:=aw.form;have cg:w9.cell? ⟨g,10,none⟩=some (.slice (some ⟨K,L,none⟩) nb cb):=(z.cell (p:=⟨g,10,none⟩) ar aq).trans S;have ch:w9.frozen? ⟨g,10,none⟩=false:=(z.frozen (p:=⟨g,10,none⟩) ar aq).trans b9)
      |fail)
     all_goals
      have af:=T6.out.at_.putBoxes (x.boxes.eraseIdx i) (v':=.slice bx (nb - 1) bi) (h':=h2) (w':=w9) (by
       rw[List.length_eraseIdx_of_lt (by rw[E.out];exact b2),uY zT,E.out]
       exact aw) ⟨z.os,z.tape,z.output,z.size,z.block⟩ bh
      have ag:=zdG af
      clear af aw z bh
      go_wp2_with fail
      go_meet
      exact⟨_,zdG (T6.out.trans ag.out)⟩
      all_goals
       go_meet
       exact⟨_,zdG (T6.out.trans ag.out)⟩
    case rest=>
     obtain⟨q',M⟩:=hcut
     obtain⟨P,rfl⟩:∃P:World,P=wc:=⟨_,rfl⟩
     clear S b9 ar aq ae
     go_upto_region 19 with(fail)
     obtain⟨x3,N⟩:∃x3:Acc,x3={x with clock:=x.clock+1,boxes:=x.boxes.eraseIdx i}:=⟨_,rfl⟩
     rw[←N] at M
     have hE:∀W,Below P.heap.size P W→Calls Tryz.prog 109 #[.pointer (some ⟨g,0,none⟩),.int .i64 1,.int .i64 id,.int .i64 3] W fun e w'=>e=.returned (.agg #[.int .i64 (x.clock+1),.int .i64 1,.int .i64 id,.int .i64 3])∧Below W.heap.size W w':=fun W hb=>by
      have h0:=vK W g q' x3 1 id 3 (M.out.at_.later hb)
      rw[show x3.clock=x.clock+1 by rw[N]] at h0
      exact h0
     have hK:∀W,Below P.heap.size P W→W.cell? ⟨g,12,none⟩=some (.pointer (some ⟨q'.gl,0,none⟩)):=fun W hb=>(M.out.at_.later hb).zV
     have ah:=fun W0 (hb0:Below P.heap.size P W0) W hb=>zak (W0:=W0) (W:=W) (M.out.at_.later hb0) (by rw[N];exact HF.out.log) (by rw[N];exact HF.out.cfg.log) ⟨x.clock+1,1,id,3⟩ hb
     have O:=zdG hK
     have HE:=zdG hE
     have ai:=zdG ah
     have bp:=zdG N
     have bq:=hK P (Below.refl _ _)
     clear ah N hK hE
     go_cut [] (fun wx=>∃ay,Hid (ze w wx g q {x3 with log:=x3.log.add [⟨x.clock+1,1,id,3⟩]} ay))
     case first=>
      go_region_held3 (fun W=>W.cell? ⟨g,12,none⟩=some (.pointer (some ⟨q'.gl,0,none⟩)))
       (first
        |exact bt.out
        |exact O.out _ (za o.out (below_alloc1 _ _))
        |exact O.out _ o.out
        |exact O.out _ (Below.refl _ _)
        |exact O.out _ (zb _)
        |go_keep)
       (first
        |(go_at_call 109;refine(HE.out _ (by first|exact Below.refl _ _|exact zb _)).mono ?_;rintro e ax ⟨rfl,a5⟩;have o:Hid (Below P.heap.size P ax):=zdG (by first|exact a5|exact za (zb P) a5);have br:=O.out _ o.out;have bs:=World.new_ne ax _ br;clear a5)
        |(go_at_call 108;refine(ai.out ax o.out _ ⟨rfl,rfl,rfl,Nat.le_refl _,fun _ _=>rfl⟩).mono ?_;rintro e bz ⟨rfl,b',aj,a8⟩;have bb:=zdG a8;have bt:Hid (bz.cell? ⟨g,12,none⟩=some (.pointer (some ⟨q'.gl,0,none⟩))):=zdG (by have n:=a8.at_.zV;rw[aj] at n;exact n);clear a8 aj)
        |fail)
      all_goals
       go_wp2_with fail
       go_meet
       exact⟨b',zdG ((M.out.trans (ze.of_below M.out.at_ o.out)).trans bb.out)⟩
     case rest=>
      obtain⟨ay,c0⟩:=hcut
      obtain⟨wz,rfl⟩:∃wz:World,wz=wc:=⟨_,rfl⟩
      clear bq ai HE O
      have bc:Hid (uh w g q rr (.returned (.int .i64 0)) wz):=zdG (by
       rw[ap.out]
       refine⟨rfl,ay,?_⟩
       have n:=c0.out
       rw[bp.out] at n
       exact n)
      go_wp2_with fail
      go_ret
      exact bc.out
theorem UE (id:Int)(f k:yg→yg)(hk:∀b,(k b).id=b.id):∀(l:List yg),yE id f (yE id k l)=yE id (fun b=>f (k b)) l
 |[]=>rfl
 |b :: r=>by
  by_cases h:b.id=id
  ·have h2:(k b).id=id:=by rw[hk];exact h
   simp[yE,h,h2]
  ·simp[yE,h,UE id f k hk r]
theorem QR {l:List yg}{i:Nat}(hi:i < l.length){id:Int}(h:l[i].id=id):(l.filter fun b=>decide (b.id≠id)).length < l.length:=
 List.length_filter_lt_length_iff_exists.2 ⟨l[i],List.getElem_mem hi,by simp[h]⟩
theorem UW {w:World}{g:Nat}{q:zl}{x:Acc}(h:zi w g q x){b1 o1 n cb:Nat}(hv:q.vb=.slice (some ⟨b1,o1,none⟩) n cb)(i:Nat)(hi:i < x.boxes.length) :
  w.cell? ⟨g,10,none⟩=some (.slice (some ⟨b1,o1,none⟩) n cb)∧b1≠g∧∀j,j < 6→w.cell? ⟨b1,o1+i * 6+j,none⟩=(xQ x.boxes[i])[j]?∧w.frozen? ⟨b1,o1+i * 6+j,none⟩=false:=by
 obtain⟨b,l,m,c,d,_,_,_,f⟩:=h.Zp i hi
 have a:=Value.slice.inj (hv.symm.trans c)
 obtain⟨k,_,_⟩:=a
 simp only[Option.some.injEq,Addr.mk.injEq,and_true] at k
 obtain⟨rfl,rfl⟩:=k
 exact⟨by rw[←hv];exact h.zQ,fun e=>h.apart.hb (by rw[d,e]),f⟩
theorem QY (w:World)(g:Nat)(q:zl)(x:Acc)(id:Int)(nl:Text)(parent:Int)(h:zi w g q x)(hf:Fit x)(hbm:(x.boxes.length:Int)≤x.cfg.maxBoxes)(hn:nl.length≤1099511627776) :
  Calls Tryz.prog 47 #[.pointer (some ⟨g,0,none⟩),.int .i64 id,.string ⟨nl.toArray⟩,.int .i64 parent] w (uh w g q (zK zo x id nl parent)):=by
 have b5:=hf.clock
 have b6:=hf.cfg.mod
 have ah:=hf.nb
 have aa:=xR id x.boxes
 have k:=xR parent x.boxes
 have a1:=fun W (hb:Below w.heap.size w W) j=>Zb q.vb [] x.boxes j W ((h.later hb).boxes.reads [] (by simp)) (by omega)
 have p:=Uu ⟨nl.toArray⟩ (by show nl.toArray.size≤_;simp;omega) w
 rw[show zo (⟨nl.toArray⟩:ByteArray).data.toList=zo nl from rfl] at p
 have ab:=fun W (hb:Below w.heap.size w W)=>Uk W g q x nl parent id (h.later hb) (by omega) (by omega)
 have R:=fun W (hb:Below w.heap.size w W)=>zbj q.vb [] x.boxes parent id W ((h.later hb).boxes.reads [] (by simp)) (by omega)
 have ap:=fun W (hb:Below w.heap.size w W)=>uI W g q x (h.later hb) hf
 obtain⟨Ab,cb,a4,_,_⟩:=h.boxes.form
 have s:∀W,Below w.heap.size w W→W.cell? ⟨g,10,none⟩=some (.slice Ab x.boxes.length cb):=fun W hb=>by rw[←a4];exact(h.later hb).zQ
 have aq:=s w (Below.refl _ _)
 have a:=a1 w (Below.refl _ _) id
 simp only[a4] at a1 a R
 cases hh:zu x.boxes id with
 |false=>
  have ai:zK zo x id nl parent=(x,6):=by
   unfold zK
   rw[show x.boxes.find? (fun b=>decide (b.id=id))=none from List.find?_eq_none.2 (fun b hb hd=>by
    have:=List.any_eq_false.1 hh b hb
    exact this hd)]
  rw[ai]
  rw[hh] at aa
  have b7:yx id x.boxes < 0:=by simpa using aa
  obtain⟨r,Y⟩:∃r,yx id x.boxes=r:=⟨_,rfl⟩
  rw[Y] at a b7
  obtain⟨nb,Z⟩:∃nb,x.boxes.length=nb:=⟨_,rfl⟩
  rw[Z] at a aq
  have HS:=zdG h
  clear ai aa k hh h hf hbm a1 ab R ap s a4 p b5 b6 ah Y Z
  go_enter Tryz.func47,Tryz.ntmps47
  go_wp2_with (first
   |(go_at_call 85;refine a.mono ?_;rintro e w3 ⟨rfl,rfl⟩;clear a)
   |fail)
  go_ret
  exact⟨rfl,q,ze.refl HS.out⟩
 |true=>
 obtain⟨i,bh,e1,y1,_,y3,y4⟩:=Zy ((yU x.boxes id).1 hh)
 rw[e1] at a
 have m:zo nl=true→¬id=1→¬(parent≠0∧zu x.boxes parent=false)→zK zo x id nl parent=(if ZB x nl parent id=true then (x,5) else if xU x.boxes id (x.boxes.length+1) parent=true then (x,10) else if x.boxes[i].name=nl∧x.boxes[i].parent=parent then (x,0) else if x.ends=true then (x,11) else ({x with clock:=x.clock+1,boxes:=((x.boxes.set i {x.boxes[i] with name:=nl}).set i {x.boxes[i] with name:=nl,parent:=parent}).set i {x.boxes[i] with name:=nl,parent:=parent,mod:=x.clock+1},log:=x.log.add [⟨x.clock+1,1,id,2⟩]},0)):=fun h1 h2 h3=>by
  have c5:=QR bh y1
  unfold zK
  simp only[y4]
  rw[if_neg (by rw[h1];simp[h2]),Uy x nl parent id h3]
  have b8:¬x.cfg.maxBoxes≤((x.boxes.filter fun b=>decide (b.id≠id)).length:Int):=by omega
  rw[if_neg b8]
  have b9:zf (x.clock+1) [id] (yE id (fun b=>{b with name:=nl,parent:=parent}) x.boxes)=((x.boxes.set i {x.boxes[i] with name:=nl}).set i {x.boxes[i] with name:=nl,parent:=parent}).set i {x.boxes[i] with name:=nl,parent:=parent,mod:=x.clock+1}:=by
   show yE id (fun b=>{b with mod:=x.clock+1}) (yE id (fun b=>{b with name:=nl,parent:=parent}) x.boxes)=_
   rw[UE id (fun b=>{b with mod:=x.clock+1}) (fun b=>{b with name:=nl,parent:=parent}) (fun _=>rfl),y3,List.set_set,List.set_set]
  rw[b9]
  by_cases ht:ZB x nl parent id=true
  ·simp[ht]
  ·simp[ht,zn]
 have M:(zo nl=false∨id=1)→zK zo x id nl parent=(x,1):=fun h1=>by
  unfold zK
  simp only[y4]
  rw[if_pos h1]
 have N:zo nl=true→¬id=1→(parent≠0∧zu x.boxes parent=false)→zK zo x id nl parent=(x,6):=fun h1 h2 h3=>by
  unfold zK
  simp only[y4]
  rw[if_neg (by rw[h1];simp[h2]),yG,if_pos h3]
  simp
 obtain⟨rr,bi⟩:∃rr,zK zo x id nl parent=rr:=⟨_,rfl⟩
 rw[bi] at m M N ⊢
 obtain⟨r,Y⟩:∃r,yx parent x.boxes=r:=⟨_,rfl⟩
 have O:=fun W (hb:Below w.heap.size w W)=>a1 W hb parent
 rw[Y] at k
 simp only[Y] at O
 obtain⟨tw,al⟩:∃tw,ZB x nl parent id=tw:=⟨_,rfl⟩
 simp only[al] at ab m
 obtain⟨un,am⟩:∃un,xU x.boxes id (x.boxes.length+1) parent=un:=⟨_,rfl⟩
 simp only[am] at R m
 obtain⟨y,hy⟩:∃y,x.boxes[i]=y:=⟨_,rfl⟩
 simp only[hy] at m
 obtain⟨nb,Z⟩:∃nb,x.boxes.length=nb:=⟨_,rfl⟩
 have c6:i < nb:=by omega
 have c3:nb≤4294967296:=by omega
 simp only[Z] at a O s R aq
 obtain⟨ru,bj⟩:∃ru,zo nl=ru:=⟨_,rfl⟩
 simp only[bj] at p m M N
 have c7:¬(i:Int) < 0:=by omega
 have c8:(i:Int) < (nb:Int):=by omega
 have c4:(0:Int)≤(i:Int):=by omega
 have bk:=zdG a4
 have bl:=zdG Z
 have HY:=zdG hy
 have ar:=zdG bh
 have HS:=zdG h
 have HF:=zdG hf
 have au:=zdG O
 have ba:=zdG ab
 have bb:=zdG R
 have bm:=zdG ap
 have t:=zdG s
 have u:=zdG m
 have z:=zdG M
 have A:=zdG N
 clear bi Y al am Z a4 h hf hbm a1 O ab R ap s m M N bj b5 b6 ah aa y1 y3 y4 e1 hh
 by_cases P:ru=false∨id=1
 ·have G:=zdG (z.out P)
  rcases P with hb|hb
  ·subst hb
   clear u A z
   go_enter Tryz.func47,Tryz.ntmps47
   go_wp2_with (first
    |(go_at_call 85;refine a.mono ?_;rintro e w3 ⟨rfl,rfl⟩;clear a)
    |(go_at_call 105;refine p.mono ?_;rintro e w2 ⟨rfl,c⟩;have n:=zdG c;clear c)
    |fail)
   go_ret
   rw[G.out]
   exact⟨rfl,q,ze.of_below HS.out n.out⟩
  ·have hq:(id==1)=true:=by simpa using hb
   clear u A z hb
   cases ru with
   |false=>
    go_enter Tryz.func47,Tryz.ntmps47
    go_wp2_with (first
     |(go_at_call 85;refine a.mono ?_;rintro e w3 ⟨rfl,rfl⟩;clear a)
     |(go_at_call 105;refine p.mono ?_;rintro e w2 ⟨rfl,c⟩;have n:=zdG c;clear c)
     |fail)
    go_ret
    rw[G.out]
    exact⟨rfl,q,ze.of_below HS.out n.out⟩
   |true=>
    go_enter Tryz.func47,Tryz.ntmps47
    go_wp2_with (first
     |(go_at_call 85;refine a.mono ?_;rintro e w3 ⟨rfl,rfl⟩;clear a)
     |(go_at_call 105;refine p.mono ?_;rintro e w2 ⟨rfl,c⟩;have n:=zdG c;clear c)
     |fail)
    go_ret
    rw[G.out]
    exact⟨rfl,q,ze.of_below HS.out n.out⟩
 obtain⟨an,D⟩:=not_or.1 P
 have bc:ru=true:=by simpa using an
 subst bc
 have hq:(id==1)=false:=by simpa using D
 clear P an
 by_cases hA:parent≠0∧zu x.boxes parent=false
 ·have G:=zdG (A.out rfl D hA)
  rw[hA.2] at k
  have hp:(parent !=0)=true:=by simpa using hA.1
  have b7:r < 0:=by simpa using k
  clear u A z hA k D
  go_enter Tryz.func47,Tryz.ntmps47
  go_wp2_with (first
   |(go_at_call 105;refine p.mono ?_;rintro e w2 ⟨rfl,c⟩;have n:=zdG c;have d:=t.out _ c;have K:=au.out _ c;clear c)
   |(go_at_call 85;(with_reducible refine a.mono ?_);rintro e w3 ⟨rfl,rfl⟩;clear a)
   |(go_at_call 85;(with_reducible refine K.mono ?_);rintro e w3 ⟨rfl,rfl⟩;clear K)
   |fail)
  go_ret
  rw[G.out]
  exact⟨rfl,q,ze.of_below HS.out n.out⟩
 have bd:parent=0∨(¬parent=0∧0≤r):=by
  by_cases hp:parent=0
  ·exact .inl hp
  ·have h2:zu x.boxes parent=true:=by
    cases hh:zu x.boxes parent with
    |true=>rfl
    |false=>exact absurd ⟨hp,hh⟩ hA
   rw[h2] at k
   have h3:¬r < 0:=by simpa using k
   exact .inr ⟨hp,by omega⟩
 have G:=zdG (u.out rfl D hA)
 clear u A z hA k D
 go_enter Tryz.func47,Tryz.ntmps47
 go_upto_region 6 with(first
  |(go_at_call 85;refine a.mono ?_;rintro e w3 ⟨rfl,rfl⟩;clear a)
  |(go_at_call 105;refine p.mono ?_;rintro e w2 ⟨rfl,c⟩;have n:=zdG c;have d:=t.out _ c;have K:=au.out _ c;clear c)
  |fail)
 go_cut [27] (fun v wx=>v=.bool false∧Hid (Below w.heap.size w wx))
 case first=>
  rcases bd with hp|⟨hp,hr⟩
  ·subst hp
   go_wp2_with fail
   go_meet
   exact⟨rfl,n⟩
  ·have c9:(parent !=0)=true:=by simpa using hp
   have ca:¬r < 0:=by omega
   go_wp2_with (first
    |(go_at_call 85;refine K.mono ?_;rintro e w3 ⟨rfl,rfl⟩;clear K)
    |fail)
   go_meet
   exact⟨by rw[decide_eq_false (Int.not_lt.2 hr)],n⟩
 case rest=>
  obtain⟨rfl,af⟩:=hcut
  obtain⟨w3,rfl⟩:∃w3:World,w3=wc:=⟨_,rfl⟩
  have S:=ba.out _ af.out
  clear bd au ba d K n aq
  cases tw with
  |true=>
   go_wp2_with (first
    |(go_at_call 106;refine S.mono ?_;rintro e w4 ⟨rfl,E⟩;have o:=zdG (za af.out E);clear E S)
    |fail)
   go_ret
   rw[G.out]
   exact⟨rfl,q,ze.of_below HS.out o.out⟩
  |false=>
  cases un with
  |true=>
   go_wp2_with (first
    |(go_at_call 106;refine S.mono ?_;rintro e w4 ⟨rfl,E⟩;have o:=zdG (za af.out E);have d:=t.out _ o.out;have a2:=bb.out _ o.out;clear E S)
    |(go_at_call 112;refine a2.mono ?_;rintro e w5 ⟨rfl,a5⟩;have B:=zdG (za o.out a5);clear a5 a2)
    |fail)
   go_ret
   rw[G.out]
   exact⟨rfl,q,ze.of_below HS.out B.out⟩
  |false=>
  go_upto_region 12 with(first
   |(go_at_call 106;refine S.mono ?_;rintro e w4 ⟨rfl,E⟩;have o:=zdG (za af.out E);have d:=t.out _ o.out;have a2:=bb.out _ o.out;clear E S)
   |(go_at_call 112;refine a2.mono ?_;rintro e w5 ⟨rfl,a5⟩;have B:=zdG (za o.out a5);clear a5 a2 d)
   |fail)
  have d:=t.out _ B.out
  obtain⟨b1,o1,c1,ag,cc,_,_,K,a6⟩:=(HS.out.later B.out).Zp i ar.out
  have bn:=Value.slice.inj (bk.out.symm.trans ag)
  obtain⟨rfl,_,rfl⟩:=bn
  obtain⟨H,yn,L,I,J,Q⟩:=y
  have d1:w5.cell? ⟨b1,o1+i * 6+1,none⟩=some (.string ⟨yn.toArray⟩):=by
   have:=(a6 1 (by omega)).1
   rw[HY.out] at this
   exact this
  have d2:w5.cell? ⟨b1,o1+i * 6+2,none⟩=some (.int .i64 L):=by
   have:=(a6 2 (by omega)).1
   rw[HY.out] at this
   exact this
  have T:=G.out
  simp only[Bool.false_eq_true,if_false] at T
  clear a6 G
  rw[bl.out] at ag
  have U:=zdG ag
  clear ag
  have l:=bm.out _ B.out
  go_cut [53] (fun v wx=>v=.bool (decide (yn=nl∧L=parent))∧Hid (wx=w5))
  case first=>
   by_cases ad:yn=nl
   ·have f1:(yn==nl)=true:=by simpa using ad
    by_cases ae:L=parent
    ·have f2:(L==parent)=true:=by simpa using ae
     go_wp2_with fail
     go_meet
     exact⟨by simp[ad,ae],zdG rfl⟩
    ·have f2:(L==parent)=false:=by simpa using ae
     go_wp2_with fail
     go_meet
     exact⟨by simp[ae],zdG rfl⟩
   ·have f1:(yn==nl)=false:=by simpa using ad
    go_wp2_with fail
    go_meet
    exact⟨by simp[ad],zdG rfl⟩
  case rest=>
   obtain⟨rfl,HW⟩:=hcut
   obtain⟨w6,rfl⟩:∃w6:World,w6=wc:=⟨_,rfl⟩
   have bo:=HW.out
   subst bo
   by_cases f:yn=nl∧L=parent
   ·rw[if_pos f] at T
    rw[decide_eq_true f]
    have G:=zdG T
    clear T f
    go_wp2_with fail
    go_ret
    rw[G.out]
    exact⟨rfl,q,ze.of_below HS.out B.out⟩
   rw[if_neg f] at T
   rw[decide_eq_false f]
   clear f d1 d2 d
   cases he:x.ends with
   |true=>
    rw[he] at l T
    simp only[if_true,Bool.not_true] at l T
    have G:=zdG T
    clear T he
    go_wp2_with (first
     |(go_at_call 107;refine l.mono ?_;rintro e w7 ⟨rfl,a7⟩;have bp:=zdG a7;clear l a7)
     |fail)
    go_ret
    rw[G.out]
    exact⟨rfl,q,(ze.of_below HS.out B.out).trans bp.out⟩
   |false=>
    rw[he] at l T
    simp only[Bool.false_eq_true,if_false,Bool.not_false] at l T
    have G:=zdG T
    clear T he
    go_upto_region 16 with(first
     |(go_at_call 107;refine l.mono ?_;rintro e w7 ⟨rfl,a7⟩;have T6:=zdG ((ze.of_below HS.out B.out).trans a7);clear l a7)
     |fail)
    have av:i < x.boxes.length:=ar.out
    have hy:x.boxes[i]=⟨H,yn,L,I,J,Q⟩:=HY.out
    have bq:=UW T6.out.at_ U.out i av
    obtain⟨d,cd,F⟩:=bq
    obtain⟨v1,f1⟩:=F 1 (by omega)
    simp only[hy] at v1
    have br:w7.cell? ⟨b1,o1+i * 6+1,none⟩=some (.string ⟨yn.toArray⟩):=v1
    clear v1 F
    go_upto_region 17 with(fail)
    obtain⟨wa,a'⟩:∃wa:World,wa=w7.setCell ⟨b1,o1+i * 6+1,none⟩ (.string ⟨nl.toArray⟩):=⟨_,rfl⟩
    rw[←a']
    have aw:ze w wa g q {x with clock:=x.clock+1,boxes:=x.boxes.set i ⟨H,nl,L,I,J,Q⟩} q:=by
     rw[a']
     exact T6.out.trans (T6.out.at_.yw U.out i av 1 (by omega) (.string ⟨nl.toArray⟩) ⟨H,nl,L,I,J,Q⟩ (by show _=(xQ x.boxes[i]).set 1 _;rw[hy];rfl))
    clear a' d f1 br
    have ac:i < (x.boxes.set i ⟨H,nl,L,I,J,Q⟩).length:=by rw[List.length_set];exact ar.out
    obtain⟨d,_,F⟩:=UW aw.at_ U.out i ac
    obtain⟨v2,f2⟩:=F 2 (by omega)
    simp only[List.getElem_set_self] at v2
    have bs:wa.cell? ⟨b1,o1+i * 6+2,none⟩=some (.int .i64 L):=v2
    have ax:=zdG aw
    clear v2 F aw
    go_upto_region 18 with(fail)
    obtain⟨wb,b0⟩:∃wb:World,wb=wa.setCell ⟨b1,o1+i * 6+2,none⟩ (.int .i64 parent):=⟨_,rfl⟩
    rw[←b0]
    have V:ze w wb g q {x with clock:=x.clock+1,boxes:=(x.boxes.set i ⟨H,nl,L,I,J,Q⟩).set i ⟨H,nl,parent,I,J,Q⟩} q:=by
     rw[b0]
     exact ax.out.trans (ax.out.at_.yw U.out i ac 2 (by omega) (.int .i64 parent) ⟨H,nl,parent,I,J,Q⟩ (by simp only[List.getElem_set_self];rfl))
    clear b0 d f2 bs ax T6
    have ay:i < ((x.boxes.set i ⟨H,nl,L,I,J,Q⟩).set i ⟨H,nl,parent,I,J,Q⟩).length:=by rw[List.length_set];exact ac
    obtain⟨d,_,F⟩:=UW V.at_ U.out i ay
    obtain⟨v5,f5⟩:=F 5 (by omega)
    simp only[List.getElem_set_self] at v5
    have bt:wb.cell? ⟨b1,o1+i * 6+5,none⟩=some (.int .i64 Q):=v5
    have k9:wb.cell? ⟨g,9,none⟩=some (.int .i64 (x.clock+1)):=V.at_.yo
    have be:ze w (wb.drew.setCell ⟨b1,o1+i * 6+5,none⟩ (.int .i64 (x.clock+1))) g q {x with clock:=x.clock+1,boxes:=((x.boxes.set i ⟨H,nl,L,I,J,Q⟩).set i ⟨H,nl,parent,I,J,Q⟩).set i ⟨H,nl,parent,I,J,x.clock+1⟩} q:=
     (V.trans (ze.of_below V.at_ (zb wb))).trans ((V.at_.later (zb wb)).yw U.out i ay 5 (by omega) (.int .i64 (x.clock+1)) ⟨H,nl,parent,I,J,x.clock+1⟩ (by simp only[List.getElem_set_self];rfl))
    have X:=zdG be
    obtain⟨ck,b2⟩:∃ck,x.clock+1=ck:=⟨_,rfl⟩
    have bu:=zdG b2
    rw[b2] at k9
    clear v5 F V be b2 ac ay hy av
    go_cut [] (fun wx=>Hid (wx=wb.drew.setCell ⟨b1,o1+i * 6+5,none⟩ (.int .i64 ck)))
    case first=>
     go_region_held3 (fun W=>W.cell? ⟨g,10,none⟩=some (.slice (some ⟨b1,o1,none⟩) nb cb)∧W.cell? ⟨g,9,none⟩=some (.int .i64 ck)) (go_keep) (fail)
     all_goals
      go_wp2_with fail
      go_meet
      exact zdG rfl
    case rest=>
     obtain⟨wf,rfl⟩:∃wf:World,wf=wc:=⟨_,rfl⟩
     have az:=hcut.out
     rw[←bu.out] at az
     rw[←az] at X
     clear az hcut d k9 bt f5
     obtain⟨x3,a0⟩:∃x3:Acc,x3={x with clock:=x.clock+1,boxes:=((x.boxes.set i ⟨H,nl,L,I,J,Q⟩).set i ⟨H,nl,parent,I,J,Q⟩).set i ⟨H,nl,parent,I,J,x.clock+1⟩}:=⟨_,rfl⟩
     rw[←a0] at X
     have a3:=X
     clear X
     go_upto_region 19 with(fail)
     have hE:∀W,Below wf.heap.size wf W→Calls Tryz.prog 109 #[.pointer (some ⟨g,0,none⟩),.int .i64 1,.int .i64 id,.int .i64 2] W fun e w'=>e=.returned (.agg #[.int .i64 (x.clock+1),.int .i64 1,.int .i64 id,.int .i64 2])∧Below W.heap.size W w':=fun W hb=>by
      have h0:=vK W g q x3 1 id 2 (a3.out.at_.later hb)
      rw[show x3.clock=x.clock+1 by rw[a0]] at h0
      exact h0
     have hK:∀W,Below wf.heap.size wf W→W.cell? ⟨g,12,none⟩=some (.pointer (some ⟨q.gl,0,none⟩)):=fun W hb=>(a3.out.at_.later hb).zV
     have aj:=fun W0 (hb0:Below wf.heap.size wf W0) W hb=>zak (W0:=W0) (W:=W) (a3.out.at_.later hb0) (by rw[a0];exact HF.out.log) (by rw[a0];exact HF.out.cfg.log) ⟨x.clock+1,1,id,2⟩ hb
     have HK:=zdG hK
     have HE:=zdG hE
     have ak:=zdG aj
     have bv:=zdG a0
     have bw:=hK wf (Below.refl _ _)
     clear aj a0 hK hE
     go_cut [] (fun wx=>∃b4,Hid (ze w wx g q {x3 with log:=x3.log.add [⟨x.clock+1,1,id,2⟩]} b4))
     case first=>
      go_region_held3 (fun W=>W.cell? ⟨g,12,none⟩=some (.pointer (some ⟨q.gl,0,none⟩)))
       (first
        |exact b'.out
        |exact HK.out _ (za C.out (below_alloc1 _ _))
        |exact HK.out _ C.out
        |exact HK.out _ (Below.refl _ _)
        |exact HK.out _ (zb _)
        |go_keep)
       (first
        |(go_at_call 109;refine(HE.out _ (by first|exact Below.refl _ _|exact zb _)).mono ?_;rintro e b3 ⟨rfl,a8⟩;have C:Hid (Below wf.heap.size wf b3):=zdG (by first|exact a8|exact za (zb wf) a8);have bx:=HK.out _ C.out;have bz:=World.new_ne b3 _ bx;clear a8)
        |(go_at_call 108;refine(ak.out b3 C.out _ ⟨rfl,rfl,rfl,Nat.le_refl _,fun _ _=>rfl⟩).mono ?_;rintro e c0 ⟨rfl,c2,ao,a9⟩;have bf:=zdG a9;have b':Hid (c0.cell? ⟨g,12,none⟩=some (.pointer (some ⟨q.gl,0,none⟩))):=zdG (by have h1:=a9.at_.zV;rw[ao] at h1;exact h1);clear a9 ao)
        |fail)
      all_goals
       go_wp2_with fail
       go_meet
       exact⟨c2,zdG ((a3.out.trans (ze.of_below a3.out.at_ C.out)).trans bf.out)⟩
     case rest=>
      obtain⟨b4,X⟩:=hcut
      obtain⟨wz,rfl⟩:∃wz:World,wz=wc:=⟨_,rfl⟩
      clear bw ak HE HK
      have bg:Hid (uh w g q rr (.returned (.int .i64 0)) wz):=zdG (by
       rw[G.out]
       refine⟨rfl,b4,?_⟩
       have h1:=X.out
       rw[bv.out] at h1
       exact h1)
      go_wp2_with fail
      go_ret
      exact bg.out
end Go.Proofs.YtfhlhdmhgheonaaGreatDoor
