/-
  The reference's Place in plain words: which mailboxes are new, which are turned, how the members are written anew. No program in sight. The reference's Place: words, and the ways in which it refuses at once. Printed by gen_refplace.py. The walk of the reference's Place where the email and the mailboxes are there. Printed by gen_refplace.py.
-/
import Derived.Test.YtfhlhdmhgheonaaGreatDoorGRS
import Derived.Test.YtfhlhdmhgheonaaGreatDoorGE
import Derived.Test.YtfhlhdmhgheonaaGreatDoorGPA
import Derived.Test.YtfhlhdmhgheonaaGreatDoorGRA
import Derived.Test.YtfhlhdmhgheonaaGreatDoorGRD
set_option maxRecDepth 100000
set_option maxHeartbeats 8000000
namespace Go.Proofs.YtfhlhdmhgheonaaGreatDoor
theorem Xw:∀a b:List (Int×Int),a.Pairwise (fun p q=>p.1 < q.1)→b.Pairwise (fun p q=>p.1 < q.1)→(∀q,q∈a↔q∈b)→a=b
 |[],[],_,_,_=>rfl
 |[],y :: s,_,_,h=>by
  have:=(h y).2 (by simp)
  cases this
 |x :: r,[],_,_,h=>by
  have:=(h x).1 (by simp)
  cases this
 |x :: r,y :: s,ha,hb,h=>by
  rw[List.pairwise_cons] at ha hb
  have hxy:x=y:=by
   rcases List.mem_cons.1 ((h x).1 (by simp)) with e|e
   ·exact e
   ·rcases List.mem_cons.1 ((h y).2 (by simp)) with e2|e2
    ·exact e2.symm
    ·have d:=hb.1 x e
     have f:=ha.1 y e2
     omega
  subst hxy
  rw[Xw r s ha.2 hb.2 fun q=>?_]
  constructor
  ·intro c
   rcases List.mem_cons.1 ((h q).1 (List.mem_cons_of_mem _ c)) with e|e
   ·have:=ha.1 q c
    rw[e] at this
    omega
   ·exact e
  ·intro c
   rcases List.mem_cons.1 ((h q).2 (List.mem_cons_of_mem _ c)) with e|e
   ·have:=hb.1 q c
    rw[e] at this
    omega
   ·exact e
def zI (ms:List (Int×Int))(l:List Int):List Int:=l.filter fun b=>decide (uq ms b=0)
def uK (ms:List (Int×Int))(l:List Int):List Int:=(ms.map (·.1)).filter fun b=>!decide (b∈l)
def VS (ms:List (Int×Int))(bs:List yg)(b:Int):Int×Int:=(b,if uq ms b=0 then zw bs b else uq ms b)
theorem YJ (ms:List (Int×Int))(l:List Int)(k:Nat)(hk:k < l.length):zI ms (l.take (k+1))=if uq ms l[k]=0 then zI ms (l.take k)++[l[k]] else zI ms (l.take k):=by
 unfold zI
 rw[List.take_succ_eq_append_getElem hk,List.filter_append]
 by_cases h:uq ms l[k]=0
 ·simp[h]
 ·simp[h]
theorem Us (ms:List (Int×Int))(l:List Int)(k:Nat):(zI ms (l.take k)).length≤k:=by
 unfold zI
 refine Nat.le_trans (List.length_filter_le _ _) ?_
 rw[List.length_take]
 omega
theorem zbM (ms:List (Int×Int))(l:List Int)(k:Nat)(hk:k < (ms.map (·.1)).length):((ms.map (·.1)).take (k+1)).filter (fun b=>!decide (b∈l))=if (ms.map (·.1))[k]∈l then ((ms.map (·.1)).take k).filter (fun b=>!decide (b∈l)) else ((ms.map (·.1)).take k).filter (fun b=>!decide (b∈l))++[(ms.map (·.1))[k]]:=by
 rw[List.take_succ_eq_append_getElem hk,List.filter_append]
 by_cases h:(ms.map (·.1))[k]∈l
 ·rw[if_pos h,List.filter_cons_of_neg (by simp only[h,decide_true,Bool.not_true];exact Bool.false_ne_true),List.filter_nil,List.append_nil]
 ·rw[if_neg h,List.filter_cons_of_pos (by simp only[h,decide_false,Bool.not_false]),List.filter_nil]
theorem Xn {bs:List yg}{ms:List (Int×Int)}(hm:VF bs ms)(b:Int):uq ms b=0↔b∉ms.map (·.1):=by
 unfold uq
 cases a:ms.find? (fun p=>decide (p.1=b)) with
 |none=>
  simp only[true_iff]
  intro f
  obtain⟨p,g,e⟩:=List.mem_map.1 f
  have:=List.find?_eq_none.1 a p g
  simp[e] at this
 |some p=>
  have c:=List.mem_of_find?_eq_some a
  have d:p.1=b:=by simpa using List.find?_some a
  have i:=(hm.each p c).2.1
  simp only
  constructor
  ·intro e
   omega
  ·intro h
   exact absurd (List.mem_map.2 ⟨p,c,d⟩) h
theorem Qc {bs:List yg}{ms:List (Int×Int)}(hm:VF bs ms){p:Int×Int}(hp:p∈ms):uq ms p.1=p.2:=by
 unfold uq
 cases d:ms.find? (fun y=>decide (y.1=p.1)) with
 |none=>
  have:=List.find?_eq_none.1 d p hp
  simp at this
 |some y=>
  have g:=List.mem_of_find?_eq_some d
  have k:y.1=p.1:=by simpa using List.find?_some d
  have c:ms.Pairwise (fun a b=>a.1 < b.1):=by
   have:=hm.rising
   rwa [List.pairwise_map] at this
  have:y=p:=by
   obtain⟨i,e,rfl⟩:=List.getElem_of_mem g
   obtain⟨j,f,rfl⟩:=List.getElem_of_mem hp
   rcases Nat.lt_trichotomy i j with h|h|h
   ·have:=List.pairwise_iff_getElem.1 c i j e f h
    omega
   ·subst h
    rfl
   ·have:=List.pairwise_iff_getElem.1 c j i f e h
    omega
  rw[this]
theorem fresh_eq {bs:List yg}{ms:List (Int×Int)}(hm:VF bs ms)(l:List Int):l.filter (fun b=>!decide (b∈ms.map (·.1)))=zI ms l:=by
 unfold zI
 congr 1
 funext b
 have h:=Xn hm b
 by_cases a:b∈ms.map (·.1)
 ·have c:¬uq ms b=0:=fun e=>(h.1 e) a
  rw[decide_eq_true a,decide_eq_false c]
  rfl
 ·have c:uq ms b=0:=h.2 a
  rw[decide_eq_false a,decide_eq_true c]
  rfl
theorem zc6 (a b:List Int):rise (a++b)=rise (b++a):=by
 refine uN (xE _) (xE _) fun i=>?_
 rw[vB,vB,List.mem_append,List.mem_append]
 exact Or.comm
theorem VW {bs:List yg}(hn:(ids bs).Nodup){l:List Int}{i:Int}(hl:(l++[i]).Nodup):zw (numbers l bs).1 i=zw bs i:=by
 have b:=uG l i bs
 rw[vN (l++[i]) bs hn hl] at b
 have a:=congrArg Prod.snd b
 simp only at a
 rw[List.map_append,vN l bs hn (hl.sublist (List.sublist_append_left _ _))] at a
 have c:=List.append_cancel_left a
 simp only[List.map_cons,List.map_nil,List.cons.injEq,Prod.mk.injEq,true_and,and_true] at c
 rw[vN l bs hn (hl.sublist (List.sublist_append_left _ _))]
 exact c.symm
theorem zce {bs:List yg}(hn:(ids bs).Nodup){ms:List (Int×Int)}(hm:VF bs ms){l:List Int}(hl:l.Pairwise (· < ·)) :
  uL ((ms.filter fun p=>!decide (p.1∈uK ms l))++(numbers (zI ms l) bs).2)=l.map (VS ms bs):=by
 have f:(zI ms l).Nodup:=(xC hl).sublist List.filter_sublist
 have n:(ms.map (·.1)).Nodup:=xC hm.rising
 rw[vN _ bs hn f]
 have o:(((ms.filter fun p=>!decide (p.1∈uK ms l))++(zI ms l).map (fun id=>(id,zw bs id))).map (·.1)).Nodup:=by
  rw[List.map_append,List.nodup_append]
  refine⟨n.sublist (List.filter_sublist.map _),?_,?_⟩
  ·rw[List.map_map]
   have:((fun x:Int×Int=>x.1) ∘fun id=>(id,zw bs id))=id:=rfl
   rw[this,List.map_id]
   exact f
  ·intro a t b k e
   subst e
   obtain⟨p,m,rfl⟩:=List.mem_map.1 t
   obtain⟨y,u,e⟩:=List.mem_map.1 k
   obtain⟨z,v,rfl⟩:=List.mem_map.1 u
   simp only at e
   have c:=(List.mem_filter.1 v).2
   have d:=(Xn hm z).1 (by simpa using c)
   exact d (by rw[e];exact List.mem_map_of_mem (List.mem_filter.1 m).1)
 have g:=X0 o
 refine Xw _ _ g.1 ?_ fun p=>?_
 ·rw[List.pairwise_map]
  exact hl.imp fun h=>h
 ·rw[g.2,List.mem_append,List.mem_filter,List.mem_map,List.mem_map]
  constructor
  ·rintro(⟨c,d⟩|⟨b,c,rfl⟩)
   ·have i:p.1∈l:=by
     have q:p.1∉uK ms l:=by simpa using d
     unfold uK at q
     rw[List.mem_filter] at q
     by_cases r:p.1∈l
     ·exact r
     ·exact absurd ⟨List.mem_map_of_mem c,by simpa using r⟩ q
    refine⟨p.1,i,?_⟩
    unfold VS
    have s:=Qc hm c
    rw[s,if_neg (by have:=(hm.each p c).2.1;omega)]
   ·have i:=List.mem_filter.1 c
    refine⟨b,i.1,?_⟩
    unfold VS
    rw[if_pos (by simpa using i.2)]
  ·rintro⟨b,k,rfl⟩
   unfold VS
   by_cases j:uq ms b=0
   ·refine .inr ⟨b,List.mem_filter.2 ⟨k,by simpa using j⟩,?_⟩
    rw[if_pos j]
   ·refine .inl ⟨?_,?_⟩
    ·rw[if_neg j]
     have c:b∈ms.map (·.1):=by
      by_cases d:b∈ms.map (·.1)
      ·exact d
      ·exact absurd ((Xn hm b).2 d) j
     obtain⟨p,m,rfl⟩:=List.mem_map.1 c
     rw[Qc hm m]
     exact m
    ·simp only[Bool.not_eq_true',decide_eq_false_iff_not]
     unfold uK
     rw[List.mem_filter]
     rintro⟨_,d⟩
     simp[k] at d
theorem zbi {x:Acc}(hf:Fit x)(id:Int)(boxes:List Int){m:zX}(hfi:x.mails.find? (fun m=>decide (m.id=id))=some m)(hne:boxes≠[])(hwa:(rise boxes).any (fun id=>!zu x.boxes id)=false) :
  yB x id boxes=if rise (zI m.members (rise boxes)++uK m.members (rise boxes))=[] then (x,0)
   else if x.ends||(zI m.members (rise boxes)).any x.spent then (x,11)
   else ({x with clock:=x.clock+1,boxes:=zf (x.clock+1) (rise (zI m.members (rise boxes)++uK m.members (rise boxes))) (numbers (zI m.members (rise boxes)) x.boxes).1,mails:=zZ id (fun y=>{y with members:=(rise boxes).map (VS m.members x.boxes),mod:=x.clock+1}) x.mails,log:=x.log.add (zn (x.clock+1) (rise (zI m.members (rise boxes)++uK m.members (rise boxes)))++[⟨x.clock+1,2,id,2⟩])},0):=by
 have g:=List.mem_of_find?_eq_some hfi
 have c:=(hf.mail m g).mem
 have d:zZ id (fun y=>{y with members:=uL ((y.members.filter fun p=>!decide (p.1∈uK m.members (rise boxes)))++(numbers (zI m.members (rise boxes)) x.boxes).2),mod:=x.clock+1}) x.mails=zZ id (fun y=>{y with members:=(rise boxes).map (VS m.members x.boxes),mod:=x.clock+1}) x.mails:=by
  have o:∀l:List zX,l.find? (fun m=>decide (m.id=id))=some m→zZ id (fun y=>{y with members:=uL ((y.members.filter fun p=>!decide (p.1∈uK m.members (rise boxes)))++(numbers (zI m.members (rise boxes)) x.boxes).2),mod:=x.clock+1}) l=zZ id (fun y=>{y with members:=(rise boxes).map (VS m.members x.boxes),mod:=x.clock+1}) l:=by
   intro l
   induction l with
   |nil=>intro h;cases h
   |cons y r ih=>
    intro h
    unfold zZ
    by_cases a:y.id=id
    ·rw[List.find?_cons_of_pos (by simpa using a)] at h
     injection h with h
     subst h
     rw[if_pos a,if_pos a,zce hf.idsB c (xE boxes)]
    ·rw[List.find?_cons_of_neg (by simpa using a)] at h
     rw[if_neg a,if_neg a,ih h]
  exact o _ hfi
 have i:=fresh_eq c (rise boxes)
 unfold yB
 rw[hfi]
 simp only[i]
 rw[if_neg hne,if_neg (by rw[hwa];simp)]
 have j:((m.members.map (·.1)).filter fun b=>!decide (b∈rise boxes))=uK m.members (rise boxes):=rfl
 rw[j]
 have n:((zI m.members (rise boxes)).length+(uK m.members (rise boxes)).length=0)↔rise (zI m.members (rise boxes)++uK m.members (rise boxes))=[]:=by
  constructor
  ·intro h
   have k:zI m.members (rise boxes)=[]:=List.eq_nil_of_length_eq_zero (by omega)
   have e:uK m.members (rise boxes)=[]:=List.eq_nil_of_length_eq_zero (by omega)
   rw[k,e]
   rfl
  ·intro h
   have k:zI m.members (rise boxes)++uK m.members (rise boxes)=[]:=by
    by_cases e:zI m.members (rise boxes)++uK m.members (rise boxes)=[]
    ·exact e
    ·exact absurd h (UM e)
   rw[←List.length_append,k]
   rfl
 rw[zc6 (uK m.members (rise boxes)) (zI m.members (rise boxes))]
 by_cases f:rise (zI m.members (rise boxes)++uK m.members (rise boxes))=[]
 ·rw[if_pos (n.2 f),if_pos f]
 ·rw[if_neg (fun h=>f (n.1 h)),if_neg f,d]
end Go.Proofs.YtfhlhdmhgheonaaGreatDoor
namespace Go.Proofs.YtfhlhdmhgheonaaGreatDoor
open Go.Shelf Go.RowKit
attribute [local go_sem ↓] Go.wp_at_zero Go.wp_at_succ
structure LsR (w1 wr:World)(l:List Int)(v:Value)(h:Option Nat):Prop where
 sl:Sl wr 3 1 v h l.length (l.map encI)
 own:∀b,h=some b→w1.heap.size≤b
 below:Below w1.heap.size w1 wr
 nil:l=[]→v=.slice none 0 0
theorem LsR.start (w:World):LsR w w [] (.slice none 0 0) none:=⟨Sl.nil _ _ _,(fun b hb=>by cases hb),Below.refl _ _,fun _=>rfl⟩
theorem LsR.later {w1 wr w2:World}{l:List Int}{v:Value}{h:Option Nat}(H:LsR w1 wr l v h)(hb:Below wr.heap.size wr w2):LsR w1 w2 l v h:=
 ⟨H.sl.keep (fun b hb2=>hb.block b (H.sl.lt b hb2)),H.own,H.below.trans (hb.mono H.below.size),H.nil⟩
theorem LsR.push {w1 wr w7:World}{l:List Int}{v v2:Value}{h h2:Option Nat}(H:LsR w1 wr l v h)(x:Int)(hs7:Sl w7 3 1 v2 h2 (l.length+1) (l.map encI++[encI x]))(hc7:Chg h.toList wr w7)(ho7:h2=h∨∃k,h2=some k∧wr.heap.size≤k):LsR w1 w7 (l++[x]) v2 h2:=by
 refine⟨?_,?_,H.below.trans (hc7.below H.below.size fun b hb=>H.own b (by simpa using hb)),fun e=>by simp at e⟩
 ·rw[List.length_append,List.map_append]
  exact hs7
 ·intro b a
  rcases ho7 with e|⟨k,e,hk⟩
  ·exact H.own b (by rw[←e];exact a)
  ·rw[e] at a
   injection a with a
   have:=H.below.size
   omega
theorem LsR.keepChg {w1 wr w2:World}{l:List Int}{v:Value}{h:Option Nat}{S:List Nat}(H:LsR w1 wr l v h)(hc:Chg S wr w2)(hS:∀b,h=some b→b∉S)(hS2:∀k∈S,w1.heap.size≤k):LsR w1 w2 l v h:=
 ⟨H.sl.chg hc hS,H.own,H.below.trans (hc.below H.below.size hS2),H.nil⟩
theorem Jk {P:Program}(w:World){t ty e:TypeId}{i:TypeInfo}(ht:P.underlying t=some (.slice e))(hi:P.info? e=some i) :
  (Builtin.append_ #[t,t] ty #[.slice none 0 0,.slice none 0 0]).run P w=.ok (.slice none 0 0) w:=by
 simp[Builtin.append_,run_underlying ht,sizeOf,typeInfo,hi,Builtin.lenOf,run_firstCells_none]
theorem YA {P:Program}{w:World}{ops:Array Oper}{rest:List Oper}{o:Oper}{a:Act}{Q:Exit→Act→World→Prop}(hgd:o.guard=none)(s x:Operand)(t:TypeId)(ho:o.op=.call {callee:=.builtin .append,args:=#[s,x],argTypes:=#[t,t]}){e:TypeId}{i:TypeInfo}{z:Value}{size bytes:Nat}(ht:P.underlying t=some (.slice e))(hi:P.info? e=some i)(hz:i.zero=some z)(hsize:i.size=size)(hby:i.bytes=bytes)(hzs:z.cells.size=size)(hsz:0 < size)(hs:a.eval s=.slice none 0 0){v2:Value}{m:Nat}{news:List Value}(hr:RdS w [] size v2 m news)(hnil:m=0→v2=.slice none 0 0)(hx:a.eval x=v2)(h1:∀u∈news,u.oneCell'=true)(h63:m≤maxLen)(hbytes:m * bytes≤140737488355328)(hk:∀v' h' w',Sl w' e size v' h' m news→Chg [] w w'→(h'=none∨∃g,h'=some g∧w.heap.size≤g)→(m=0→v'=.slice none 0 0)→wpList P ops Q rest (a.put o.dst v') w') :
  wpList P ops Q (o :: rest) a w:=by
 refine wpList_plain hgd fun K hK'=>?_
 by_cases h:m=0
 ·have d:=hnil h
  subst h
  have q:news=[]:=List.eq_nil_of_length_eq_zero (by simpa using hr.1)
  subst q
  subst d
  have c:=Jk (P:=P) w (t:=t) (ty:=o.type) ht hi
  unfold Oper.wp execOp
  simp only[ho,resolve,invoke,builtin,Sem.run_bind,Sem.run_pure,Result.andThen_ok,List.map_toArray,List.map_cons,List.map_nil,hs,hx,c]
  exact hK' _ _ (hk _ none w (Sl.nil _ _ _) (Chg.refl _ _) (.inl rfl) (fun _=>rfl))
 ·obtain⟨b,k,l,d,r,_,v,_,n⟩:=hr.at_ (by omega)
  subst d
  obtain⟨v',h',w',c,p,y,A⟩:=xG (P:=P) w (ty:=o.type) ht hi hz hsize hby hzs hsz (Sl.nil w e size) ⟨b,k,none⟩ m l news hr.1 (fun j u hj=>by
   have f:j < m * size:=by
    rw[←hr.1]
    exact(List.getElem?_eq_some_iff.1 hj).1
   rw[←hj,Addr.add_lit]
   exact n j f) h1 (by omega) (by simpa using hbytes)
  unfold Oper.wp execOp
  simp only[ho,resolve,invoke,builtin,Sem.run_bind,Sem.run_pure,Result.andThen_ok,List.map_toArray,List.map_cons,List.map_nil,hs,hx,c]
  rw[Nat.zero_add,List.nil_append] at p
  exact hK' _ _ (hk v' h' w' p y A (fun e=>absurd e h))
structure xX (w:World)(g:Nat)(q:zl)(x:Acc)(is:List Int)(vb:Value)(Sb:List Nat):Prop where
 at_:zi w g q x
 fit:Fit x
 boxes:RdS w Sb 1 vb is.length (is.map encI)
 nb:is.length≤4294967296
section
variable {w:World} {g:Nat} {q:zl} {x:Acc} {is:List Int} {vb:Value} {Sb:List Nat}
theorem xX.zcp (h:xX w g q x is vb Sb):x.boxes.length≤1099511627776:=by
 have a:=h.fit.nb
 have b:=h.fit.clock
 have c:=h.fit.cfg.mod
 omega
theorem xX.nmail (h:xX w g q x is vb Sb):x.mails.length≤4294967296:=by
 have a:=h.fit.nm
 have b:=h.fit.clock
 have c:=h.fit.cfg.mod
 omega
theorem xX.oc (h:xX w g q x is vb Sb)(W:World)(hb:Below w.heap.size w W):Calls Tryz.prog 119 #[vb] W fun e w'=>∃A cap hh,e=.returned (.slice A (rise is).length cap)∧Sl w' 3 1 (.slice A (rise is).length cap) hh (rise is).length ((rise is).map encI)∧Below W.heap.size W w'∧∀b,hh=some b→W.heap.size≤b:=
 Vr W vb Sb is (h.boxes.below hb) (Nat.le_trans h.nb (by decide))
theorem xX.bc (h:xX w g q x is vb Sb){b:Bool}(hb2:(rise is).any (fun id=>!zu x.boxes id)=b)(W:World)(hb:Below w.heap.size w W)(v:Value)(hr:RdS W [] 1 v (rise is).length ((rise is).map encI)):Calls Tryz.prog 120 #[.pointer (some ⟨g,0,none⟩),v] W fun e w'=>e=.returned (.bool (!b))∧Below W.heap.size W w':=by
 rw[←hb2]
 exact UI W g q x v [] (rise is) (h.at_.later hb) h.zcp hr (by have:=zY is;have:=h.nb;omega)
end
theorem QK (w:World)(g:Nat)(q:zl)(x:Acc)(id:Int)(is:List Int)(vb:Value)(Sb:List Nat)(h:xX w g q x is vb Sb)(hmem:id∉vw x.mails) :
  Calls Tryz.prog 54 #[.pointer (some ⟨g,0,none⟩),.int .i64 id,vb] w (uh w g q (yB x id is)):=by
 have o:=h.nmail
 have a:=YQ w g q x id h.at_ (by omega)
 have f:Yi id x.mails= -1:=Yy x.mails (fun t ht=>by
  simp only[decide_eq_false_iff_not]
  exact fun e=>hmem (by rw[←e];exact List.mem_map_of_mem (List.getElem_mem ht)))
 have i:x.mails.find? (fun m=>decide (m.id=id))=none:=List.find?_eq_none.2 (fun m hm hd=>hmem (by
  have:m.id=id:=by simpa using hd
  rw[←this]
  exact List.mem_map_of_mem hm))
 have c:yB x id is=(x,6):=by
  unfold yB
  rw[i]
 rw[c]
 rw[f] at a
 have H:=zdG h
 have d:=h.oc
 obtain⟨A,v,j,_,_⟩:=h.boxes.form
 rw[j] at d ⊢
 have p:=zdG d
 clear c f hmem h o i d j
 go_enter Tryz.func54,Tryz.ntmps54
 go_wp2_with (first
  |(go_at_call 130;refine a.mono ?_;rintro e z ⟨rfl,rfl⟩;clear a)
  |(go_at_call 119;refine(p.out w (Below.refl _ _)).mono ?_;rintro e B ⟨C,D,y,rfl,k,l,n⟩;have r:=zdG l;have s:=zdG k;have u:Hid (∀b,y=some b→w.heap.size≤b):=zdG n;clear k l n)
  |fail)
 go_ret
 exact⟨rfl,q,ze.of_below H.out.at_ r.out⟩
theorem Jz (w:World)(g:Nat)(q:zl)(x:Acc)(id:Int)(is:List Int)(vb:Value)(Sb:List Nat)(h:xX w g q x is vb Sb)(hmem:id∈vw x.mails)(hbad:is=[]) :
  Calls Tryz.prog 54 #[.pointer (some ⟨g,0,none⟩),.int .i64 id,vb] w (uh w g q (yB x id is)):=by
 have r:=h.nmail
 have c:=YQ w g q x id h.at_ (by omega)
 have a:=hmem
 rw[←h.at_.same] at a
 obtain⟨i,z,B,f,C,D,l⟩:=Zh a
 rw[h.at_.same] at f l
 rw[f] at c
 have u:¬(i:Int) < 0:=by omega
 have k:yB x id is=(x,1):=by
  unfold yB
  rw[l,hbad]
  rfl
 rw[k]
 have H:=zdG h
 have d:=h.oc
 obtain⟨A,j,m,_,_⟩:=h.boxes.form
 rw[m] at d ⊢
 subst hbad
 have d:∀W,Below w.heap.size w W→Calls Tryz.prog 119 #[.slice A 0 j] W fun e w'=>∃A j hh,e=.returned (.slice A 0 j)∧Sl w' 3 1 (.slice A 0 j) hh 0 []∧Below W.heap.size W w'∧∀b,hh=some b→W.heap.size≤b:=d
 have s:=zdG d
 clear k hmem a h r d m B D C f l
 go_enter Tryz.func54,Tryz.ntmps54
 go_wp2_with (first
  |(go_at_call 130;refine c.mono ?_;rintro e F ⟨rfl,rfl⟩;clear c)
  |(go_at_call 119;refine(s.out w (Below.refl _ _)).mono ?_;rintro e G ⟨I,J,E,rfl,n,o,p⟩;have t:=zdG o;have v:=zdG n;have y:Hid (∀b,E=some b→w.heap.size≤b):=zdG p;clear n o p)
  |fail)
 go_ret
 exact⟨rfl,q,ze.of_below H.out.at_ t.out⟩
theorem zau (w:World)(g:Nat)(q:zl)(x:Acc)(id:Int)(is:List Int)(vb:Value)(Sb:List Nat)(h:xX w g q x is vb Sb)(hmem:id∈vw x.mails)(hne:is≠[])(hwa:(rise is).any (fun id=>!zu x.boxes id)=true) :
  Calls Tryz.prog 54 #[.pointer (some ⟨g,0,none⟩),.int .i64 id,vb] w (uh w g q (yB x id is)):=by
 have y:=h.nmail
 have c:=YQ w g q x id h.at_ (by omega)
 have a:=hmem
 rw[←h.at_.same] at a
 obtain⟨i,J,K,f,L,M,n⟩:=Zh a
 rw[h.at_.same] at f n
 rw[f] at c
 have F:¬(i:Int) < 0:=by omega
 have k:yB x id is=(x,6):=by
  unfold yB
  rw[n]
  simp only
  rw[if_neg hne,if_pos hwa]
 rw[k]
 have H:=zdG h
 have j:=h.oc
 have l:=h.bc hwa
 have d:((rise is).length:Int)≠0:=by
  have:=UM hne
  have P:(rise is).length≠0:=fun e=>this (List.eq_nil_of_length_eq_zero e)
  omega
 obtain⟨A,N,s,_,_⟩:=h.boxes.form
 rw[s] at j ⊢
 obtain⟨D,o⟩:∃D,(rise is).length=D:=⟨_,rfl⟩
 rw[o] at l d
 simp only[o] at j
 have G:((D:Int)==0)=false:=by simpa using d
 have z:=zdG j
 have B:=zdG l
 clear k hmem a h y j l s K M L f n d o hwa hne
 go_enter Tryz.func54,Tryz.ntmps54
 go_wp2_with (first
  |(go_at_call 130;refine c.mono ?_;rintro e Q ⟨rfl,rfl⟩;clear c)
  |(go_at_call 119;refine(z.out w (Below.refl _ _)).mono ?_;rintro e R ⟨S,T,O,rfl,t,u,v⟩;have r:=zdG u;have m:=zdG t;have I:Hid (∀b,O=some b→w.heap.size≤b):=zdG v;clear t u v)
  |(go_at_call 120;refine(B.out _ r.out _ (m.out.reads [] (by simp))).mono ?_;rintro e U ⟨rfl,p⟩;have C:=zdG (za r.out p);have E:=zdG (m.out.keep (fun b hb=>p.block b (m.out.lt b hb)));clear p)
  |fail)
 go_ret
 exact⟨rfl,q,ze.of_below H.out.at_ C.out⟩
structure PmR (w w10 wr:World)(g:Nat)(q:zl)(x1:Acc)(l:List Int)(ms:List (Int×Int))(bs:List yg)(k:Nat)(mv:Value):Prop where
 st:ze w wr g q {x1 with boxes:=(numbers (zI ms (l.take k)) bs).1} q
 ch:Chg (q.own g) w10 wr
 mem:∃h,Sl wr 56 2 mv h k (zk zA ((l.take k).map (VS ms bs)))∧∀b,h=some b→w10.heap.size≤b
theorem PmR.next {w w10 wr W W2:World}{g:Nat}{q:zl}{x x1:Acc}{l:List Int}{ms:List (Int×Int)}{bs:List yg}{k:Nat}{mv mv':Value}(h:PmR w w10 wr g q x1 l ms bs k mv)(hw:zi w g q x)(h10:w.heap.size≤w10.heap.size)(hk:k < l.length)(ht:ze wr W g q {x1 with boxes:=(numbers (zI ms (l.take (k+1))) bs).1} q){hh h':Option Nat}(_:Sl W 56 2 mv hh k (zk zA ((l.take k).map (VS ms bs))))(hf:∀b,hh=some b→w10.heap.size≤b)(hs2:Sl W2 56 2 mv' h' (k+1) (zk zA ((l.take k).map (VS ms bs))++zA (VS ms bs l[k])))(hc:Chg hh.toList W W2)(ho:h'=hh∨∃g,h'=some g∧W.heap.size≤g) :
  PmR w w10 W2 g q x1 l ms bs (k+1) mv':=by
 have d:=ht.chg.size
 have e:=h.ch.size
 have a:∀j∈hh.toList,w10.heap.size≤j:=fun j hj=>hf j (by simpa using hj)
 refine⟨(h.st.trans ht).newer hw hc fun j hj=>Nat.le_trans h10 (a j hj),(h.ch.trans ht.chg (fun i hi=>.inl hi)).trans hc fun i hi=>.inr (a i hi),⟨h',?_,?_⟩⟩
 ·rw[List.take_succ_eq_append_getElem hk,List.map_append,Zf]
  exact hs2
 ·intro b c
  rcases ho with h1|⟨g2,h1,h2⟩
  ·exact hf b (by rw[←h1];exact c)
  ·rw[h1] at c
   injection c with c
   omega
theorem zcA (w:World)(g:Nat)(q:zl)(x:Acc)(id:Int)(is:List Int)(vb:Value)(Sb:List Nat)(h:xX w g q x is vb Sb)(hmem:id∈vw x.mails)(hne:is≠[])(hwa:(rise is).any (fun id=>!zu x.boxes id)=false) :
  Calls Tryz.prog 54 #[.pointer (some ⟨g,0,none⟩),.int .i64 id,vb] w (uh w g q (yB x id is)):=by
 have jh:=h.nmail
 have b8:=YQ w g q x id h.at_ (by omega)
 have af:=hmem
 rw[←h.at_.same] at af
 obtain⟨i,al,n1,cb,n3,n2,c'⟩:=Zh af
 rw[h.at_.same] at cb c'
 rw[cb] at b8
 have kk:¬(i:Int) < 0:=by omega
 have hf:=h.fit
 have g3:=h.at_.Za
 obtain⟨m,hm⟩:∃m,q.ms[i]=m:=⟨_,rfl⟩
 have eo:m∈q.ms:=by rw[←hm];exact List.getElem_mem al
 have cg:m.p∈x.mails:=by rw[←h.at_.same];exact List.mem_map_of_mem eo
 have g4:=(hf.mail _ cg).mem
 have dr:∀f,zZ id f x.mails=x.mails.set i (f m.p):=fun f=>by
  have J:=n2 f
  rw[h.at_.same,hm] at J
  exact J
 rw[hm] at c'
 have a3:=zbi hf id is c' hne hwa
 simp only[dr] at a3
 obtain⟨rr,iw⟩:∃rr,yB x id is=rr:=⟨_,rfl⟩
 rw[iw] at a3 ⊢
 have b9:=all_in hwa
 have ep:=xE is
 have g5:(rise is).length≤4294967296:=by
  have:=zY is
  have:=h.nb
  omega
 have ci:(rise is).length≠0:=fun e=>UM hne (List.eq_nil_of_length_eq_zero e)
 have g6:m.p.members.length≤4294967296:=by
  have d:=hf.Jp cg
  have J:=hf.nb
  have h3:=hf.clock
  have h4:=hf.cfg.mod
  omega
 have ba:=h.oc
 have cj:=h.bc hwa
 obtain⟨A,kx,ix,_,_⟩:=h.boxes.form
 rw[ix] at ba ⊢
 have cl:∀W,Below w.heap.size w W→zi W g q x:=fun W hb=>h.at_.later hb
 have HW:=zdG h
 have HF:=zdG hf
 generalize rise is=l at a3 b9 ep g5 ci ba cj
 obtain⟨s,d8⟩:∃s,l.length=s:=⟨_,rfl⟩
 rw[d8] at cj g5 ci
 simp only[d8] at ba
 have ke:((s:Int)==0)=false:=by simpa using ci
 have kl:0 < s:=by omega
 obtain⟨nm,eh⟩:∃nm,x.mails.length=nm:=⟨_,rfl⟩
 have g7:i < nm:=by omega
 have km:(i:Int) < (nm:Int):=by omega
 have kf:(0:Int)≤(i:Int):=by omega
 have g8:=zdG ba
 have g9:=zdG cj
 have HR:=zdG a3
 have ap:=zdG b9
 have ga:=zdG ep
 have a4:=zdG d8
 have bb:=zdG eh
 have HM:=zdG hm
 have er:=zdG eo
 have kn:=zdG cg
 have ji:=zdG g4
 have bd:=zdG g6
 have gb:=zdG al
 have cn:=zdG cl
 clear a3 iw hmem af h hf jh ba cj ix n1 n2 n3 cb c' dr hwa hne b9 ep d8 eh hm eo cg g4 g6 g3 cl ci
 go_enter Tryz.func54,Tryz.ntmps54
 go_upto_region 9 with(first
  |(go_at_call 130;refine b8.mono ?_;rintro e w1 ⟨rfl,rfl⟩;clear b8)
  |(go_at_call 119;refine(g8.out w (Below.refl _ _)).mono ?_;rintro e w2 ⟨A3,p3,h3,rfl,iy,Z,iz⟩;have es:=zdG Z;have co:=zdG iy;have gc:Hid (∀b,h3=some b→w.heap.size≤b):=zdG iz;clear iy Z iz)
  |(go_at_call 120;refine(g9.out _ es.out _ (co.out.reads [] (by simp))).mono ?_;rintro e w3 ⟨rfl,fn⟩;have et:=zdG (za es.out fn);have be:=zdG (co.out.keep (fun b hb=>fn.block b (co.out.lt b hb)));clear fn)
  |fail)
 have aq:=cn.out w3 et.out
 obtain⟨b1,o1,c1,i',d9,j',cl,k0,C⟩:=aq.xu i (by rw[bb.out];exact g7) gb.out
 have jj:w3.cell? ⟨g,11,none⟩=some (.slice (some ⟨b1,o1,none⟩) nm c1):=by
  have:=aq.zU
  rw[i'] at this
  rw[←bb.out]
  exact this
 have a5:q.ms[i]'gb.out=m:=HM.out
 rw[a5] at C
 have d0:w3.cell? ⟨b1,o1+i * 8,none⟩=some (.int .i64 m.p.id):=(C 0 (by omega)).1
 have d1:w3.cell? ⟨b1,o1+i * 8+1,none⟩=some (.int .i64 m.p.thread):=(C 1 (by omega)).1
 have d2:w3.cell? ⟨b1,o1+i * 8+2,none⟩=some (.string ⟨m.p.text.toArray⟩):=(C 2 (by omega)).1
 have d3:w3.cell? ⟨b1,o1+i * 8+3,none⟩=some (.int .i64 m.p.at_):=(C 3 (by omega)).1
 have d4:w3.cell? ⟨b1,o1+i * 8+4,none⟩=some m.kv:=(C 4 (by omega)).1
 have d5:w3.cell? ⟨b1,o1+i * 8+5,none⟩=some m.mv:=(C 5 (by omega)).1
 have d6:w3.cell? ⟨b1,o1+i * 8+6,none⟩=some (.int .i64 m.p.mod):=(C 6 (by omega)).1
 have d7:w3.cell? ⟨b1,o1+i * 8+7,none⟩=some (.int .i64 m.p.born):=(C 7 (by omega)).1
 have V:=aq.parts m er.out
 obtain⟨Ak,ck,da,_,_⟩:=V.keys.form
 obtain⟨Am,cm,db,_,_⟩:=V.mem.form
 rw[da] at d4
 rw[db] at d5
 obtain⟨lk,j1⟩:∃lk,m.p.keys.length=lk:=⟨_,rfl⟩
 obtain⟨D,dc⟩:∃D,m.p.members.length=D:=⟨_,rfl⟩
 rw[j1] at d4 da
 rw[dc] at d5 db
 have HP:=zdG V
 have ko:=zdG da
 have eu:=zdG db
 have ev:=zdG dc
 have kg:D≤4294967296:=by rw[←dc];exact bd.out
 clear V i' da db dc j1 C d9 a5 aq j' cl
 generalize m.p.id=m0 at d0
 generalize m.p.thread=m1 at d1
 generalize m.p.text=m2 at d2
 generalize m.p.at_=m3 at d3
 generalize m.p.mod=m6 at d6
 generalize m.p.born=m7 at d7
 go_upto_region 10 with(fail)
 obtain⟨t,hwa⟩:∃t:World,t=w3.alloc (.cells #[.int .i64 m0,.int .i64 m1,.string ⟨m2.toArray⟩,.int .i64 m3,.slice Ak lk ck,.slice Am D cm,.int .i64 m6,.int .i64 m7] 54):=⟨_,rfl⟩
 rw[←hwa]
 have bf:Blk t w3.heap.size 54 #[.int .i64 m0,.int .i64 m1,.string ⟨m2.toArray⟩,.int .i64 m3,.slice Ak lk ck,.slice Am D cm,.int .i64 m6,.int .i64 m7]:=by rw[hwa];exact Blk.new _ _ _
 have bg:Below w3.heap.size w3 t:=by rw[hwa];exact below_alloc1 _ _
 obtain⟨B,fo⟩:∃B,B=w3.heap.size:=⟨_,rfl⟩
 rw[←fo] at bf ⊢
 have gd:∀W,Below t.heap.size t W→W.cell? ⟨B,0,none⟩=some (.int .i64 m0)∧W.cell? ⟨B,1,none⟩=some (.int .i64 m1)∧W.cell? ⟨B,2,none⟩=some (.string ⟨m2.toArray⟩)∧W.cell? ⟨B,3,none⟩=some (.int .i64 m3)∧W.cell? ⟨B,4,none⟩=some (.slice Ak lk ck)∧W.cell? ⟨B,5,none⟩=some (.slice Am D cm)∧W.cell? ⟨B,6,none⟩=some (.int .i64 m6)∧W.cell? ⟨B,7,none⟩=some (.int .i64 m7):=fun W hb=>by
  have d:Blk W B 54 #[.int .i64 m0,.int .i64 m1,.string ⟨m2.toArray⟩,.int .i64 m3,.slice Ak lk ck,.slice Am D cm,.int .i64 m6,.int .i64 m7]:=bf.below hb bf.lt
  exact⟨d.cell 0,d.cell 1,d.cell 2,d.cell 3,d.cell 4,d.cell 5,d.cell 6,d.cell 7⟩
 have ew:∀W,Below t.heap.size t W→RdS W [] 2 (.slice Am D cm) m.p.members.length (zk zA m.p.members):=fun W hb=>by
  rw[←eu.out]
  exact(HP.out.mem.below (bg.trans (hb.mono bg.size))).sub (fun _ _ _ hm=>by cases hm)
 have hU:∀b u,uq m.p.members b=u→∀W,Below t.heap.size t W→Calls Tryz.prog 84 #[.agg #[.int .i64 m0,.int .i64 m1,.string ⟨m2.toArray⟩,.int .i64 m3,.slice Ak lk ck,.slice Am D cm,.int .i64 m6,.int .i64 m7],.int .i64 b] W fun e w'=>e=.returned (.int .i64 u)∧Below W.heap.size W w':=fun b u hu W hb=>by
  rw[←hu]
  exact U5 W m0 m1 m3 m6 m7 ⟨m2.toArray⟩ (.slice Ak lk ck) (.slice Am D cm) m.p.members b (ew W hb) (Nat.le_trans bd.out (by decide))
 have gf:∀W,Below t.heap.size t W→Calls Tryz.prog 133 #[.agg #[.int .i64 m0,.int .i64 m1,.string ⟨m2.toArray⟩,.int .i64 m3,.slice Ak lk ck,.slice Am D cm,.int .i64 m6,.int .i64 m7]] W fun e w'=>∃A8 c8 hh,e=.returned (.slice A8 D c8)∧Sl w' 3 1 (.slice A8 D c8) hh D ((yF m.p.members).map encI)∧(∀b,hh=some b→W.heap.size≤b)∧Below W.heap.size W w':=fun W hb=>by
  refine(QT W m0 m1 m3 m6 m7 ⟨m2.toArray⟩ (.slice Ak lk ck) (.slice Am D cm) m.p.members (ew W hb) (Nat.le_trans bd.out (by decide))).mono ?_
  rintro e w' ⟨v,hh,rfl,hs,ho,fp⟩
  rw[ev.out] at hs
  obtain⟨A8,c8,rfl,_,_⟩:=hs.form
  exact⟨A8,c8,hh,rfl,hs,ho,fp⟩
 have gg:w.heap.size≤B:=by rw[fo];exact et.out.size
 have ds:=bf
 have az:Hid (Below w.heap.size w t):=zdG (za et.out bg)
 have cp:=zdG (be.out.keep (fun b hb=>bg.block b (be.out.lt b hb)))
 have ex:=zdG gd
 have gh:=zdG hU
 have gi:=zdG gf
 have jk:=zdG gg
 have dt:=zdG ds
 clear d0 d1 d2 d3 d4 d5 d6 d7 jj hwa bf bg fo gd ew hU gf gg ds k0 co be g8 g9 es
 obtain⟨i0,hi,fq,fs,ft⟩:=info_parts Try.infoIntO
 have bh:∀W,Below t.heap.size t W→RdS W [] 1 (.slice A3 s p3) s (l.map encI):=fun W hb=>(cp.out.keep (fun b fp=>hb.block b (cp.out.lt b fp))).reads [] (by simp)
 have bh:=zdG bh
 have ey:Hid (LsR t t [] (.slice none 0 0) none):=zdG (LsR.start t)
 go_upto_block 1 with(fail)
 go_cut [10] (fun v Q=>∃(A:Option Addr) (c:Nat) (h:Option Nat),v=.slice A (zI m.p.members l).length c∧Hid (LsR t Q (zI m.p.members l) (.slice A (zI m.p.members l).length c) h))
 case first=>
  go_wp2_with fail
  go_loopw [10,12] (fun v iv wr=>∃(k:Nat) (h:Option Nat),k≤s∧iv=.int .i64 (k:Nat)∧Hid (LsR t wr (zI m.p.members (l.take k)) v h)) (fun _ iv _=>s - (intOf iv).toNat)
  case atStart=>exact⟨0,none,Nat.zero_le _,rfl,ey⟩
  case round=>
   clear ey
   obtain⟨k,h,hk,rfl,G⟩:=hrel
   obtain⟨A0,ab,rfl,_,_⟩:=G.out.sl.form
   obtain⟨mf,O⟩:∃mf,(zI m.p.members (l.take k)).length=mf:=⟨_,rfl⟩
   have kh:mf≤k:=by rw[←O];exact Us _ _ _
   have R:=zdG O
   rw[O]
   clear O
   by_cases ca:k < s
   ·have K:k < l.length:=by rw[a4.out];exact ca
    have bi:(k:Int) < (s:Int):=by omega
    have gj:(0:Int)≤(k:Int):=by omega
    have gk:IntKind.i64.wrap ((k:Int)+1)=(k:Int)+1:=IntWalk.i64_in _ (by omega)
    obtain⟨b3,j,ei,ac,_,_,Z,_,n⟩:=(bh.out t (Below.refl _ _)).at_ (by omega)
    injection ac with hva1 hvx hva3
    subst hva1 hva3
    clear hvx
    obtain⟨a,r⟩:∃a,l[k]=a:=⟨_,rfl⟩
    have a':t.cell? ⟨b3,j+k,none⟩=some (.int .i64 a):=(n k (by omega)).trans (by simp[K,r,encI])
    have hK:∀W,Below wr.heap.size wr W→(W.cell? ⟨B,0,none⟩=some (.int .i64 m0)∧W.cell? ⟨B,1,none⟩=some (.int .i64 m1)∧W.cell? ⟨B,2,none⟩=some (.string ⟨m2.toArray⟩)∧W.cell? ⟨B,3,none⟩=some (.int .i64 m3)∧W.cell? ⟨B,4,none⟩=some (.slice Ak lk ck)∧W.cell? ⟨B,5,none⟩=some (.slice Am D cm)∧W.cell? ⟨B,6,none⟩=some (.int .i64 m6)∧W.cell? ⟨B,7,none⟩=some (.int .i64 m7))∧W.cell? ⟨b3,j+k,none⟩=some (.int .i64 a):=fun W hb=>by
     have d:=G.out.below.trans (hb.mono G.out.below.size)
     exact⟨ex.out W d,(d.cell (p:=⟨b3,j+k,none⟩) Z).trans a'⟩
    obtain⟨u,hu⟩:∃u,uq m.p.members a=u:=⟨_,rfl⟩
    have I:=YJ m.p.members l k K
    rw[r,hu] at I
    have bj:=fun W (hb:Below wr.heap.size wr W)=>gh.out a u hu W (G.out.below.trans (hb.mono G.out.below.size))
    have ez:=zdG bj
    have HK:=zdG hK
    have S:=zdG I
    have kp:Hid (b3 < t.heap.size):=zdG Z
    have kq:=zdG a'
    obtain⟨⟨e0,e1,e2,e3,e4,e5,e6,e7⟩,cs⟩:=hK wr (Below.refl _ _)
    clear n a' hK bj I r hu
    go_upto_region 14 with(fail)
    go_cut [55] (fun v Q=>v=.bool (u==0)∧Hid (Below wr.heap.size wr Q))
    case first=>
     go_region_held3 (fun W=>(W.cell? ⟨B,0,none⟩=some (.int .i64 m0)∧W.cell? ⟨B,1,none⟩=some (.int .i64 m1)∧W.cell? ⟨B,2,none⟩=some (.string ⟨m2.toArray⟩)∧W.cell? ⟨B,3,none⟩=some (.int .i64 m3)∧W.cell? ⟨B,4,none⟩=some (.slice Ak lk ck)∧W.cell? ⟨B,5,none⟩=some (.slice Am D cm)∧W.cell? ⟨B,6,none⟩=some (.int .i64 m6)∧W.cell? ⟨B,7,none⟩=some (.int .i64 m7))∧W.cell? ⟨b3,j+k,none⟩=some (.int .i64 a))
      (first
       |exact HK.out _ (Below.refl _ _)
       |exact HK.out _ (zb _)
       |exact HK.out _ L.out
       |go_keep)
      (first
       |(go_at_call 84;refine(ez.out _ (by first|exact Below.refl _ _|exact zb _)).mono ?_;rintro e w8 ⟨rfl,H⟩;have L:Hid (Below wr.heap.size wr w8):=zdG (by first|exact H|exact za (zb _) H|exact yV H);clear H)
       |fail)
     all_goals
      go_wp2_with fail
      go_meet
      exact⟨rfl,L⟩
    case rest=>
     obtain⟨rfl,L⟩:=hcut
     obtain⟨w8,rfl⟩:∃w8:World,w8=wc:=⟨_,rfl⟩
     have e':=zdG (G.out.later L.out)
     clear e0 e1 e2 e3 e4 e5 e6 e7 cs
     by_cases z:u=0
     ·have hq:(u==0)=true:=by simpa using z
      rw[hq]
      rw[if_pos z] at S
      have ag:=e'.out.sl
      rw[R.out] at ag
      have f0:=zdG ag
      have gm:w8.cell? ⟨b3,j+k,none⟩=some (.int .i64 a):=(HK.out _ L.out).2
      clear hq z ag
      go_wp2_with (first
       |(at_builtin;refine zC rfl _ _ 37 rfl Tryz.underlying37 hi fq fs ft rfl (by decide) f0.out rfl 1 1 rfl rfl ?_ ?_ ?_ ?_)
       |fail)
      any_goals (first|(simp[Value.oneCell'];done)|(unfold maxLen;omega)|omega|rfl)
      ·intro v2 J w9 U am a0
       have HN:Hid (LsR t w9 (zI m.p.members (l.take (k+1))) v2 J):=zdG (by
        rw[S.out]
        exact e'.out.push a (by rw[R.out];exact U) am a0)
       obtain⟨A9,j2,rfl,_,_⟩:=U.form
       clear U am a0
       go_wp2_with fail
       refine⟨?_,by simp[intOf];omega⟩
       first|exact⟨k+1,J,by omega,by go_num,HN⟩|((repeat apply Exists.intro);exact⟨⟨k+1,J,by omega,by go_num,HN⟩,rfl⟩)
     ·have hq:(u==0)=false:=by simpa using z
      rw[hq]
      rw[if_neg z] at S
      have HN:Hid (LsR t w8 (zI m.p.members (l.take (k+1))) (.slice A0 mf ab) h):=zdG (by
       rw[S.out,←R.out]
       exact e'.out)
      clear hq z
      go_wp2_with fail
      refine⟨?_,by simp[intOf];omega⟩
      first|exact⟨k+1,h,by omega,by go_num,HN⟩|((repeat apply Exists.intro);exact⟨⟨k+1,h,by omega,by go_num,HN⟩,rfl⟩)
   ·have bk:k=s:=by omega
    subst bk
    have bi:¬(k:Int) < (k:Int):=by omega
    have a6:l.take k=l:=List.take_of_length_le (by rw[a4.out];exact Nat.le_refl _)
    rw[a6] at G R
    go_wp2_with fail
    go_meet
    exact⟨A0,ab,h,by rw[R.out],G⟩
 case rest=>
  clear ey
  obtain⟨Af,cf,an,rfl,a1⟩:=hcut
  obtain⟨wf,rfl⟩:∃wf:World,wf=wc:=⟨_,rfl⟩
  obtain⟨F,ai⟩:∃F,zI m.p.members l=F:=⟨_,rfl⟩
  rw[ai] at a1 HR ⊢
  have a7:=zdG ai
  obtain⟨nf,b5⟩:∃nf,F.length=nf:=⟨_,rfl⟩
  have ki:nf≤s:=by
   rw[←b5,←ai]
   have:=Us m.p.members l s
   rw[List.take_of_length_le (by rw[a4.out];exact Nat.le_refl _)] at this
   exact this
  rw[b5] at a1
  have f1:=a1.out.sl
  have gn:=a1.out.nil
  rw[b5] at f1 ⊢
  have du:nf=0→Value.slice Af nf cf=.slice none 0 0:=fun e=>by
   exact gn (List.eq_nil_of_length_eq_zero (by rw[b5];exact e))
  have ah:=zdG b5
  have go:=zdG f1
  have gp:=zdG du
  have bl:∀u∈F.map encI,u.oneCell'=true:=fun u hu=>by
   obtain⟨y,_,rfl⟩:=List.mem_map.1 hu
   rfl
  have dv:=zdG bl
  clear ai b5 f1 gn du bl
  go_wp2_with (first
   |(at_builtin;refine YA rfl _ _ 37 rfl Tryz.underlying37 hi fq fs ft rfl (by decide) rfl (go.out.reads [] (by simp)) gp.out rfl dv.out (by unfold maxLen;omega) (by omega) ?_)
   |fail)
  intro v2 J w7 fu j3 fv j4
  have cq:Below wf.heap.size wf w7:=j3.below (Nat.le_refl _) (by simp)
  have jl:=zdG cq
  have bm:Hid (LsR t w7 F v2 J):=zdG ⟨by rw[ah.out];exact fu,fun b hb=>by
   rcases fv with e|⟨k,e,hk⟩
   ·rw[e] at hb
    cases hb
   ·rw[e] at hb
    injection hb with hb
    have:=a1.out.below.size
    omega,a1.out.below.trans (cq.mono a1.out.below.size),fun e=>j4 (by rw[←ah.out,e];rfl)⟩
  have gq:=zdG (a1.out.later cq)
  have jm:Hid (∀b,J=some b→an≠some b):=zdG (fun b hb e=>by
   have d:=a1.out.sl.lt b e
   rcases fv with e2|⟨k,e2,hk⟩
   ·rw[e2] at hb
    cases hb
   ·rw[e2] at hb
    injection hb with hb
    omega)
  obtain⟨A7,c7,rfl,_,_⟩:=fu.form
  obtain⟨e0,e1,e2,e3,e4,e5,e6,e7⟩:=ex.out w7 bm.out.below
  clear fu j3 fv j4 cq jl
  go_upto_block 3 with(first
   |(go_at_call 133;refine(gi.out _ bm.out.below).mono ?_;rintro e w8 ⟨A8,c8,h8,rfl,j5,j6,H⟩;have gr:=zdG j5;have gs:=zdG (bm.out.later H);have gu:=zdG (gq.out.later H);have gv:Hid (∀b,J=some b→h8≠some b∧an≠some b):=zdG (fun b hb=>⟨fun e=>(by have d:=j6 b e;have h3:=bm.out.sl.lt b hb;omega),jm.out b hb⟩);clear j5 j6 H)
   |fail)
  clear e0 e1 e2 e3 e4 e5 e6 e7 bm gq
  have f2:Hid (LsR t w8 (F++((m.p.members.map (·.1)).take 0).filter (fun b=>!decide (b∈l))) (.slice A7 nf c7) J):=zdG (by
   rw[List.take_zero,List.filter_nil,List.append_nil]
   exact gs.out)
  have gw:Hid (∀b,J=some b→h8≠some b∧an≠some b):=gv
  go_cut [11] (fun v Q=>∃(A:Option Addr) (c:Nat) (h:Option Nat),v=.slice A (F++uK m.p.members l).length c∧Hid (LsR t Q (F++uK m.p.members l) (.slice A (F++uK m.p.members l).length c) h)∧Hid (LsR t Q F (.slice Af nf cf) an))
  case first=>
   go_wp2_with fail
   go_loopw [11,14] (fun v iv wr=>∃(k:Nat) (h:Option Nat),k≤D∧iv=.int .i64 (k:Nat)∧Hid (LsR t wr (F++((m.p.members.map (·.1)).take k).filter (fun b=>!decide (b∈l))) v h)∧Hid (Sl wr 3 1 (.slice A8 D c8) h8 D ((yF m.p.members).map encI))∧Hid (LsR t wr F (.slice Af nf cf) an)∧Hid (∀b,h=some b→h8≠some b∧an≠some b)) (fun _ iv _=>D - (intOf iv).toNat)
   case atStart=>exact⟨0,J,Nat.zero_le _,rfl,f2,gr,gu,gw⟩
   case round=>
    clear f2
    obtain⟨k,h,hk,rfl,G,H8,ad,HD⟩:=hrel
    obtain⟨A0,ab,rfl,_,_⟩:=G.out.sl.form
    obtain⟨b6,ae⟩:∃b6,F++((m.p.members.map (·.1)).take k).filter (fun b=>!decide (b∈l))=b6:=⟨_,rfl⟩
    rw[ae] at G
    have jn:b6.length≤nf+k:=by
     rw[←ae,List.length_append,ah.out]
     have d:=List.length_filter_le (fun b=>!decide (b∈l)) ((m.p.members.map (·.1)).take k)
     rw[List.length_take] at d
     omega
    have bn:=zdG ae
    rw[ae]
    obtain⟨mc,fw⟩:∃mc,b6.length=mc:=⟨_,rfl⟩
    rw[fw] at jn ⊢
    have cr:=zdG fw
    clear ae fw
    by_cases ca:k < D
    ·have K:k < (m.p.members.map (·.1)).length:=by rw[List.length_map,ev.out];exact ca
     have bi:(k:Int) < (D:Int):=by omega
     have gj:(0:Int)≤(k:Int):=by omega
     have gk:IntKind.i64.wrap ((k:Int)+1)=(k:Int)+1:=IntWalk.i64_in _ (by omega)
     obtain⟨b3,j,ei,de,ac,_,_,Z,n⟩:=H8.out.at_ (by omega)
     injection ac with hva1 hvx hva3
     subst hva1 hva3
     clear hvx
     obtain⟨a,r⟩:∃a,(m.p.members.map (·.1))[k]=a:=⟨_,rfl⟩
     have cs:wr.cell? ⟨b3,j+k,none⟩=some (.int .i64 a):=(n k (by omega)).1.trans (by
      show ((m.p.members.map (·.1)).map encI)[k]?=_
      rw[List.getElem?_map,List.getElem?_eq_getElem K,r]
      rfl)
     have I:=zbM m.p.members l k K
     rw[r] at I
     have bo:=QM (.slice A3 s p3) [] l a wr (by
      rw[a4.out]
      exact bh.out wr G.out.below) (by rw[a4.out];omega)
     obtain⟨dd,fx⟩:∃dd,decide (a∈l)=dd:=⟨_,rfl⟩
     rw[fx] at bo
     have S:=zdG I
     have gx:=zdG fx
     have ag:=G.out.sl
     rw[cr.out] at ag
     have f0:=zdG ag
     clear n I r fx ag de
     cases dd with
     |true=>
      have a8:a∈l:=of_decide_eq_true gx.out
      have HN:Hid (LsR t wr (F++((m.p.members.map (·.1)).take (k+1)).filter (fun b=>!decide (b∈l))) (.slice A0 mc ab) h):=zdG (by
       rw[S.out,if_pos a8,bn.out,←cr.out]
       exact G.out)
      clear a8
      go_wp2_with (first
       |(go_at_call 146;refine bo.mono ?_;rintro e w5 ⟨rfl,rfl⟩;clear bo)
       |fail)
      refine⟨?_,by simp[intOf];omega⟩
      first|exact⟨k+1,h,by omega,by go_num,HN,H8,ad,HD⟩|((repeat apply Exists.intro);exact⟨⟨k+1,h,by omega,by go_num,HN,H8,ad,HD⟩,rfl⟩)
     |false=>
      have a8:¬a∈l:=of_decide_eq_false gx.out
      have dw:F++((m.p.members.map (·.1)).take (k+1)).filter (fun b=>!decide (b∈l))=b6++[a]:=by
       rw[S.out,if_neg a8,←List.append_assoc,bn.out]
      have gy:=zdG dw
      clear a8 dw
      go_wp2_with (first
       |(go_at_call 146;refine bo.mono ?_;rintro e w5 ⟨rfl,rfl⟩;clear bo)
       |(at_builtin;refine zC rfl _ _ 37 rfl Tryz.underlying37 hi fq fs ft rfl (by decide) f0.out rfl 1 1 rfl rfl ?_ ?_ ?_ ?_)
       |fail)
      any_goals (first|(simp[Value.oneCell'];done)|(unfold maxLen;omega)|omega|rfl)
      ·intro v3 df w9 U am a0
       have HN:Hid (LsR t w9 (F++((m.p.members.map (·.1)).take (k+1)).filter (fun b=>!decide (b∈l))) v3 df):=zdG (by
        rw[gy.out]
        exact G.out.push a (by rw[cr.out];exact U) am a0)
       have gz:=zdG (H8.out.chg am (fun b hb hm=>(HD.out b (by simpa using hm)).1 hb))
       have dx:=zdG (ad.out.keepChg am (fun b hb hm=>(HD.out b (by simpa using hm)).2 hb) (fun b hb=>G.out.own b (by simpa using hb)))
       have g':Hid (∀b,df=some b→h8≠some b∧an≠some b):=zdG (fun b hb=>by
        rcases a0 with e|⟨k2,e,hk2⟩
        ·exact HD.out b (by rw[←e];exact hb)
        ·rw[e] at hb
         injection hb with hb
         refine⟨fun e8=>?_,fun e8=>?_⟩
         ·have:=H8.out.lt b e8
          omega
         ·have:=ad.out.sl.lt b e8
          omega)
       obtain⟨A9,j2,rfl,_,_⟩:=U.form
       clear U am a0
       go_wp2_with fail
       refine⟨?_,by simp[intOf];omega⟩
       first|exact⟨k+1,df,by omega,by go_num,HN,gz,dx,g'⟩|((repeat apply Exists.intro);exact⟨⟨k+1,df,by omega,by go_num,HN,gz,dx,g'⟩,rfl⟩)
    ·have bk:k=D:=by omega
     subst bk
     have bi:¬(k:Int) < (k:Int):=by omega
     have a6:(m.p.members.map (·.1)).take k=m.p.members.map (·.1):=List.take_of_length_le (by rw[List.length_map,ev.out];exact Nat.le_refl _)
     have h0:b6=F++uK m.p.members l:=by
      rw[←bn.out,a6]
      rfl
     have ha:=zdG h0
     clear a6 h0
     go_wp2_with fail
     go_meet
     exact⟨A0,ab,h,by rw[←ha.out,cr.out],by rw[←ha.out];exact G,ad⟩
  case rest=>
   clear f2 gr gs gu gw gv
   obtain⟨At,ct,ky,rfl,dg,ad⟩:=hcut
   obtain⟨wt,rfl⟩:∃wt:World,wt=wc:=⟨_,rfl⟩
   obtain⟨tl,dh⟩:∃tl,F++uK m.p.members l=tl:=⟨_,rfl⟩
   rw[dh] at dg HR ⊢
   obtain⟨di,P⟩:∃di,tl.length=di:=⟨_,rfl⟩
   have kr:di≤8589934592:=by
    rw[←P,←dh,List.length_append,ah.out]
    have d:(uK m.p.members l).length≤m.p.members.length:=by
     unfold uK
     refine Nat.le_trans (List.length_filter_le _ _) ?_
     rw[List.length_map]
     exact Nat.le_refl _
    have J:=bd.out
    omega
   have f3:∀i∈rise tl,i∈ids x.boxes:=fun i hi=>by
    rw[vB,←dh,List.mem_append] at hi
    rcases hi with d|d
    ·exact ap.out i (by rw[←a7.out] at d;exact(List.mem_filter.1 d).1)
    ·obtain⟨p,hp,rfl⟩:=List.mem_map.1 (List.mem_filter.1 d).1
     exact(ji.out.each p hp).1
   have ai:∀i∈F,i∈ids x.boxes:=fun i hi=>ap.out i (by rw[←a7.out] at hi;exact(List.mem_filter.1 hi).1)
   have dy:F.Nodup:=by
    rw[←a7.out]
    exact(xC ga.out).sublist List.filter_sublist
   have cu:=Vr wt (.slice At di ct) [] tl (by rw[P];have d:=dg.out.sl;rw[P] at d;exact d.reads [] (by simp)) (by rw[P];omega)
   have hd:=zY tl
   obtain⟨T,hT⟩:∃T,rise tl=T:=⟨_,rfl⟩
   rw[hT] at HR f3 hd
   simp only[hT] at cu
   obtain⟨nt,dj⟩:∃nt,T.length=nt:=⟨_,rfl⟩
   simp only[dj] at cu
   rw[dj,P] at hd
   have b0:=zdG dj
   have hg:=zdG cu
   have jo:=zdG f3
   have jp:=zdG ai
   have kj:=zdG dy
   have cv:=zdG dg.out.below
   rw[P]
   clear cu f3 ai dy hT dj dh P dg
   go_upto_region 24 with(first
    |(go_at_call 119;refine hg.out.mono ?_;rintro e w9 ⟨A9,c9,h9,rfl,U,j7,a0⟩;have f4:=zdG U;have f5:=zdG j7;have hl:=zdG a0;clear U j7 a0)
    |fail)
   have a9:Hid (Below w.heap.size w w9):=zdG (za (az.out.trans (cv.out.mono az.out.size)) f5.out)
   have hn:Hid (Below t.heap.size t w9):=zdG (za cv.out f5.out)
   by_cases ax:nt=0
   ·subst ax
    have hr:T=[]:=List.eq_nil_of_length_eq_zero b0.out
    have bp:Hid (rr=(x,0)):=zdG (by rw[HR.out,if_pos hr])
    clear hr
    go_wp2_with fail
    go_ret
    rw[bp.out]
    exact⟨rfl,q,ze.of_below HW.out.at_ a9.out⟩
   have jq:((nt:Int)==0)=false:=by simpa using ax
   have dz:¬T=[]:=fun e=>ax (by rw[←b0.out,e];rfl)
   have bq:=HR.out
   rw[if_neg dz] at bq
   have aj:=JK w9 g q x (.slice Af nf cf) [] F (cn.out w9 a9.out) HW.out.zcp (by
    rw[ah.out]
    have d:=(ad.out.later f5.out).sl
    rw[ah.out] at d
    exact d.reads [] (by simp)) (by rw[ah.out];omega) jp.out
   have f6:=fun W (hb:Below w.heap.size w W)=>uI W g q x (cn.out W hb) HF.out
   obtain⟨sp,fy⟩:∃sp,F.any x.spent=sp:=⟨_,rfl⟩
   obtain⟨en,fz⟩:∃en,x.ends=en:=⟨_,rfl⟩
   rw[fy] at aj bq
   rw[fz] at bq
   simp only[fz] at f6
   have ht:=zdG fy
   have X:=zdG aj
   have f7:=zdG f6
   have cw:=zdG bq
   clear fy fz aj f6 bq dz HR ax
   cases sp with
   |true=>
    have bp:Hid (rr=(x,11)):=zdG (by rw[cw.out];simp)
    go_wp2_with (first
     |(go_at_call 122;refine X.out.mono ?_;rintro e a2 ⟨rfl,E⟩;have o:=zdG (za a9.out E);clear E)
     |fail)
    go_ret
    rw[bp.out]
    exact⟨rfl,q,ze.of_below HW.out.at_ o.out⟩
   |false=>
   cases en with
   |true=>
    have bp:Hid (rr=(x,11)):=zdG (by rw[cw.out];simp)
    go_wp2_with (first
     |(go_at_call 122;refine X.out.mono ?_;rintro e a2 ⟨rfl,E⟩;have o:=zdG (za a9.out E);clear E)
     |(go_at_call 107;refine(f7.out _ o.out).mono ?_;rintro e f' ⟨rfl,N⟩;have ar:=zdG N;clear N)
     |fail)
    go_ret
    rw[bp.out]
    exact⟨rfl,q,(ze.of_below HW.out.at_ o.out).trans ar.out⟩
   |false=>
   go_upto_block 5 with(first
    |(go_at_call 122;refine X.out.mono ?_;rintro e a2 ⟨rfl,E⟩;have o:=zdG (za a9.out E);have br:=zdG (za hn.out E);have hv:=zdG (f4.out.keep (fun b hb=>E.block b (f4.out.lt b hb)));clear E)
    |(go_at_call 107;refine(f7.out _ o.out).mono ?_;rintro e f' ⟨rfl,N⟩;have N:ze a2 f' g q {x with clock:=x.clock+1} q:=N;have ar:=zdG N;clear N)
    |fail)
   have hw:=zdG (cp.out.keep (fun b hb=>br.out.block b (cp.out.lt b hb)))
   have f8:Hid (Blk a2 B 54 #[.int .i64 m0,.int .i64 m1,.string ⟨m2.toArray⟩,.int .i64 m3,.slice Ak lk ck,.slice Am D cm,.int .i64 m6,.int .i64 m7]):=zdG (dt.out.below br.out dt.out.lt)
   have d':Hid (rr=({{x with clock:=x.clock+1} with boxes:=zf (x.clock+1) T (numbers F x.boxes).1,mails:=x.mails.set i {m.p with members:=l.map (VS m.p.members x.boxes),mod:=x.clock+1},log:=x.log.add (zn (x.clock+1) T++[⟨x.clock+1,2,id,2⟩])},0)):=zdG (by rw[cw.out];rfl)
   have e9:=HW.out.zcp
   have hy:∀k (hk:k < l.length),uq m.p.members l[k]=0→zw (numbers (zI m.p.members (l.take k)) x.boxes).1 l[k]=zw x.boxes l[k]∧0≤zw (numbers (zI m.p.members (l.take k)) x.boxes).1 l[k]∧zw (numbers (zI m.p.members (l.take k)) x.boxes).1 l[k]≤4294967296:=fun k hk hu=>by
    have d:=YJ m.p.members l k hk
    rw[if_pos hu] at d
    have J:(zI m.p.members (l.take (k+1))).Nodup:=((xC ga.out).sublist (List.take_sublist _ _)).sublist List.filter_sublist
    rw[d] at J
    have h3:∀i∈zI m.p.members (l.take k),zw x.boxes i≤x.cfg.maxUid:=fun i hi=>by
     have h4:i∈F:=by
      rw[←a7.out]
      have h5:=List.mem_filter.1 hi
      exact List.mem_filter.2 ⟨List.mem_of_mem_take h5.1,h5.2⟩
     have h6:=(List.any_eq_false.1 ht.out) i h4
     have h7:¬x.cfg.maxUid < zw x.boxes i:=by simpa[Acc.spent] using h6
     omega
    exact⟨VW HF.out.idsB J,Zc HF.out.cfg HF.out.idsB HF.out.box _ (J.sublist (List.sublist_append_left _ _)) h3 _ (ap.out _ (List.getElem_mem hk))⟩
   have jr:=zdG hy
   have ks:=zdG (cn.out a2 o.out)
   have f9:Hid (PmR w a2 f' g q {x with clock:=x.clock+1} l m.p.members x.boxes 0 (.slice none 0 0)):=zdG ⟨(ze.of_below HW.out.at_ o.out).trans ar.out,ar.out.chg,⟨none,Sl.nil _ _ _,fun b hb=>by cases hb⟩⟩
   clear hy ex gh gi f4 ad X f7 cw hg bh go gp dv
   obtain⟨n0,k1,k3,k4,k5⟩:=info_parts Try.infoMember2
   go_cut [15] (fun v Q=>∃A c,v=.slice A s c∧Hid (PmR w a2 Q g q {x with clock:=x.clock+1} l m.p.members x.boxes s (.slice A s c)))
   case first=>
    go_wp2_with fail
    go_loopw [15,16] (fun mv iv wr=>∃(k:Nat) (A:Option Addr) (c:Nat),k≤s∧mv=.slice A k c∧iv=.int .i64 (k:Nat)∧Hid (PmR w a2 wr g q {x with clock:=x.clock+1} l m.p.members x.boxes k (.slice A k c))) (fun _ iv _=>s - (intOf iv).toNat)
    case atStart=>exact⟨0,none,0,Nat.zero_le _,rfl,rfl,f9⟩
    case round=>
     clear f9
     obtain⟨k,Ax,cx,hk,rfl,rfl,G⟩:=hrel
     by_cases ca:k < s
     ·have K:k < l.length:=by rw[a4.out];exact ca
      have bi:(k:Int) < (s:Int):=by omega
      have gj:(0:Int)≤(k:Int):=by omega
      have gk:IntKind.i64.wrap ((k:Int)+1)=(k:Int)+1:=IntWalk.i64_in _ (by omega)
      have hz:=hw.out.zI gc.out HW.out.at_ G.out.ch
      obtain⟨b3,j,ei,de,ac,_,_,Z,n⟩:=hz.at_ (by omega)
      injection ac with hva1 hvx hva3
      subst hva1 hva3
      clear hvx
      obtain⟨a,r⟩:∃a,l[k]=a:=⟨_,rfl⟩
      have a':wr.cell? ⟨b3,j+k,none⟩=some (.int .i64 a):=(n k (by omega)).1.trans (by simp[K,r,encI])
      have fa:Blk wr B 54 #[.int .i64 m0,.int .i64 m1,.string ⟨m2.toArray⟩,.int .i64 m3,.slice Ak lk ck,.slice Am D cm,.int .i64 m6,.int .i64 m7]:=f8.out.zI jk.out HW.out.at_ G.out.ch
      have hK:∀W,Below wr.heap.size wr W→(W.cell? ⟨B,0,none⟩=some (.int .i64 m0)∧W.cell? ⟨B,1,none⟩=some (.int .i64 m1)∧W.cell? ⟨B,2,none⟩=some (.string ⟨m2.toArray⟩)∧W.cell? ⟨B,3,none⟩=some (.int .i64 m3)∧W.cell? ⟨B,4,none⟩=some (.slice Ak lk ck)∧W.cell? ⟨B,5,none⟩=some (.slice Am D cm)∧W.cell? ⟨B,6,none⟩=some (.int .i64 m6)∧W.cell? ⟨B,7,none⟩=some (.int .i64 m7))∧W.cell? ⟨b3,j+k,none⟩=some (.int .i64 a):=fun W hb=>by
       have d:Blk W B 54 #[.int .i64 m0,.int .i64 m1,.string ⟨m2.toArray⟩,.int .i64 m3,.slice Ak lk ck,.slice Am D cm,.int .i64 m6,.int .i64 m7]:=fa.below hb fa.lt
       exact⟨⟨d.cell 0,d.cell 1,d.cell 2,d.cell 3,d.cell 4,d.cell 5,d.cell 6,d.cell 7⟩,(hb.cell (p:=⟨b3,j+k,none⟩) Z).trans a'⟩
      obtain⟨u,hu⟩:∃u,uq m.p.members a=u:=⟨_,rfl⟩
      have I:=YJ m.p.members l k K
      have au:=jr.out k K
      have bs:=ap.out _ (List.getElem_mem K)
      rw[r] at I au bs
      rw[hu] at I au
      have bj:∀W,Below wr.heap.size wr W→Calls Tryz.prog 84 #[.agg #[.int .i64 m0,.int .i64 m1,.string ⟨m2.toArray⟩,.int .i64 m3,.slice Ak lk ck,.slice Am D cm,.int .i64 m6,.int .i64 m7],.int .i64 a] W fun e w'=>e=.returned (.int .i64 u)∧Below W.heap.size W w':=fun W hb=>by
       rw[←hu]
       have d:=(G.out.st.at_.parts m er.out).mem
       rw[eu.out] at d
       exact U5 W m0 m1 m3 m6 m7 ⟨m2.toArray⟩ (.slice Ak lk ck) (.slice Am D cm) m.p.members a ((d.below hb).sub (fun _ _ _ hm=>by cases hm)) (Nat.le_trans bd.out (by decide))
      have ez:=zdG bj
      have HK:=zdG hK
      have S:=zdG I
      have h':=zdG au
      have i1:=zdG bs
      have i2:=zdG r
      have i3:=zdG hu
      have ea:b3∉q.own g:=fun hm=>by
       have d:=HW.out.at_.lt b3 hm
       have J:=gc.out b3 de
       omega
      have i4:=zdG ea
      have i5:=zdG Z
      obtain⟨⟨e0,e1,e2,e3,e4,e5,e6,e7⟩,cs⟩:=hK wr (Below.refl _ _)
      clear n a' hK bj I r hu au bs hz fa ea de
      go_upto_region 32 with(fail)
      go_cut [17] (fun v Q=>v=.int .i64 u∧Hid (Below wr.heap.size wr Q))
      case first=>
       go_region_held3 (fun W=>(W.cell? ⟨B,0,none⟩=some (.int .i64 m0)∧W.cell? ⟨B,1,none⟩=some (.int .i64 m1)∧W.cell? ⟨B,2,none⟩=some (.string ⟨m2.toArray⟩)∧W.cell? ⟨B,3,none⟩=some (.int .i64 m3)∧W.cell? ⟨B,4,none⟩=some (.slice Ak lk ck)∧W.cell? ⟨B,5,none⟩=some (.slice Am D cm)∧W.cell? ⟨B,6,none⟩=some (.int .i64 m6)∧W.cell? ⟨B,7,none⟩=some (.int .i64 m7))∧W.cell? ⟨b3,j+k,none⟩=some (.int .i64 a))
        (first
         |exact HK.out _ (Below.refl _ _)
         |exact HK.out _ (zb _)
         |exact HK.out _ L.out
         |go_keep)
        (first
         |(go_at_call 84;refine(ez.out _ (by first|exact Below.refl _ _|exact zb _)).mono ?_;rintro e w8 ⟨rfl,H⟩;have L:Hid (Below wr.heap.size wr w8):=zdG (by first|exact H|exact za (zb _) H|exact yV H);clear H)
         |fail)
       all_goals
        go_wp2_with fail
        go_meet
        exact⟨rfl,L⟩
      case rest=>
       obtain⟨rfl,L⟩:=hcut
       obtain⟨w8,rfl⟩:∃w8:World,w8=wc:=⟨_,rfl⟩
       have gm:=(HK.out _ L.out).2
       have bt:Hid (ze wr w8 g q {{x with clock:=x.clock+1} with boxes:=(numbers (zI m.p.members (l.take k)) x.boxes).1} q):=zdG (ze.of_below G.out.st.at_ L.out)
       clear e0 e1 e2 e3 e4 e5 e6 e7 cs
       go_upto_if 115 with(fail)
       go_cut [17] (fun v Q=>v=.int .i64 (VS m.p.members x.boxes a).2∧Hid (ze wr Q g q {{x with clock:=x.clock+1} with boxes:=(numbers (zI m.p.members (l.take (k+1))) x.boxes).1} q))
       case first=>
        by_cases z:u=0
        ·have hq:(u==0)=true:=by simpa using z
         have hx:=h'.out z
         have a5:(VS m.p.members x.boxes a).2=zw x.boxes a:=by
          unfold VS
          rw[i3.out,if_pos z]
         have bu:=JC w8 g q {{x with clock:=x.clock+1} with boxes:=(numbers (zI m.p.members (l.take k)) x.boxes).1} bt.out.at_ (by
          show (numbers (zI m.p.members (l.take k)) x.boxes).1.length≤_
          rw[yO]
          exact e9) a (by
          show a∈ids (numbers (zI m.p.members (l.take k)) x.boxes).1
          rw[xH]
          exact i1.out) hx.2
         have eb:(numbers (zI m.p.members (l.take (k+1))) x.boxes).1=bump a (numbers (zI m.p.members (l.take k)) x.boxes).1:=by
          rw[S.out,if_pos z,uG]
         have av:Calls Tryz.prog 124 #[.pointer (some ⟨g,0,none⟩),.int .i64 a] w8 fun e w'=>e=.returned (.int .i64 (VS m.p.members x.boxes a).2)∧ze w8 w' g q {{x with clock:=x.clock+1} with boxes:=(numbers (zI m.p.members (l.take (k+1))) x.boxes).1} q:=by
          rw[eb,a5,←hx.1]
          exact bu
         have bv:=zdG av
         obtain⟨nv,ao⟩:∃nv,(VS m.p.members x.boxes a).2=nv:=⟨_,rfl⟩
         rw[ao] at bv
         have fb:=zdG ao
         clear hx a5 bu eb av z ao
         go_wp2_with (first
          |(go_at_call 124;refine bv.out.mono ?_;rintro e w5 ⟨rfl,j8⟩;have ak:=zdG j8;clear j8)
          |fail)
         go_meet
         exact⟨by rw[fb.out],zdG (bt.out.trans ak.out)⟩
        ·have hq:(u==0)=false:=by simpa using z
         have a5:(VS m.p.members x.boxes a).2=u:=by
          unfold VS
          rw[i3.out,if_neg z]
         have js:=zdG a5
         have ak:Hid (ze wr w8 g q {{x with clock:=x.clock+1} with boxes:=(numbers (zI m.p.members (l.take (k+1))) x.boxes).1} q):=zdG (by
          rw[S.out,if_neg z]
          exact bt.out)
         clear a5 z
         go_wp2_with fail
         go_meet
         exact⟨by rw[js.out],ak⟩
       case rest=>
        obtain⟨rfl,ak⟩:=hcut
        obtain⟨w5,rfl⟩:∃w5:World,w5=wc:=⟨_,rfl⟩
        have kt:w5.cell? ⟨b3,j+k,none⟩=some (.int .i64 a):=(ak.out.chg.cell (p:=⟨b3,j+k,none⟩) i5.out i4.out).trans (HK.out wr (Below.refl _ _)).2
        obtain⟨hh,b7,O⟩:=G.out.mem
        have i6:=b7.zI (fun b hb=>Nat.le_trans o.out.size (O b hb)) HW.out.at_ ak.out.chg
        have i7:=zdG i6
        have R:=zdG O
        obtain⟨nv,ao⟩:∃nv,(VS m.p.members x.boxes a).2=nv:=⟨_,rfl⟩
        rw[ao]
        have fb:=zdG ao
        clear b7 O i6 gm ao
        go_wp2_with (first
         |(at_builtin;refine zC rfl _ _ 52 rfl Tryz.underlying52 k1 k3 k4 k5 rfl (by decide) i7.out rfl 1 1 rfl rfl ?_ ?_ ?_ ?_)
         |fail)
        any_goals (first|(simp[Value.oneCell'];done)|(unfold maxLen;omega)|omega|rfl)
        ·intro v2 k6 w6 dk j9 ja
         obtain⟨A6,c6,rfl,_,_⟩:=dk.form
         have HN:Hid (PmR w a2 w6 g q {x with clock:=x.clock+1} l m.p.members x.boxes (k+1) (.slice A6 (k+1) c6)):=zdG (G.out.next HW.out.at_ o.out.size K ak.out i7.out R.out (by
          rw[i2.out]
          have d:zA (VS m.p.members x.boxes a)=[.int .i64 a,.int .i64 nv]:=by
           rw[←fb.out]
           rfl
          rw[d]
          first|exact dk|(rw[List.map_take];exact dk)) j9 ja)
         clear dk j9 ja
         go_wp2_with fail
         refine⟨?_,by simp[intOf];omega⟩
         first|exact⟨k+1,A6,c6,by omega,rfl,by go_num,HN⟩|((repeat apply Exists.intro);exact⟨⟨k+1,A6,c6,by omega,rfl,by go_num,HN⟩,rfl⟩)
     ·have bk:k=s:=by omega
      subst bk
      have bi:¬(k:Int) < (k:Int):=by omega
      go_wp2_with fail
      go_meet
      exact⟨Ax,cx,rfl,G⟩
   case rest=>
    clear f9 jq
    obtain⟨Ax,cx,rfl,G⟩:=hcut
    obtain⟨we,rfl⟩:∃we:World,we=wc:=⟨_,rfl⟩
    have a6:l.take s=l:=List.take_of_length_le (by rw[a4.out];exact Nat.le_refl _)
    have aw:=G.out.st
    rw[a6,a7.out] at aw
    obtain⟨d9,b7,O⟩:=G.out.mem
    rw[a6] at b7
    have i8:=hv.out.zI (fun b hb=>Nat.le_trans (az.out.trans (cv.out.mono az.out.size)).size (hl.out b hb)) HW.out.at_ G.out.ch
    have bw:Calls Tryz.prog 125 #[.pointer (some ⟨g,0,none⟩),.slice A9 nt c9] we fun e w'=>∃Ae ce he,e=.returned (.slice Ae nt ce)∧Sl w' 177 4 (.slice Ae nt ce) he nt (zM (zn (x.clock+1) T))∧(∀b,he=some b→we.heap.size≤b)∧ze we w' g q {{x with clock:=x.clock+1} with boxes:=zf (x.clock+1) T (numbers F x.boxes).1} q:=by
     have d:=Xc we g q {{x with clock:=x.clock+1} with boxes:=(numbers F x.boxes).1} aw.at_ (by
      show (numbers F x.boxes).1.length≤_
      rw[yO]
      exact e9) T (.slice A9 nt c9) (by
      rw[b0.out]
      exact i8.reads (q.own g) (fun b hb hm=>by
       have d:=HW.out.at_.lt b hm
       have J:=hl.out b hb
       have h3:=(az.out.trans (cv.out.mono az.out.size)).size
       omega)) (by rw[b0.out];omega) (fun i hi=>by
      show i∈ids (numbers F x.boxes).1
      rw[xH]
      exact jo.out i hi)
     refine d.mono ?_
     rintro e w' ⟨v',k7,rfl,g0,k8,k9⟩
     rw[b0.out] at g0
     obtain⟨Ae,ce,rfl,_,_⟩:=g0.form
     exact⟨Ae,ce,k7,rfl,g0,k8,k9⟩
    have fc:=zdG bw
    have bx:=zdG aw
    have i9:=zdG b7
    have R:=zdG O
    clear bw aw b7 O i8 a6
    go_upto_region 37 with(first
     |(go_at_call 125;refine fc.out.mono ?_;rintro e wv ⟨Ae,ce,he,rfl,jb,jc,jd⟩;have ia:=zdG jb;have ib:=zdG jc;have ic:=zdG jd;clear jb jc jd)
     |fail)
    obtain⟨M,g1⟩:∃M,l.map (VS m.p.members x.boxes)=M:=⟨_,rfl⟩
    have ie:M.length=s:=by rw[←g1,List.length_map,a4.out]
    rw[g1] at i9 d'
    have b4:ze w wv g q {{x with clock:=x.clock+1} with boxes:=zf (x.clock+1) T (numbers F x.boxes).1} q:=bx.out.trans ic.out
    have bz:Sl wv 56 2 (.slice Ax s cx) d9 s (zk zA M):=i9.out.zI (fun b hb=>Nat.le_trans o.out.size (R.out b hb)) HW.out.at_ ic.out.chg
    have ig:∀b,d9=some b→b∉q.own g:=fun b hb hm=>by
     have d:=HW.out.at_.lt b hm
     have J:=R.out b hb
     have h3:=o.out.size
     omega
    have al:=gb.out
    have fd:i < x.mails.length:=by rw[bb.out];exact g7
    have hm:q.ms[i]=m:=HM.out
    have fe:=b4.at_.parts m er.out
    have ih:yD wv (q.own g) ⟨{m.p with members:=M},m.kv,.slice Ax s cx⟩:=by
     refine⟨fe.keys,?_,fe.tk,bz.ty⟩
     show RdS wv (q.own g) 2 (.slice Ax s cx) M.length (zk zA M)
     rw[ie]
     exact bz.reads _ ig
    obtain⟨b2,o2,c2,dl,_,_,_,_,ay⟩:=b4.at_.xu i fd al
    have ii:=b4.at_.vD dl i fd al 5 (by omega) (.slice Ax s cx) ⟨{m.p with members:=M},m.kv,.slice Ax s cx⟩ (by rw[hm];rfl) ih
    have ff:wv.cell? ⟨g,11,none⟩=some (.slice (some ⟨b2,o2,none⟩) nm c2):=by
     have d:=b4.at_.zU
     rw[dl] at d
     rw[←bb.out]
     exact d
    rw[hm] at ay
    have d5:wv.cell? ⟨b2,o2+i * 8+5,none⟩=some (.slice Am D cm):=by
     rw[←eu.out]
     exact(ay 5 (by omega)).1
    have jt:=(ay 5 (by omega)).2
    have ju:=zdG b4
    have b':=zdG ii
    have fg:=zdG dl
    clear ay ih fe ii b4 bz ig dl g1 ie
    go_upto_region 38 with(fail)
    obtain⟨Q,je⟩:∃Q:World,Q=wv.setCell ⟨b2,o2+i * 8+5,none⟩ (.slice Ax s cx):=⟨_,rfl⟩
    rw[←je] at b' ⊢
    clear je d5 jt ff
    have aa:=b'.out.at_
    have fh:i < (q.ms.set i ⟨{m.p with members:=M},m.kv,.slice Ax s cx⟩).length:=by rw[List.length_set];exact al
    have c0:i < (x.mails.set i {m.p with members:=M}).length:=by rw[List.length_set];exact fd
    obtain⟨b3,o3,c3,jf,ej,_,_,_,n⟩:=aa.xu i c0 fh
    obtain⟨ac,_,_⟩:=Value.slice.inj (fg.out.symm.trans jf)
    simp only[Option.some.injEq,Addr.mk.injEq,and_true] at ac
    obtain⟨rfl,rfl⟩:=ac
    simp only[List.getElem_set_self] at n
    have d6:Q.cell? ⟨b2,o2+i * 8+6,none⟩=some (.int .i64 m.p.mod):=(n 6 (by omega)).1
    have jv:=(n 6 (by omega)).2
    have ff:Q.cell? ⟨g,11,none⟩=some (.slice (some ⟨b2,o2,none⟩) nm c2):=by
     have d:=aa.zU
     rw[show ({q with ms:=q.ms.set i ⟨{m.p with members:=M},m.kv,.slice Ax s cx⟩}:zl).vm=q.vm from rfl,fg.out] at d
     rw[←bb.out]
     exact d
    have l9:Q.cell? ⟨g,9,none⟩=some (.int .i64 (x.clock+1)):=aa.yo
    have ij:(⟨{m.p with members:=M},m.kv,.slice Ax s cx⟩:zR)∈q.ms.set i ⟨{m.p with members:=M},m.kv,.slice Ax s cx⟩:=List.mem_set al _
    have c4:=(aa.later (zb Q)).parts _ ij
    have ik:=(aa.later (zb Q)).vD fg.out i c0 fh 6 (by omega) (.int .i64 (x.clock+1)) ⟨{m.p with members:=M,mod:=x.clock+1},m.kv,.slice Ax s cx⟩ (by simp only[List.getElem_set_self];rfl) ⟨c4.keys,c4.mem,c4.tk,c4.tm⟩
    have fi:=(b'.out.trans (ze.of_below aa (zb Q))).trans ik
    simp only[List.set_set] at fi
    have ec:=zdG fi
    obtain⟨dm,g2⟩:∃dm,x.clock+1=dm:=⟨_,rfl⟩
    have jw:=zdG g2
    rw[g2] at l9
    have ku:b2≠g:=fun e=>aa.apart.hm (by rw[ej,e])
    obtain⟨md,jg⟩:∃md,m.p.mod=md:=⟨_,rfl⟩
    rw[jg] at d6
    clear aa n jf ij c4 ik fi g2 fh c0 ej jg
    go_cut [] (fun wz=>Hid (wz=Q.drew.setCell ⟨b2,o2+i * 8+6,none⟩ (.int .i64 dm)))
    case first=>
     go_region_held3 (fun W=>W.cell? ⟨g,11,none⟩=some (.slice (some ⟨b2,o2,none⟩) nm c2)∧W.cell? ⟨g,9,none⟩=some (.int .i64 dm)) (go_keep) (fail)
     all_goals
      go_wp2_with fail
      go_meet
      exact zdG rfl
    case rest=>
     obtain⟨wb,rfl⟩:∃wb:World,wb=wc:=⟨_,rfl⟩
     have fj:=hcut.out
     rw[←jw.out] at fj
     rw[←fj] at ec
     clear fj hcut l9 ff d6 jv
     obtain⟨j0,hj,ka,kb,kc⟩:=info_parts Try.infoEntry
     have fk:∀b,he=some b→b∉q.own g:=fun b hb hm=>by
      have d:=ib.out b hb
      have J:=bx.out.at_.lt b hm
      omega
     have il:∀b,he=some b→w.heap.size≤b:=fun b hb=>Nat.le_trans bx.out.chg.size (ib.out b hb)
     obtain⟨x3,dn⟩:∃x3:Acc,x3={{x with clock:=x.clock+1} with boxes:=zf (x.clock+1) T (numbers F x.boxes).1,mails:=x.mails.set i {m.p with members:=M,mod:=x.clock+1}}:=⟨_,rfl⟩
     have jx:∃q3,ze wv wb g q x3 q3:=⟨_,by rw[dn];exact ec.out⟩
     obtain⟨q3,dp⟩:=jx
     have im:Sl wb 177 4 (.slice Ae nt ce) he nt (zM (zn (x.clock+1) T)):=ia.out.chg dp.chg fk
     have io:∀b,he=some b→b∉q3.own g:=fun b hb hm=>by
      rcases dp.own b hm with d|d
      ·exact fk b hb d
      ·have:=ia.out.lt b hb
       omega
     have fl:ze w wb g q x3 q3:=ju.out.trans dp
     have c5:=vK wb g q3 x3 2 id 2 fl.at_
     rw[show x3.clock=x.clock+1 by rw[dn]] at c5
     have ed:=zdG im
     have ip:=zdG io
     have jy:=zdG il
     have cy:=zdG fl
     have iq:=zdG dn
     clear im io il fl dn fk dp hm
     go_wp2_with (first
      |(go_at_call 109;refine c5.mono ?_;rintro e kz ⟨rfl,cc⟩;have ir:=zdG (ed.out.chg (Chg.of_below cc []) (by simp));have ee:=zdG cc;clear c5 cc)
      |(at_builtin;refine zC rfl _ _ 102 rfl Tryz.underlying102 hj ka kb kc rfl (by decide) ir.out rfl 1 1 rfl rfl ?_ ?_ ?_ ?_)
      |fail)
     any_goals (first|(simp[Value.oneCell'];done)|(unfold maxLen;omega)|omega|rfl)
     ·intro v2 k6 dq cd ek el
      obtain⟨k',l0,rfl,_,_⟩:=cd.form
      have hc:Chg he.toList wb dq:=(Chg.of_below ee.out _).trans ek (fun i hi=>.inl hi)
      have Y:zi dq g q3 x3:=zi.chgE cy.out.at_ ed.out ip.out hc
      have ef:ze w dq g q x3 q3:=⟨Y,cy.out.chg.trans hc (fun k hk=>.inr (jy.out k (by simpa using hk))),cy.out.own⟩
      have cz:x3.log=x.log:=by rw[iq.out]
      have fm:=HF.out.log
      have jz:=HF.out.cfg.log
      have eg:=Yh (e:=zn (x.clock+1) T++[⟨x.clock+1,2,id,2⟩]) Y (by rw[cz,fm.1];omega) (by rw[cz,fm.1];omega) (by rw[cz];omega) (by rw[zP];exact cd) (by
       rw[List.length_append,yC,b0.out]
       rfl) (by omega) (fun b hb hm=>by
       rcases el with d|⟨b2,d,J⟩
       ·exact ip.out b (by rw[←d];exact hb) hm
       ·rw[d] at hb
        injection hb with hb
        have h3:=cy.out.at_.lt b hm
        have h4:=ee.out.size
        omega)
      have kw:dq.cell? ⟨g,12,none⟩=some (.pointer (some ⟨q3.gl,0,none⟩)):=Y.zV
      have it:=zdG ef
      clear Y ef cz fm jz hc cd ek el
      go_wp2_with (first
       |(go_at_call 108;refine eg.mono ?_;rintro e l1 ⟨rfl,kd,_,em⟩;have iu:=zdG em;clear em eg)
       |fail)
      go_ret
      rw[d'.out]
      have d:=it.out.trans iu.out
      rw[iq.out] at d
      exact⟨rfl,kd,d⟩
theorem Um (w:World)(g:Nat)(q:zl)(x:Acc)(id:Int)(is:List Int)(vb:Value)(Sb:List Nat)(h:xX w g q x is vb Sb) :
  Calls Tryz.prog 54 #[.pointer (some ⟨g,0,none⟩),.int .i64 id,vb] w (uh w g q (yB x id is)):=by
 by_cases c:id∈vw x.mails
 case neg=>exact QK w g q x id is vb Sb h c
 by_cases a:is=[]
 ·exact Jz w g q x id is vb Sb h c a
 cases b:(rise is).any (fun id=>!zu x.boxes id) with
 |true=>exact zau w g q x id is vb Sb h c a b
 |false=>exact zcA w g q x id is vb Sb h c a b
end Go.Proofs.YtfhlhdmhgheonaaGreatDoor
