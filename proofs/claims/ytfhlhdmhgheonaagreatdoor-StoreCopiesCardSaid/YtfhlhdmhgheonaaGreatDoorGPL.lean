/-
  The store's Place, whole.
-/
import Derived.Test.YtfhlhdmhgheonaaGreatDoorGPA
import Derived.Test.YtfhlhdmhgheonaaGreatDoorGR
import Derived.Test.YtfhlhdmhgheonaaGreatDoorGV
set_option maxRecDepth 100000
set_option maxHeartbeats 8000000
namespace Go.Proofs.YtfhlhdmhgheonaaGreatDoor
open Go.RowKit
theorem zc9 {x:Acc}{id:Int}{bs:List Int}{m:zX}(hfi:x.mails.find? (fun m=>decide (m.id=id))=some m)(hne:bs≠[])(hw:((rise bs).any fun id=>!zu x.boxes id)=false) :
    yB x id bs=if ((rise bs).filter fun b=>!decide (b∈yF m.members)).length+((yF m.members).filter fun b=>!decide (b∈rise bs)).length=0 then (x,0)
      else if x.ends||((rise bs).filter fun b=>!decide (b∈yF m.members)).any x.spent then (x,11)
      else ({x with clock:=x.clock+1,boxes:=zf (x.clock+1) (rise (((yF m.members).filter fun b=>!decide (b∈rise bs))++((rise bs).filter fun b=>!decide (b∈yF m.members)))) (numbers ((rise bs).filter fun b=>!decide (b∈yF m.members)) x.boxes).1,mails:=zZ id (fun m'=>{m' with members:=uL ((m'.members.filter fun p=>!decide (p.1∈((yF m.members).filter fun b=>!decide (b∈rise bs))))++(numbers ((rise bs).filter fun b=>!decide (b∈yF m.members)) x.boxes).2),mod:=x.clock+1}) x.mails,log:=x.log.add (zn (x.clock+1) (rise (((yF m.members).filter fun b=>!decide (b∈rise bs))++((rise bs).filter fun b=>!decide (b∈yF m.members))))++[⟨x.clock+1,2,id,2⟩])},0):=by
  unfold yB
  rw[hfi]
  simp only[if_neg hne,hw,Bool.false_eq_true,if_false]
  rfl
theorem Uv:PlaceOk:=by
  intro w g q x j o B G h v C P
  by_cases M:j∈vw x.mails
  case neg=>exact zbk w g q x j o B h v M
  have K:j∈vw (q.ms.map (·.p)):=by rw[h.same];exact M
  obtain⟨i,D,d,_,_,H,l⟩:=Zh K
  rw[h.same] at l
  by_cases a:o=[]
  · subst a
    obtain⟨A,c,rfl,_,_⟩:=C.form
    exact Q7 w g q x j A c h v i D d l
  cases z:((rise o).any fun j=>!zu x.boxes j) with
  |true=>exact Jl w g q x j o B G h v C (by omega) a i D d l z
  |false=>
    obtain⟨t,f⟩:∃t,q.ms[i]=t:=⟨_,rfl⟩
    rw[f] at l
    have y:=zc9 l a z
    obtain⟨s,m⟩:∃s,((rise o).filter fun b=>!decide (b∈yF t.p.members))=s:=⟨_,rfl⟩
    obtain⟨u,n⟩:∃u,((yF t.p.members).filter fun b=>!decide (b∈rise o))=u:=⟨_,rfl⟩
    rw[m,n] at y
    by_cases N:s.length+u.length=0
    · have E:s=[]:=List.eq_nil_of_length_eq_zero (by omega)
      have F:u=[]:=List.eq_nil_of_length_eq_zero (by omega)
      rw[y,if_pos N]
      refine(zb7 w g q x j o B G h v C (by omega) a i D d z t f (m.trans E) (n.trans F)).mono ?_
      rintro e J ⟨rfl,I⟩
      exact⟨rfl,q,Turned.of_below h I⟩
    · rw[if_neg N] at y
      by_cases k:x.cfg.maxMod≤x.clock
      · rw[y,if_pos (by simp[Acc.ends,k])]
        refine(zbR w g q x j o B G h v C (by omega) a i D d z t f s u m n (by omega) k).mono ?_
        rintro e J ⟨rfl,I⟩
        exact⟨rfl,q,Turned.of_below h I⟩
      · cases r:s.any x.spent with
        |true=>
          rw[y,if_pos (by simp[r])]
          refine(zaj w g q x j o B G h v C (by omega) a i D d z t f s u m n (by omega) k r).mono ?_
          rintro e J ⟨rfl,I⟩
          exact⟨rfl,q,Turned.of_below h I⟩
        |false=>
          rw[y,if_neg (by simp[r,Acc.ends,k])]
          refine(place_ok w g q x j o B G h v C (by omega) a i D d z t f s u m n (by omega) k r).mono ?_
          rintro e J ⟨rfl,O,Q⟩
          refine⟨rfl,O,?_⟩
          have L:=H (fun m'=>{m' with members:=uL ((m'.members.filter fun p=>!decide (p.1∈u))++(numbers s x.boxes).2),mod:=x.clock+1})
          rw[h.same,f] at L
          show Turned w J g q ({x with clock:=x.clock+1,boxes:=_,mails:=zZ j _ x.mails,log:=_}:Acc) O
          rw[L]
          exact Q
end Go.Proofs.YtfhlhdmhgheonaaGreatDoor
