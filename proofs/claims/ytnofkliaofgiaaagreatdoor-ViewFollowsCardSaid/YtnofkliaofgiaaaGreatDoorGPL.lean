/-
  The store's Place, whole.
-/
import Derived.Test.YtnofkliaofgiaaaGreatDoorGPA
import Derived.Test.YtnofkliaofgiaaaGreatDoorGR
import Derived.Test.YtnofkliaofgiaaaGreatDoorGV
set_option maxRecDepth 100000
set_option maxHeartbeats 8000000
open Go.Proofs.Tryz
open Bool renaming false_eq_true→Px
open List renaming eq_nil_of_length_eq_zero→Oi
open _root_ renaming List→Ob,if_neg→Om,if_pos→OG
namespace Go.Proofs.YtnofkliaofgiaaaGreatDoor
open Go.RowKit
theorem CU {x:Acc}{id:Int}{bs:Ob Int}{m:zR}(hfi:x.zC.find? (fun m=>decide (m.id=id))=some m)(hne:bs≠[])(hw:((rise bs).any fun id=>!zZ x.zg id)=false) :
    xn x id bs=if ((rise bs).filter fun b=>!decide (b∈x9 m.zr)).length+((x9 m.zr).filter fun b=>!decide (b∈rise bs)).length=0 then (x,0)
      else if x.ends||((rise bs).filter fun b=>!decide (b∈x9 m.zr)).any x.spent then (x,11)
      else ({x with zA:=x.zA+1,zg:=zI (x.zA+1) (rise (((x9 m.zr).filter fun b=>!decide (b∈rise bs))++((rise bs).filter fun b=>!decide (b∈x9 m.zr)))) (zM ((rise bs).filter fun b=>!decide (b∈x9 m.zr)) x.zg).1,zC:=xz id (fun m'=>{m' with zr:=Z9 ((m'.zr.filter fun p=>!decide (p.1∈((x9 m.zr).filter fun b=>!decide (b∈rise bs))))++(zM ((rise bs).filter fun b=>!decide (b∈x9 m.zr)) x.zg).2),mod:=x.zA+1}) x.zC,log:=x.log.add (zX (x.zA+1) (rise (((x9 m.zr).filter fun b=>!decide (b∈rise bs))++((rise bs).filter fun b=>!decide (b∈x9 m.zr))))++[⟨x.zA+1,2,id,2⟩])},0):=by
  unfold xn
  rw[hfi]
  simp only[Om hne,hw,Px,if_false]
  rfl
theorem Jb:PlaceOk:=by
  intro w g q x j n D E h u z R
  by_cases M:j∈Zb x.zC
  case neg=>exact tO w g q x j n D h u M
  have L:j∈Zb (q.ms.map (·.p)):=by rw[h.same];exact M
  obtain⟨i,y,f,_,_,J,k⟩:=YI L
  rw[h.same] at k
  by_cases a:n=[]
  · subst a
    obtain⟨A,c,rfl,_,_⟩:=z.form
    exact nE w g q x j A c h u i y f k
  cases B:((rise n).any fun j=>!zZ x.zg j) with
  |true=>exact eM w g q x j n D E h u z O a i y f k B
  |false=>
    obtain⟨t,d⟩:∃t,q.ms[i]=t:=⟨_,rfl⟩
    rw[d] at k
    have v:=CU k a B
    obtain⟨o,l⟩:∃o,((rise n).filter fun b=>!decide (b∈x9 t.p.zr))=o:=⟨_,rfl⟩
    obtain⟨s,m⟩:∃s,((x9 t.p.zr).filter fun b=>!decide (b∈rise n))=s:=⟨_,rfl⟩
    rw[l,m] at v
    by_cases P:o.length+s.length=0
    · have G:o=[]:=Oi O
      have H:s=[]:=Oi O
      rw[v,OG P]
      refine(tP w g q x j n D E h u z O a i y f B t d (l.trans G) (m.trans H)).mono ?_
      rintro e K ⟨rfl,F⟩
      exact⟨rfl,q,zL.of_below h F⟩
    · rw[Om P] at v
      by_cases hen:x.N3.ym≤x.zA
      · rw[v,OG Va]
        refine(tN w g q x j n D E h u z O a i y f B t d o s l m O hen).mono ?_
        rintro e K ⟨rfl,F⟩
        exact⟨rfl,q,zL.of_below h F⟩
      · cases r:o.any x.spent with
        |true=>
          rw[v,OG (by simp[r])]
          refine(nG w g q x j n D E h u z O a i y f B t d o s l m O hen r).mono ?_
          rintro e K ⟨rfl,F⟩
          exact⟨rfl,q,zL.of_below h F⟩
        |false=>
          rw[v,Om (by simp[r,Acc.ends,hen])]
          refine(Lh w g q x j n D E h u z O a i y f B t d o s l m O hen r).mono ?_
          rintro e K ⟨rfl,Q,S⟩
          refine⟨rfl,Q,?_⟩
          have N:=J (fun m'=>{m' with zr:=Z9 ((m'.zr.filter fun p=>!decide (p.1∈s))++(zM o x.zg).2),mod:=x.zA+1})
          rw[h.same,d] at N
          show zL w K g q ({x with zA:=x.zA+1,zg:=_,zC:=xz j _ x.zC,log:=_}:Acc) Q
          rw[N]
          exact S
end Go.Proofs.YtnofkliaofgiaaaGreatDoor
