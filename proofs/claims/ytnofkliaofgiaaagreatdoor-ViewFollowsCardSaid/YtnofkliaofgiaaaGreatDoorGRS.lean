/-
  The reference's account: a whole list of mailboxes, of emails, stored anew; a slice less one. The walk of the reference's Drop. The walk of the reference's Rename.
-/
import Derived.Test.YtnofkliaofgiaaaGreatDoorGRM
import Derived.Test.YtnofkliaofgiaaaGreatDoorGN
set_option maxRecDepth 100000
set_option maxHeartbeats 8000000
open Go.Proofs.Tryz
open Bool renaming false_eq_true→Px
open Exists renaming intro→OA
open Go renaming Program→Pv,TypeId→Pa,Value→Oe,World→Oc
open Go.Ending renaming returned→RR
open Go.IntKind renaming i64→Ov
open Go.IntWalk renaming i64_in→Og
open Go.Region renaming wanted→P9
open Go.RowKit renaming Below→Od
open Go.RowKit.Below renaming refl→Ok
open Go.Value renaming pointer→RQ,slice→RO,string→RP
open Go.Value.slice renaming inj→OM,injEq→PH
open List renaming any_eq_true→Ps,getElem?_eq_some_iff→OX,getElem_mem→Oj,getElem_of_mem→Pg,getElem_set_self→Ph,length_drop→O8,length_eraseIdx_of_lt→Pq,length_map→Ow,length_set→Pd,length_take→OU,map_cons→OY,mem_append→OO,mem_cons→OB,mem_cons_of_mem→OP,mem_of_find?_eq_some→O2,mem_of_mem_drop→Re
open Nat renaming add_assoc→O1,le_refl→Oq,le_trans→Ol,mul_le_mul_right→PG,zero_le→OE
open Option renaming mem_toList→Pe
open Option.some renaming injEq→Pk
open _root_ renaming ByteArray→Oy,List→Ob,Option→OC,decide_eq_false→OD,decide_eq_true→OS,if_neg→Om,if_pos→OG
namespace Go.Proofs.YtnofkliaofgiaaaGreatDoor
open Go.Shelf Go.RowKit
section
section
variable {w w':Oc} {g:Nat} {q:zW} {x:Acc}
theorem zJ.Li (h:zJ w g q x)(l:Ob xA){v':Oe}{h':OC Nat}(hs:Sl w' 73 6 v' h' l.length (zU uZ l))(hc:NH q.hb.toList w w')(ho:h'=q.hb∨∃k,h'=some k∧w.heap.size≤k) :
  zK w (w'.setCell (Y g 10) v') g q {x with zg:=l} {q with hb:=h',vb:=v'}:=by
 have ha:=h.apart
 have j:g < w.heap.size:=h.blk.lt
 have b:∀k,h'=some k→(q.hb=some k)∨w.heap.size≤k:=by
  exact Fr
 have f:h'≠some g:=fun e=>by
  rcases b g e with a|a
  ·exact ha.hb a
  ·omega
 have d:NH (q.own g) w (w'.setCell (Y g 10) v'):=(hc.mono fun k hk=>.inl (zW.Yo yi)).set (p:=⟨g,10,none⟩) (.inl zW.ZP) v'
 have c:∀k∈({q with hb:=h',vb:=v'}:zW).own g,k∈q.own g∨w.heap.size≤k:=by
  intro k hk
  simp only[zW.own,OB,OO,Pe] at hk ⊢
  rcases hk with a|a|(a|a)|a
  ·exact .inl (.inl a)
  ·exact .inl (.inr (.inl a))
  ·exact .inl (.inr (.inr (.inl (.inl a))))
  ·rcases b k a with h2|h2
   ·exact .inl (.inr (.inr (.inl (.inr h2))))
   ·exact .inr h2
  ·exact .inl (.inr (.inr (.inr a)))
 have hc2:NH (g :: q.hb.toList) w (w'.setCell (Y g 10) v'):=(hc.mono fun k hk=>.inl (OP _ hk)).set (.inl zv) v'
 refine⟨⟨?_,?_,?_,h.same,?_,fun m hmm=>(h.parts m hmm).step d c⟩,d,c⟩
 ·have i:=(h.blk.N4 hc (by simpa using ha.hb)).set 10 v'
  exact i
 ·exact M4
 ·have a:=hs.far (p:=⟨g,10,none⟩) f v'
  exact a
 ·exact Fk
theorem zJ.Lj (h:zJ w g q x)(ms:Ob xd){v':Oe}{h':OC Nat}(hp:∀m∈ms,xB w (q.own g) m)(hs:Sl w' 83 8 v' h' ms.length (zU xV ms))(hc:NH q.hm.toList w w')(ho:h'=q.hm∨∃k,h'=some k∧w.heap.size≤k) :
  zK w (w'.setCell (Y g 11) v') g q {x with zC:=ms.map (·.p)} {q with hm:=h',vm:=v',ms:=ms}:=by
 have ha:=h.apart
 have l:g < w.heap.size:=h.blk.lt
 have c:∀k,h'=some k→(q.hm=some k)∨w.heap.size≤k:=by
  exact Fr
 have i:h'≠some g:=fun e=>by
  rcases c g e with b|b
  ·exact ha.hm b
  ·omega
 have f:NH (q.own g) w (w'.setCell (Y g 11) v'):=(hc.mono fun k hk=>.inl (zW.Z5 yi)).set (p:=⟨g,11,none⟩) (.inl zW.ZP) v'
 have d:∀k∈({q with hm:=h',vm:=v',ms:=ms}:zW).own g,k∈q.own g∨w.heap.size≤k:=by
  intro k hk
  simp only[zW.own,OB,OO,Pe] at hk ⊢
  rcases hk with b|b|(b|b)|b
  ·exact .inl (.inl b)
  ·exact .inl (.inr (.inl b))
  ·exact .inl (.inr (.inr (.inl (.inl b))))
  ·exact .inl (.inr (.inr (.inl (.inr b))))
  ·rcases c k b with h2|h2
   ·exact .inl (.inr (.inr (.inr h2)))
   ·exact .inr h2
 have hc2:NH (g :: q.hm.toList) w (w'.setCell (Y g 11) v'):=(hc.mono fun k hk=>.inl (OP _ hk)).set (.inl zv) v'
 refine⟨⟨?_,?_,?_,?_,?_,fun a ha2=>?_⟩,f,d⟩
 ·have j:=(h.blk.N4 hc (by simpa using ha.hm)).set 11 v'
  exact j
 ·exact M5
 ·exact FI
 ·rfl
 ·have b:=hs.far (p:=⟨g,11,none⟩) i v'
  show Sl _ _ 8 v' h' (ms.map (·.p)).length (zU xV ms)
  rw[Ow]
  exact b
 ·exact(hp a ha2).step f d
end
theorem Sl.pre {w:Oc}{e:Pa}{size n:Nat}{h:OC Nat}{xs:Ob Oe}{b off cap:Nat}(hs:Sl w e size (RO (some (Y b off)) n cap) h n xs)(k:Nat)(hk:k≤n) :
  Sl w e size (RO (some (Y b off)) k k) h k (xs.take (k * size)):=by
 have a:k * size≤n * size:=PG _ hk
 refine⟨by rw[OU,hs.1];omega,?_⟩
 rcases hs.2 with⟨_,hv,_⟩|⟨b',off',cap',cur,hh,hv,hB,hnc,hcm,hcs,ht⟩
 ·cases hv
 ·simp only[PH,Pk,Addr.mk.injEq,and_true,true_and] at hv
  obtain⟨⟨rfl,rfl⟩,rfl⟩:=hv
  have c:k * size≤cap * size:=PG _ O
  refine .inr ⟨b,off,k,cur,hh,rfl,hB,Oq _,O,O,?_⟩
  rw[←ht,List.take_take,Nat.min_eq_left a]
theorem X6 {P:Pv}{w:Oc}{o:Oper}{a:Act}{K:Act→Oc→Prop}{Q:Exit→Act→Oc→Prop}(s x:Operand)(t:Pa)(ho:o.op=.call {callee:=.builtin .append,args:=#[s,x],argTypes:=#[t,t]}){e:Pa}{i:TypeInfo}{z:Oe}{size bytes:Nat}(ht:P.underlying t=some (.slice e))(hi:P.info? e=some i)(hz:i.zero=some z)(hsize:i.size=size)(hby:i.bytes=bytes)(hzs:z.cells.size=size)(hsz:0 < size){v:Oe}{h:OC Nat}{n:Nat}{xs:Ob Oe}(hsl:Sl w e size v h n xs)(hs:a.eval s=v)(ad:Addr)(m c:Nat)(news:Ob Oe)(hx:a.eval x=RO (some ad) m c)(hl:news.length=m * size)(hnews:∀j u,news[j]?=some u→w.cell? (ad.add j)=some u)(h1:∀u∈news,u.oneCell'=true)(h63:n+m≤maxLen)(hbytes:(n+m) * bytes≤140737488355328)(hk:∀v' h' w',Sl w' e size v' h' (n+m) (xs++news)→NH h.toList w w'→(h'=h∨∃g,h'=some g∧w.heap.size≤g)→K (a.put o.dst v') w') :
  o.wp P a w K Q:=by
 obtain⟨v',h',w',hr,r1,r2,r3⟩:=uJ (P:=P) w (ty:=o.type) ht hi hz hsize hby hzs hsz hsl ad m c news hl hnews h1 h63 hbytes
 exact Ns
theorem wj {w:Oc}{g:Nat}{q:zW}{x:Acc}(h:zJ w g q x):∀u∈zU xV q.ms,u.oneCell'=true:=by
 exact My
theorem oJ {x:Acc}(hf:Fit x){m:zR}(hm:m∈x.zC)(id:Int):decide (0 < yY m.zr id)=uK m id:=by
 unfold yY uK
 cases b:m.zr.find? (fun p=>decide (p.1=id)) with
 |none=>
  have a:m.zr.any (fun p=>decide (p.1=id))=false:=by
   rw[List.any_eq_false]
   exact fun p hp=>List.find?_eq_none.1 b p hp
  rw[a]
  rfl
 |some p=>
  have c:=O2 b
  have d:=List.find?_some b
  have a:m.zr.any (fun p=>decide (p.1=id))=true:=Ps.2 ⟨p,c,d⟩
  rw[a]
  have e:=((hf.mail m hm).mem.each p c).2.1
  exact OS (by show 0 < p.2;omega)
end
section
attribute [local go_sem ↓] Go.wp_at_zero Go.wp_at_succ
def Zw (w:Oc)(g:Nat)(q:zW)(r:Acc×Int)(e:Ending)(w':Oc):Prop:=e=RR (I r.2)∧∃q',zK w w' g q r.1 q'
theorem uV {P:Pv}{w:Oc}{ops:Array Oper}{o:Oper}{a:Act}{K:Act→Oc→Prop}{Q:Exit→Act→Oc→Prop}{E:Prop}(hgd:o.guard=none)(s x:Operand)(t:Pa)(ho:o.op=.call {callee:=.builtin .append,args:=#[s,x],argTypes:=#[t,t]}){e:Pa}{i:TypeInfo}{z:Oe}{size bytes:Nat}(ht:P.underlying t=some (.slice e))(hi:P.info? e=some i)(hz:i.zero=some z)(hsize:i.size=size)(hby:i.bytes=bytes)(hzs:z.cells.size=size)(hsz:0 < size){b off cap n:Nat}{h:OC Nat}{xs:Ob Oe}(hsl:Sl w e size (RO (some (Y b off)) n cap) h n xs)(h1:∀u∈xs,u.oneCell'=true)(k:Nat)(hk:k < n)(hs:a.eval s=RO (some (Y b off)) k k)(hx:a.eval x=RO (if cap=k+1 then some ⟨b,off,none⟩ else some ⟨b,off+(k+1) * size,none⟩) (n - (k+1)) (cap - (k+1)))(h63:n≤maxLen)(hbytes:n * bytes≤140737488355328)(hK:∀v' h' w',Sl w' e size v' h' (n - 1) (xs.take (k * size)++xs.drop ((k+1) * size))→NH h.toList w w'→(h'=h∨∃g,h'=some g∧w.heap.size≤g)→K (a.put o.dst v') w') :
  if P9 o (yielded ops a.tmps)=true then Oper.wp P o a w K Q else E:=by
 have H:P9 o (yielded ops a.tmps)=true:=by simp[P9,hgd]
 rw[OG H]
 have d:=hsl.1
 obtain⟨J,B,q,L,A,G,_,_,m⟩:=hsl.at_ O
 simp only[PH,Pk,Addr.mk.injEq,and_true,true_and] at A
 obtain⟨⟨rfl,rfl⟩,rfl⟩:=A
 have y:(k+1) * size≤n * size:=PG _ hk
 have f:k+(n - (k+1))=n - 1:=O
 have c:∀v' h' w',Sl w' e size v' h' (k+(n - (k+1))) (xs.take (k * size)++xs.drop ((k+1) * size))→NH h.toList w w'→(h'=h∨∃g,h'=some g∧w.heap.size≤g)→K (a.put o.dst v') w':=fun v' h' w' r1 r2 r3=>hK v' h' w' (by rw[f] at r1;exact r1) r2 r3
 have l:(k+(n - (k+1))) * bytes≤140737488355328:=by rw[f];exact Ol (PG _ O) hbytes
 have v:(xs.drop ((k+1) * size)).length=(n - (k+1)) * size:=by rw[O8,d,Nat.sub_mul]
 by_cases r:cap=k+1
 ·rw[OG r] at hx
  have p:n=k+1:=O
  have F:xs.drop ((k+1) * size)=[]:=List.drop_of_length_le (by rw[d,p];exact Oq _)
  exact X6 s x t ho ht hi hz hsize hby hzs hsz (hsl.pre k O) hs _ _ _ (xs.drop ((k+1) * size)) hx v (fun j u hu=>by rw[F] at hu;simp at hu) (fun u hu=>h1 u (Re hu)) O l c
 ·rw[Om r] at hx
  exact X6 s x t ho ht hi hz hsize hby hzs hsz (hsl.pre k O) hs _ _ _ (xs.drop ((k+1) * size)) hx v (fun j u hu=>by
   rw[List.getElem?_drop] at hu
   have M:=(OX.1 hu).1
   have D:=(m ((k+1) * size+j) O).1
   rw[Addr.add_lit,O1,D]
   exact hu) (fun u hu=>h1 u (Re hu)) O l c
theorem Bx (l:Ob xA):∀u∈zU uZ l,u.oneCell'=true:=by
 intro u b
 obtain⟨m,_,a⟩:=List.mem_flatMap.1 b
 simp only[uZ,OB,List.not_mem_nil,or_false] at a
 rcases a with rfl|rfl|rfl|rfl|rfl|rfl
 all_goals rfl
theorem C1 (w:Oc)(g:Nat)(q:zW)(x:Acc)(id:Int)(h:zJ w g q x)(hf:Fit x) :
  C 61 #[Y g 0,I id] w (Zw w g q (vR x id)):=by
 obtain⟨i0,hi,c2,c3,c4⟩:=info_parts Try.infoBox
 have ap:=hf.zA
 have av:=hf.N3.mod
 have R:=hf.nb
 have T:=hf.nm
 have oo:=ua id x.zg
 have Gl:=Yy q.vb [] x.zg id w (h.zg.reads [] zv) O
 obtain⟨Ab,cb,z,_,_⟩:=h.zg.form
 obtain⟨Am,cm,a2,_,_⟩:=h.zC.form
 have L:w.cell? (Y g 10)=some (RO Ab x.zg.length cb):=by rw[←z];exact h.yZ
 have l:∀W,Od w w W→W.cell? (Y g 11)=some (RO Am x.zC.length cm):=fun W hb=>by rw[←a2];exact(h.later hb).xj
 have aa:=fun W (hb:Od w w W)=>ZQ W g q x (h.later hb) hf
 rw[z] at Gl
 obtain⟨r,v⟩:∃r,xC id x.zg=r:=⟨_,rfl⟩
 rw[v] at Gl oo
 have P:zZ x.zg id=false→vR x id=(x,6):=fun h0=>by
  unfold vR
  rw[OG h0]
 have N:zZ x.zg id=true→id=1→vR x id=(x,1):=fun h0 h1=>by
  unfold vR
  rw[Om (by rw[h0];decide),OG h1]
 have F:zZ x.zg id=true→¬id=1→vR x id=(if (x.zg.any (fun b=>decide (b.zB=id))||x.zC.any (fun m=>uK m id))=true then (x,10)
  else if x.ends=true then (x,11) else ({x with zA:=x.zA+1,zg:=x.zg.eraseIdx (xC id x.zg).toNat,log:=x.log.add [⟨x.zA+1,1,id,3⟩]},0)):=fun h0 h1=>by
  unfold vR
  rw[Om (by rw[h0];decide),Om h1]
 obtain⟨rr,a9⟩:∃rr,vR x id=rr:=⟨_,rfl⟩
 rw[a9] at P N F ⊢
 rw[v] at F
 obtain⟨nb,H⟩:∃nb,x.zg.length=nb:=⟨_,rfl⟩
 obtain⟨nm,S⟩:∃nm,x.zC.length=nm:=⟨_,rfl⟩
 rw[H] at Gl L
 simp only[S] at l
 have cd:nb≤4294967296:=O
 have ce:nm≤4294967296:=O
 have b7:=V z
 have bv:=V a2
 have A:=V H
 have b6:=V S
 have HS:=V h
 have HF:=V hf
 have bs:=V aa
 have b2:=V l
 have cf:=V v
 cases hh:zZ x.zg id with
 |false=>
  have HR:=V (P hh)
  rw[hh] at oo
  have a8:r < 0:=JC
  clear a9 v H S z a2 h hf aa l P N F oo hh ap av R T
  exact ED
 |true=>
 obtain⟨i,bc,e1,y1,y2,y3,y4⟩:=YR ((uv x.zg id).1 hh)
 clear y1 y2 y3 y4
 rw[v] at e1
 subst e1
 have bd:i < nb:=O
 have cl:¬(i:Int) < 0:=O
 by_cases h1:id=1
 ·have HR:=V (N hh h1)
  have hq:(id==1)=true:=xv
  clear a9 v H S z a2 h hf aa l P N F oo hh ap av R T h1 bc
  exact ED
 have HR:=V (F hh h1)
 have hq:(id==1)=false:=xv
 have E:Sl w 73 6 (RO Ab nb cb) q.hb nb (zU uZ x.zg):=by
  rw[←H,←z]
  exact h.zg
 have br:=V E
 clear a9 v H S z a2 h hf aa l P N F oo hh ap av R T h1 bc E
 go_enter func61,ntmps61
 go_upto_block 0 with(first
  |(go_at_call 55;refine Gl.mono ?_;rintro e w3 ⟨rfl,rfl⟩;clear Gl)
  |fail)
 go_cut [] (fun wx=>Z (∀t (ht:t < x.zg.length),x.zg[t].zB≠id)∧Z (wx=w))
 case first=>
  go_wp2_with fail
  go_loop [6] (fun iv=>∃k:Nat,k≤nb∧iv=I k∧Z (∀t (ht:t < x.zg.length),t < k→x.zg[t].zB≠id)) (fun iv=>nb - (intOf iv).toNat)
  case atStart=>exact⟨0,OE _,rfl,V (fun _ _ h=>by omega)⟩
  case round=>
   obtain⟨k,hk,rfl,K⟩:=hrel
   by_cases a8:k < nb
   ·have Q:(k:Int) < (nb:Int):=O
    have bz:(0:Int)≤(k:Int):=O
    have G:k < x.zg.length:=by rw[A.o];exact a8
    have b':Ov.wrap ((k:Int)+1)=(k:Int)+1:=Og _ O
    obtain⟨B,J,c1,_,s,_,_,_,f⟩:=br.o.at_ O
    have e1:=(OM s).1
    subst e1
    obtain⟨y,hy⟩:∃y,x.zg[k].zB=y:=⟨_,rfl⟩
    have d2:w.cell? (Y B (J+k * 6+2))=some (I y):=by
     rw[←hy,O1,(f (k * 6+2) O).1,yv xF x.zg k 2 G O]
     rfl
    have b8:=V hy
    clear f s hy
    by_cases hc:y=id
    ·have f1:(y==id)=true:=vM
     have HE:Z (rr=(x,10)):=V (by
      rw[HR.o,OG]
      rw[Bool.or_eq_true_iff]
      exact .inl (Ps.2 ⟨x.zg[k],Oj G,by rw[b8.o,hc];simp⟩))
     clear hc
     go_wp2_with fail
     go_ret
     rw[HE.o]
     exact⟨rfl,q,zK.refl HS.o⟩
    ·have f1:(y==id)=false:=vM
     have fu:Z (∀t (ht:t < x.zg.length),t < k+1→x.zg[t].zB≠id):=V (fun t ht h=>by
      by_cases az:t < k
      ·exact K.o t ht az
      ·obtain rfl:t=k:=O
       rw[b8.o]
       exact hc)
     exact fM
   ·have Q:¬(k:Int) < (nb:Int):=O
    have HE:Z (∀t (ht:t < x.zg.length),x.zg[t].zB≠id):=V (fun t ht=>K.o t ht (by rw[A.o] at ht;omega))
    go_wp2_with fail
    go_meet
    exact⟨HE,V rfl⟩
 case rest=>
  obtain⟨HP,HW⟩:=hcut
  obtain⟨w1,rfl⟩:∃w1:Oc,w1=wc:=⟨_,rfl⟩
  have D:=HR.o
  have c:x.zg.any (fun b=>decide (b.zB=id))=false:=by
   rw[List.any_eq_false]
   intro y hy hd
   obtain⟨j,hj,rfl⟩:=Pg hy
   exact HP.o j hj V6
  rw[c,Bool.false_or] at D
  have a5:=V D
  have am:Z (Od w w w1):=V (by rw[HW.o];exact Ok _ _)
  clear D c HP HR HW L
  go_upto_block 2 with(fail)
  go_cut [] (fun wx=>Z (∀t (ht:t < x.zC.length),uK x.zC[t] id=false)∧Z (Od w w wx))
  case first=>
   go_wp2_with fail
   go_loopw [7] (fun iv wr=>∃k:Nat,k≤nm∧iv=I k∧Z (∀t (ht:t < x.zC.length),t < k→uK x.zC[t] id=false)∧Z (Od w w wr)) (fun iv _=>nm - (intOf iv).toNat)
   case atStart=>exact⟨0,OE _,rfl,V (fun _ _ h=>by omega),am⟩
   case round=>
    obtain⟨k,hk,rfl,K,HB⟩:=hrel
    have cg:=b2.o wr HB.o
    by_cases a8:k < nm
    ·have Q:(k:Int) < (nm:Int):=O
     have bz:(0:Int)≤(k:Int):=O
     have G:k < x.zC.length:=by rw[b6.o];exact a8
     have b':Ov.wrap ((k:Int)+1)=(k:Int)+1:=Og _ O
     obtain⟨B,J,c1,m,s,_,bi,hm,f⟩:=(HS.o.later HB.o).U8 k G
     have e1:=(OM (bv.o.symm.trans s)).1
     subst e1
     have bl:=(HS.o.later HB.o).parts m bi
     have Ej:m.p∈x.zC:=by rw[hm];exact Oj G
     have au:=oJ HF.o Ej id
     have bh:m.p.zr.length≤1099511627776:=by
      exact fP
     have hu:=fun a0 a1 a3 a6 a7 s2 vk=>Vh wr a0 a1 a3 a6 a7 s2 vk m.mv m.p.zr id (bl.mem.sub (fun _ _ _ hm=>by cases hm)) bh
     have d:∀u,u < 8→wr.cell? (Y B (J+k * 8+u))=(xV m)[u]?:=fun u hu=>(f u hu).1
     have d0:wr.cell? (Y B (J+k * 8))=some (I m.p.id):=d 0 O
     have d1:wr.cell? (Y B (J+k * 8+1))=some (I m.p.thread):=d 1 O
     have d2:wr.cell? (Y B (J+k * 8+2))=some (RP ⟨m.p.text.toArray⟩):=d 2 O
     have d3:wr.cell? (Y B (J+k * 8+3))=some (I m.p.at_):=d 3 O
     have d4:wr.cell? (Y B (J+k * 8+4))=some m.kv:=d 4 O
     have d5:wr.cell? (Y B (J+k * 8+5))=some m.mv:=d 5 O
     have d6:wr.cell? (Y B (J+k * 8+6))=some (I m.p.mod):=d 6 O
     have d7:wr.cell? (Y B (J+k * 8+7))=some (I m.p.born):=d 7 O
     have be:uK x.zC[k] id=uK m.p id:=by rw[hm]
     obtain⟨u,bm⟩:∃u,yY m.p.zr id=u:=⟨_,rfl⟩
     rw[bm] at hu au
     have b5:=V be
     have b4:=V au
     clear bm d f s bl hm bh bi Ej be au
     generalize m.p.id=m0 at d0
     generalize m.p.thread=m1 at d1
     generalize m.p.text=m2 at d2
     generalize m.p.at_=m3 at d3
     generalize m.p.mod=m6 at d6
     generalize m.p.born=m7 at d7
     generalize m.kv=m4 at d4
     generalize m.mv=m5 at d5 hu
     by_cases hc:0 < u
     ·have f1:decide (0 < u)=true:=OS hc
      have HE:Z (rr=(x,10)):=V (by
       rw[a5.o,OG]
       exact Ps.2 ⟨x.zC[k],Oj G,by rw[b5.o,←b4.o];exact OS hc⟩)
      clear hc
      go_wp2_with (first
       |(go_at_call 54;refine(hu _ _ _ _ _ _ _).mono ?_;rintro e w4 ⟨rfl,M⟩;have a4:=V (zj HB.o M);clear M hu)
       |fail)
      go_ret
      rw[HE.o]
      exact⟨rfl,q,zK.of_below HS.o a4.o⟩
     ·have f1:decide (0 < u)=false:=OD hc
      have fu:Z (∀t (ht:t < x.zC.length),t < k+1→uK x.zC[t] id=false):=V (fun t ht h=>by
       by_cases az:t < k
       ·exact K.o t ht az
       ·obtain rfl:t=k:=O
        rw[b5.o,←b4.o]
        exact OD hc)
      clear hc
      go_wp2_with (first
       |(go_at_call 54;refine(hu _ _ _ _ _ _ _).mono ?_;rintro e w4 ⟨rfl,M⟩;have a4:=V (zj HB.o M);clear M hu)
       |fail)
      refine⟨?_,zV⟩
      first|exact⟨k+1,O,zE,fu,a4⟩|((repeat apply OA);exact⟨⟨k+1,O,zE,fu,a4⟩,rfl⟩)
    ·have Q:¬(k:Int) < (nm:Int):=O
     have HE:Z (∀t (ht:t < x.zC.length),uK x.zC[t] id=false):=V (fun t ht=>K.o t ht (by rw[b6.o] at ht;omega))
     go_wp2_with fail
     go_meet
     exact⟨HE,HB⟩
  case rest=>
   obtain⟨HP,an⟩:=hcut
   obtain⟨w2,rfl⟩:∃w2:Oc,w2=wc:=⟨_,rfl⟩
   have D:=a5.o
   have c:x.zC.any (fun m=>uK m id)=false:=by
    rw[List.any_eq_false]
    intro y hy hd
    obtain⟨j,hj,rfl⟩:=Pg hy
    rw[HP.o j hj] at hd
    cases hd
   rw[c,Om zD] at D
   have a:=bs.o _ an.o
   cases he:x.ends with
   |true=>
    rw[he] at a D
    simp only[if_true,Bool.not_true] at a D
    have ao:=V D
    clear D c HP a5 am he
    go_wp2_with (first
     |(go_at_call 116;refine a.mono ?_;rintro e w6 ⟨rfl,X⟩;have bt:=V X;clear a X)
     |fail)
    go_ret
    rw[ao.o]
    exact⟨rfl,q,(zK.of_below HS.o an.o).trans bt.o⟩
   |false=>
    rw[he] at a D
    simp only[Px,if_false,Bool.not_false,Int.toNat_natCast] at a D
    have ao:=V D
    clear D c HP a5 am he
    go_upto_region 18 with(first
     |(go_at_call 116;refine a.mono ?_;rintro e w6 ⟨rfl,X⟩;have T6:=V ((zK.of_below HS.o an.o).trans X);clear a X)
     |fail)
    have L:w6.cell? (Y g 10)=some (RO Ab nb cb):=by rw[←A.o,←b7.o];exact T6.o.at_.yZ
    have ba:w6.frozen? (Y g 10)=false:=T6.o.at_.frozen 10
    have E:Sl w6 73 6 (RO Ab nb cb) q.hb nb (zU uZ x.zg):=by
     rw[←A.o,←b7.o]
     exact T6.o.at_.zg
    obtain⟨B,J,c1,ck,s,cq,bb,cj,_⟩:=E.at_ O
    have e1:=(OM s)
    obtain⟨rfl,_,rfl⟩:=e1
    clear s
    have cp:(i:Int) < (nb:Int):=O
    have c8:(0:Int)≤(i:Int):=O
    have co:Ov.wrap ((i:Int)+1)=(i:Int)+1:=Og _ O
    have cn:(i:Int)≤(cb:Int):=O
    have c9:(i:Int)+1≤(nb:Int):=O
    have ca:(0:Int)≤(i:Int)+1:=O
    have aq:g∉q.hb.toList:=fun hm=>T6.o.at_.apart.hb yT
    have ar:g < w6.heap.size:=T6.o.at_.blk.lt
    have c7:cb≤maxLen:=bb
    have bj:nb≤maxLen:=O
    clear bb
    have cc:(nb:Int)≤(cb:Int):=O
    have ac:=V E
    clear E
    go_cut [] (fun wx=>∃q',Z (zK w wx g q {x with zA:=x.zA+1,zg:=x.zg.eraseIdx i} q'))
    case first=>
     go_region_law (first
      |(refine uV zF (.tmp 66) (.tmp 73) _ zF underlying71 hi c2 c3 c4 rfl O (ac.o.heap zF) (Bx _) i bd yl yl bj O ?_;intro v2 h2 w9 aw n bk;obtain⟨bo,b9,rfl,_,_⟩:=aw.form;have ch:w9.cell? (Y g 10)=some (RO (some (Y B J)) nb cb):=(n.cell (p:=⟨g,10,none⟩) ar aq).trans L;have ci:w9.frozen? (Y g 10)=false:=(n.frozen (p:=⟨g,10,none⟩) ar aq).trans ba)
      |fail)
     all_goals
      have ag:=T6.o.at_.Li (x.zg.eraseIdx i) (v':=RO bo (nb - 1) b9) (h':=h2) (w':=w9) (by
       rw[Pq (by rw[A.o];exact bd),Za xF,A.o]
       exact aw) ⟨n.os,n.tape,n.output,n.size,n.block⟩ bk
      have ad:=V ag
      clear ag aw n bk
      go_wp2_with fail
      go_meet
      exact⟨_,V (T6.o.trans ad.o)⟩
      all_goals
       go_meet
       exact⟨_,V (T6.o.trans ad.o)⟩
    case rest=>
     obtain⟨q',yt⟩:=hcut
     obtain⟨wf,rfl⟩:∃wf:Oc,wf=wc:=⟨_,rfl⟩
     clear L ba ar aq ac
     go_upto_region 19 with(fail)
     obtain⟨x3,qx⟩:∃x3:Acc,x3={x with zA:=x.zA+1,zg:=x.zg.eraseIdx i}:=⟨_,rfl⟩
     rw[←qx] at yt
     have hE:∀W,Od wf wf W→C 118 #[Y g 0,I 1,I id,I 3] W fun e w'=>e=RR (.agg #[I (x.zA+1),I 1,I id,I 3])∧Od W W w':=fun W hb=>by
      have h0:=Zm W g q' x3 1 id 3 (yt.o.at_.later hb)
      rw[show x3.zA=x.zA+1 by rw[qx]] at h0
      exact h0
     have hK:∀W,Od wf wf W→W.cell? (Y g 12)=some (RQ (some (Y q'.gl 0))):=fun W hb=>(yt.o.at_.later hb).xp
     have ae:=fun W0 (hb0:Od wf wf W0) W hb=>nN (W0:=W0) (W:=W) (yt.o.at_.later hb0) fY fZ ⟨x.zA+1,1,id,3⟩ hb
     have K:=V hK
     have HE:=V hE
     have ab:=V ae
     have bw:=V qx
     have bx:=hK wf (Ok _ _)
     clear ae qx hK hE
     go_cut [] (fun wx=>∃a',Z (zK w wx g q {x3 with log:=x3.log.add [⟨x.zA+1,1,id,3⟩]} a'))
     case first=>
      go_region_held3 (fun W=>W.cell? (Y g 12)=some (RQ (some (Y q'.gl 0))))
       (first
        |exact bp.o
        |exact K.o _ (zj Ed.o (zt _ _))
        |exact K.o _ Ed.o
        |exact K.o _ (Ok _ _)
        |exact K.o _ (zG _)
        |go_keep)
       (first
        |(go_at_call 118;refine(HE.o _ uO).mono ?_;rintro e b0 ⟨rfl,yo⟩;have Ed:Z (Od wf wf b0):=V pK;have c5:=K.o _ Ed.o;have c0:=World.new_ne b0 _ c5;clear yo)
        |(go_at_call 117;refine(ab.o b0 Ed.o _ ⟨rfl,rfl,rfl,Oq _,fun _ _=>rfl⟩).mono ?_;rintro e c6 ⟨rfl,Ee,al,U⟩;have ve:=V U;have bp:Z (c6.cell? (Y g 12)=some (RQ (some (Y q'.gl 0)))):=V (by have h1:=U.at_.xp;rw[al] at h1;exact h1);clear U al)
        |fail)
      all_goals
       exact oW
     case rest=>
      obtain⟨a',bu⟩:=hcut
      obtain⟨wz,rfl⟩:∃wz:Oc,wz=wc:=⟨_,rfl⟩
      clear bx ab HE K
      have b3:Z (Zw w g q rr (RR (I 0)) wz):=V (by
       rw[ao.o]
       refine⟨rfl,a',?_⟩
       have h1:=bu.o
       rw[bw.o] at h1
       exact h1)
      go_wp2_with fail
      go_ret
      exact b3.o
theorem dO (id:Int)(f k:xA→xA)(hk:∀b,(k b).id=b.id):∀(l:Ob xA),xK id f (xK id k l)=xK id (fun b=>f (k b)) l
 |[]=>rfl
 |b :: r=>by
  by_cases h:b.id=id
  ·have h2:(k b).id=id:=by rw[hk];exact h
   simp[xK,h,h2]
  ·simp[xK,h,dO id f k hk r]
theorem mI {l:Ob xA}{i:Nat}(hi:i < l.length){id:Int}(h:l[i].id=id):(l.filter fun b=>decide (b.id≠id)).length < l.length:=
 List.length_filter_lt_length_iff_exists.2 ⟨l[i],Oj hi,ZE⟩
theorem eA {w:Oc}{g:Nat}{q:zW}{x:Acc}(h:zJ w g q x){b1 o1 n cb:Nat}(hv:q.vb=RO (some (Y b1 o1)) n cb)(i:Nat)(hi:i < x.zg.length) :
  w.cell? (Y g 10)=some (RO (some (Y b1 o1)) n cb)∧b1≠g∧∀j,j < 6→w.cell? (Y b1 (o1+i * 6+j))=(uZ x.zg[i])[j]?∧w.frozen? (Y b1 (o1+i * 6+j))=false:=by
 obtain⟨b,m,l,d,c,_,_,_,a⟩:=h.Vn i hi
 have f:=OM (hv.symm.trans d)
 obtain⟨k,_,_⟩:=f
 simp only[Pk,Addr.mk.injEq,and_true] at k
 obtain⟨rfl,rfl⟩:=k
 exact⟨by rw[←hv];exact h.yZ,fun e=>h.apart.hb (by rw[c,e]),a⟩
theorem od (w:Oc)(g:Nat)(q:zW)(x:Acc)(id:Int)(nl:yx)(zB:Int)(h:zJ w g q x)(hf:Fit x)(hbm:(x.zg.length:Int)≤x.N3.xl)(hn:nl.length≤1099511627776) :
  C 59 #[Y g 0,I id,Oa nl,I zB] w (Zw w g q (yB zY x id nl zB)):=by
 have bd:=hf.zA
 have bi:=hf.N3.mod
 have ag:=hf.nb
 have oo:=ua id x.zg
 have d:=ua zB x.zg
 have a2:=fun W (hb:Od w w W) j=>Yy q.vb [] x.zg j W ((h.later hb).zg.reads [] zv) O
 have lg:=dJ ⟨nl.toArray⟩ uP w
 rw[show zY (⟨nl.toArray⟩:Oy).data.toList=zY nl from rfl] at lg
 have ab:=fun W (hb:Od w w W)=>dM W g q x nl zB id (h.later hb) O O
 have X:=fun W (hb:Od w w W)=>wC q.vb [] x.zg zB id W ((h.later hb).zg.reads [] zv) O
 have b2:=fun W (hb:Od w w W)=>ZQ W g q x (h.later hb) hf
 obtain⟨Ab,cb,a6,_,_⟩:=h.zg.form
 have A:∀W,Od w w W→W.cell? (Y g 10)=some (RO Ab x.zg.length cb):=fun W hb=>by rw[←a6];exact(h.later hb).yZ
 have av:=A w (Ok _ _)
 have Gm:=a2 w (Ok _ _) id
 simp only[a6] at a2 Gm X
 cases hh:zZ x.zg id with
 |false=>
  have am:yB zY x id nl zB=(x,6):=by
   unfold yB
   rw[show x.zg.find? (fun b=>decide (b.id=id))=none from List.find?_eq_none.2 (fun b hb hd=>by
    have:=List.any_eq_false.1 hh b hb
    exact this hd)]
  rw[am]
  rw[hh] at oo
  have bh:xC id x.zg < 0:=JC
  obtain⟨r,T⟩:∃r,xC id x.zg=r:=⟨_,rfl⟩
  rw[T] at Gm bh
  obtain⟨nb,S⟩:∃nb,x.zg.length=nb:=⟨_,rfl⟩
  rw[S] at Gm av
  have HS:=V h
  clear am oo d hh h hf hbm a2 ab X b2 A a6 lg bd bi ag T S
  go_enter func59,ntmps59
  go_wp2_with (first
   |(go_at_call 55;refine Gm.mono ?_;rintro e w3 ⟨rfl,rfl⟩;clear Gm)
   |fail)
  go_ret
  exact⟨rfl,q,zK.refl HS.o⟩
 |true=>
 obtain⟨i,be,e1,y1,_,y3,y4⟩:=YR ((uv x.zg id).1 hh)
 rw[e1] at Gm
 have k:zY nl=true→¬id=1→¬(zB≠0∧zZ x.zg zB=false)→yB zY x id nl zB=(if Y3 x nl zB id=true then (x,5) else if uL x.zg id (x.zg.length+1) zB=true then (x,10) else if x.zg[i].name=nl∧x.zg[i].zB=zB then (x,0) else if x.ends=true then (x,11) else ({x with zA:=x.zA+1,zg:=((x.zg.set i {x.zg[i] with name:=nl}).set i {x.zg[i] with name:=nl,zB:=zB}).set i {x.zg[i] with name:=nl,zB:=zB,mod:=x.zA+1},log:=x.log.add [⟨x.zA+1,1,id,2⟩]},0)):=fun h1 h2 h3=>by
  have c9:=mI be y1
  unfold yB
  simp only[y4]
  rw[Om (by rw[h1];simp[h2]),cV x nl zB id h3]
  have bc:¬x.N3.xl≤((x.zg.filter fun b=>decide (b.id≠id)).length:Int):=O
  rw[Om bc]
  have bm:zI (x.zA+1) [id] (xK id (fun b=>{b with name:=nl,zB:=zB}) x.zg)=((x.zg.set i {x.zg[i] with name:=nl}).set i {x.zg[i] with name:=nl,zB:=zB}).set i {x.zg[i] with name:=nl,zB:=zB,mod:=x.zA+1}:=by
   show xK id (fun b=>{b with mod:=x.zA+1}) (xK id (fun b=>{b with name:=nl,zB:=zB}) x.zg)=_
   rw[dO id (fun b=>{b with mod:=x.zA+1}) (fun b=>{b with name:=nl,zB:=zB}) (fun _=>rfl),y3,List.set_set,List.set_set]
  rw[bm]
  by_cases ht:Y3 x nl zB id=true
  ·simp[ht]
  ·simp[ht,zX]
 have K:(zY nl=false∨id=1)→yB zY x id nl zB=(x,1):=fun h1=>by
  unfold yB
  simp only[y4]
  rw[OG h1]
 have L:zY nl=true→¬id=1→(zB≠0∧zZ x.zg zB=false)→yB zY x id nl zB=(x,6):=fun h1 h2 h3=>by
  unfold yB
  simp only[y4]
  rw[Om (by rw[h1];simp[h2]),xT,OG h3]
  simp
 obtain⟨rr,bj⟩:∃rr,yB zY x id nl zB=rr:=⟨_,rfl⟩
 rw[bj] at k K L ⊢
 obtain⟨r,T⟩:∃r,xC zB x.zg=r:=⟨_,rfl⟩
 have J:=fun W (hb:Od w w W)=>a2 W hb zB
 rw[T] at d
 simp only[T] at J
 obtain⟨tw,ao⟩:∃tw,Y3 x nl zB id=tw:=⟨_,rfl⟩
 simp only[ao] at ab k
 obtain⟨un,ap⟩:∃un,uL x.zg id (x.zg.length+1) zB=un:=⟨_,rfl⟩
 simp only[ap] at X k
 obtain⟨y,hy⟩:∃y,x.zg[i]=y:=⟨_,rfl⟩
 simp only[hy] at k
 obtain⟨nb,S⟩:∃nb,x.zg.length=nb:=⟨_,rfl⟩
 have cc:i < nb:=O
 have c8:nb≤4294967296:=O
 simp only[S] at Gm J A X av
 obtain⟨ru,bk⟩:∃ru,zY nl=ru:=⟨_,rfl⟩
 simp only[bk] at lg k K L
 have cd:¬(i:Int) < 0:=O
 have ce:(i:Int) < (nb:Int):=O
 have c7:(0:Int)≤(i:Int):=O
 have bu:=V a6
 have br:=V S
 have HY:=V hy
 have ar:=V be
 have HS:=V h
 have HF:=V hf
 have aq:=V J
 have b9:=V ab
 have ba:=V X
 have bs:=V b2
 have n:=V A
 have s:=V k
 have p:=V K
 have t:=V L
 clear bj T ao ap S a6 h hf hbm a2 J ab X b2 A k K L bk bd bi ag oo y1 y3 y4 e1 hh
 by_cases H:ru=false∨id=1
 ·have HR:=V (p.o H)
  rcases H with hb|hb
  ·subst hb
   clear s t p
   exact Kf
  ·have hq:(id==1)=true:=xQ
   clear s t p hb
   cases ru with
   |false=>
    exact Kf
   |true=>
    exact Kf
 obtain⟨an,B⟩:=not_or.1 H
 have bl:ru=true:=by simpa using an
 subst bl
 have hq:(id==1)=false:=by simpa using B
 clear H an
 by_cases hA:zB≠0∧zZ x.zg zB=false
 ·have HR:=V (t.o rfl B hA)
  rw[hA.2] at d
  have hp:(zB !=0)=true:=by simpa using hA.1
  have bh:r < 0:=by simpa using d
  clear s t p hA d B
  go_enter func59,ntmps59
  go_wp2_with (first
   |(go_at_call 114;refine lg.mono ?_;rintro e w2 ⟨rfl,hb2⟩;have ay:=V hb2;have c:=n.o _ hb2;have ax:=aq.o _ hb2;clear hb2)
   |(go_at_call 55;(with_reducible refine Gm.mono ?_);rintro e w3 ⟨rfl,rfl⟩;clear Gm)
   |(go_at_call 55;(with_reducible refine ax.mono ?_);rintro e w3 ⟨rfl,rfl⟩;clear ax)
   |fail)
  go_ret
  rw[HR.o]
  exact⟨rfl,q,zK.of_below HS.o ay.o⟩
 have yj:zB=0∨(¬zB=0∧0≤r):=by
  by_cases hp:zB=0
  ·exact .inl hp
  ·have h2:zZ x.zg zB=true:=by
    exact pc
   rw[h2] at d
   have h3:¬r < 0:=by simpa using d
   exact .inr ⟨hp,O⟩
 have HR:=V (s.o rfl B hA)
 clear s t p hA d B
 go_enter func59,ntmps59
 go_upto_region 6 with(first
  |(go_at_call 55;refine Gm.mono ?_;rintro e w3 ⟨rfl,rfl⟩;clear Gm)
  |(go_at_call 114;refine lg.mono ?_;rintro e w2 ⟨rfl,hb2⟩;have ay:=V hb2;have c:=n.o _ hb2;have ax:=aq.o _ hb2;clear hb2)
  |fail)
 go_cut [27] (fun v wx=>v=.bool false∧Z (Od w w wx))
 case first=>
  exact MB
 case rest=>
  obtain⟨rfl,a7⟩:=hcut
  obtain⟨w3,rfl⟩:∃w3:Oc,w3=wc:=⟨_,rfl⟩
  have U:=b9.o _ a7.o
  clear yj aq b9 c ax ay av
  cases tw with
  |true=>
   go_wp2_with (first
    |(go_at_call 115;refine U.mono ?_;rintro e w4 ⟨rfl,z⟩;have l:=V (zj a7.o z);clear z U)
    |fail)
   go_ret
   rw[HR.o]
   exact⟨rfl,q,zK.of_below HS.o l.o⟩
  |false=>
  cases un with
  |true=>
   go_wp2_with (first
    |(go_at_call 115;refine U.mono ?_;rintro e w4 ⟨rfl,z⟩;have l:=V (zj a7.o z);have c:=n.o _ l.o;have a5:=ba.o _ l.o;clear z U)
    |(go_at_call 121;refine a5.mono ?_;rintro e w5 ⟨rfl,a1⟩;have m:=V (zj l.o a1);clear a1 a5)
    |fail)
   go_ret
   rw[HR.o]
   exact⟨rfl,q,zK.of_below HS.o m.o⟩
  |false=>
  go_upto_region 12 with(first
   |(go_at_call 115;refine U.mono ?_;rintro e w4 ⟨rfl,z⟩;have l:=V (zj a7.o z);have c:=n.o _ l.o;have a5:=ba.o _ l.o;clear z U)
   |(go_at_call 121;refine a5.mono ?_;rintro e w5 ⟨rfl,a1⟩;have m:=V (zj l.o a1);clear a1 a5 c)
   |fail)
  have c:=n.o _ m.o
  obtain⟨b1,o1,c1,ac,ca,_,_,ax,a0⟩:=(HS.o.later m.o).Vn i ar.o
  have bz:=OM (bu.o.symm.trans ac)
  obtain⟨rfl,_,rfl⟩:=bz
  obtain⟨D,yn,G,E,F,M⟩:=y
  have d1:w5.cell? (Y b1 (o1+i * 6+1))=some (RP ⟨yn.toArray⟩):=by
   have:=(a0 1 O).1
   rw[HY.o] at this
   exact this
  have d2:w5.cell? (Y b1 (o1+i * 6+2))=some (I G):=by
   have:=(a0 2 O).1
   rw[HY.o] at this
   exact this
  have Q:=HR.o
  simp only[Px,if_false] at Q
  clear a0 HR
  rw[br.o] at ac
  have P:=V ac
  clear ac
  have f:=bs.o _ m.o
  go_cut [53] (fun v wx=>v=.bool (decide (yn=nl∧G=zB))∧Z (wx=w5))
  case first=>
   by_cases a9:yn=nl
   ·have f1:(yn==nl)=true:=by simpa using a9
    by_cases aa:G=zB
    ·have f2:(G==zB)=true:=by simpa using aa
     go_wp2_with fail
     go_meet
     exact⟨by simp[a9,aa],V rfl⟩
    ·have f2:(G==zB)=false:=by simpa using aa
     go_wp2_with fail
     go_meet
     exact⟨by simp[aa],V rfl⟩
   ·have f1:(yn==nl)=false:=by simpa using a9
    go_wp2_with fail
    go_meet
    exact⟨by simp[a9],V rfl⟩
  case rest=>
   obtain⟨rfl,HW⟩:=hcut
   obtain⟨w6,rfl⟩:∃w6:Oc,w6=wc:=⟨_,rfl⟩
   have b':=HW.o
   subst b'
   by_cases a:yn=nl∧G=zB
   ·rw[OG a] at Q
    rw[OS a]
    have HR:=V Q
    clear Q a
    go_wp2_with fail
    go_ret
    rw[HR.o]
    exact⟨rfl,q,zK.of_below HS.o m.o⟩
   rw[Om a] at Q
   rw[OD a]
   clear a d1 d2 c
   cases he:x.ends with
   |true=>
    rw[he] at f Q
    simp only[if_true,Bool.not_true] at f Q
    have HR:=V Q
    clear Q he
    go_wp2_with (first
     |(go_at_call 116;refine f.mono ?_;rintro e w7 ⟨rfl,a4⟩;have bt:=V a4;clear f a4)
     |fail)
    go_ret
    rw[HR.o]
    exact⟨rfl,q,(zK.of_below HS.o m.o).trans bt.o⟩
   |false=>
    rw[he] at f Q
    simp only[Px,if_false,Bool.not_false] at f Q
    have HR:=V Q
    clear Q he
    go_upto_region 16 with(first
     |(go_at_call 116;refine f.mono ?_;rintro e w7 ⟨rfl,a4⟩;have T6:=V ((zK.of_below HS.o m.o).trans a4);clear f a4)
     |fail)
    have a':i < x.zg.length:=ar.o
    have hy:x.zg[i]=⟨D,yn,G,E,F,M⟩:=HY.o
    have c0:=eA T6.o.at_ P.o i a'
    obtain⟨c,cf,u⟩:=c0
    obtain⟨v1,f1⟩:=u 1 O
    simp only[hy] at v1
    have c3:w7.cell? (Y b1 (o1+i * 6+1))=some (RP ⟨yn.toArray⟩):=v1
    clear v1 u
    go_upto_region 17 with(fail)
    obtain⟨wa,b3⟩:∃wa:Oc,wa=w7.setCell (Y b1 (o1+i * 6+1)) (RP ⟨nl.toArray⟩):=⟨_,rfl⟩
    rw[←b3]
    have aw:zK w wa g q {x with zA:=x.zA+1,zg:=x.zg.set i ⟨D,nl,G,E,F,M⟩} q:=by
     rw[b3]
     exact T6.o.trans (T6.o.at_.vU P.o i a' 1 O (RP ⟨nl.toArray⟩) ⟨D,nl,G,E,F,M⟩ (by show _=(uZ x.zg[i]).set 1 _;rw[hy];rfl))
    clear b3 c f1 c3
    have a8:i < (x.zg.set i ⟨D,nl,G,E,F,M⟩).length:=by rw[Pd];exact ar.o
    obtain⟨c,_,u⟩:=eA aw.at_ P.o i a8
    obtain⟨v2,f2⟩:=u 2 O
    simp only[Ph] at v2
    have c4:wa.cell? (Y b1 (o1+i * 6+2))=some (I G):=v2
    have au:=V aw
    clear v2 u aw
    go_upto_region 18 with(fail)
    obtain⟨wb,b4⟩:∃wb:Oc,wb=wa.setCell (Y b1 (o1+i * 6+2)) (I zB):=⟨_,rfl⟩
    rw[←b4]
    have R:zK w wb g q {x with zA:=x.zA+1,zg:=(x.zg.set i ⟨D,nl,G,E,F,M⟩).set i ⟨D,nl,zB,E,F,M⟩} q:=by
     rw[b4]
     exact au.o.trans (au.o.at_.vU P.o i a8 2 O (I zB) ⟨D,nl,zB,E,F,M⟩ gM)
    clear b4 c f2 c4 au T6
    have b0:i < ((x.zg.set i ⟨D,nl,G,E,F,M⟩).set i ⟨D,nl,zB,E,F,M⟩).length:=by rw[Pd];exact a8
    obtain⟨c,_,u⟩:=eA R.at_ P.o i b0
    obtain⟨v5,f5⟩:=u 5 O
    simp only[Ph] at v5
    have c5:wb.cell? (Y b1 (o1+i * 6+5))=some (I M):=v5
    have k9:wb.cell? (Y g 9)=some (I (x.zA+1)):=R.at_.vF
    have bb:zK w (wb.drew.setCell (Y b1 (o1+i * 6+5)) (I (x.zA+1))) g q {x with zA:=x.zA+1,zg:=((x.zg.set i ⟨D,nl,G,E,F,M⟩).set i ⟨D,nl,zB,E,F,M⟩).set i ⟨D,nl,zB,E,F,x.zA+1⟩} q:=
     (R.trans (zK.of_below R.at_ (zG wb))).trans ((R.at_.later (zG wb)).vU P.o i b0 5 O (I (x.zA+1)) ⟨D,nl,zB,E,F,x.zA+1⟩ gM)
    have N:=V bb
    obtain⟨ck,az⟩:∃ck,x.zA+1=ck:=⟨_,rfl⟩
    have bp:=V az
    rw[az] at k9
    clear v5 u R bb az a8 b0 hy a'
    go_cut [] (fun wx=>Z (wx=wb.drew.setCell (Y b1 (o1+i * 6+5)) (I ck)))
    case first=>
     go_region_held3 (fun W=>W.cell? (Y g 10)=some (RO (some (Y b1 o1)) nb cb)∧W.cell? (Y g 9)=some (I ck)) (go_keep) (fail)
     all_goals
      go_wp2_with fail
      go_meet
      exact V rfl
    case rest=>
     obtain⟨wf,rfl⟩:∃wf:Oc,wf=wc:=⟨_,rfl⟩
     have b5:=hcut.o
     rw[←bp.o] at b5
     rw[←b5] at N
     clear b5 hcut c k9 c5 f5
     obtain⟨x3,qx⟩:∃x3:Acc,x3={x with zA:=x.zA+1,zg:=((x.zg.set i ⟨D,nl,G,E,F,M⟩).set i ⟨D,nl,zB,E,F,M⟩).set i ⟨D,nl,zB,E,F,x.zA+1⟩}:=⟨_,rfl⟩
     rw[←qx] at N
     have yt:=N
     clear N
     go_upto_region 19 with(fail)
     have hE:∀W,Od wf wf W→C 118 #[Y g 0,I 1,I id,I 2] W fun e w'=>e=RR (.agg #[I (x.zA+1),I 1,I id,I 2])∧Od W W w':=fun W hb=>by
      have h0:=Zm W g q x3 1 id 2 (yt.o.at_.later hb)
      rw[show x3.zA=x.zA+1 by rw[qx]] at h0
      exact h0
     have hK:∀W,Od wf wf W→W.cell? (Y g 12)=some (RQ (some (Y q.gl 0))):=fun W hb=>(yt.o.at_.later hb).xp
     have ae:=fun W0 (hb0:Od wf wf W0) W hb=>nN (W0:=W0) (W:=W) (yt.o.at_.later hb0) fY fZ ⟨x.zA+1,1,id,2⟩ hb
     have HK:=V hK
     have HE:=V hE
     have ad:=V ae
     have bv:=V qx
     have bw:=hK wf (Ok _ _)
     clear ae qx hK hE
     go_cut [] (fun wx=>∃b6,Z (zK w wx g q {x3 with log:=x3.log.add [⟨x.zA+1,1,id,2⟩]} b6))
     case first=>
      go_region_held3 (fun W=>W.cell? (Y g 12)=some (RQ (some (Y q.gl 0))))
       (first
        |exact bo.o
        |exact HK.o _ (zj Ed.o (zt _ _))
        |exact HK.o _ Ed.o
        |exact HK.o _ (Ok _ _)
        |exact HK.o _ (zG _)
        |go_keep)
       (first
        |(go_at_call 118;refine(HE.o _ uO).mono ?_;rintro e b7 ⟨rfl,yo⟩;have Ed:Z (Od wf wf b7):=V pK;have c2:=HK.o _ Ed.o;have bx:=World.new_ne b7 _ c2;clear yo)
        |(go_at_call 117;refine(ad.o b7 Ed.o _ ⟨rfl,rfl,rfl,Oq _,fun _ _=>rfl⟩).mono ?_;rintro e c6 ⟨rfl,Ee,al,a3⟩;have ve:=V a3;have bo:Z (c6.cell? (Y g 12)=some (RQ (some (Y q.gl 0)))):=V (by have h1:=a3.at_.xp;rw[al] at h1;exact h1);clear a3 al)
        |fail)
      all_goals
       exact oW
     case rest=>
      obtain⟨b6,N⟩:=hcut
      obtain⟨wz,rfl⟩:∃wz:Oc,wz=wc:=⟨_,rfl⟩
      clear bw ad HE HK
      have b8:Z (Zw w g q rr (RR (I 0)) wz):=V (by
       rw[HR.o]
       refine⟨rfl,b6,?_⟩
       have h1:=N.o
       rw[bv.o] at h1
       exact h1)
      go_wp2_with fail
      go_ret
      exact b8.o
end
end Go.Proofs.YtnofkliaofgiaaaGreatDoor
