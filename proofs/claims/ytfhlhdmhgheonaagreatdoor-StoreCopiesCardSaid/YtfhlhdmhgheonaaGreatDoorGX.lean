/-
  The plain law of StoreRefuses: each step leaves the account as it was, or has the clock go on by one and refuses nothing. The plain law of StoreUids: a number that was given in a mailbox is never another email's. The plain law of StoreLogs: what a step adds to the log, and what a Since across it tells. The plain law of StoreLogs, step by step.
-/
import Derived.Test.YtfhlhdmhgheonaaGreatDoorGC
set_option maxRecDepth 100000
set_option maxHeartbeats 8000000
namespace Go.Proofs.YtfhlhdmhgheonaaGreatDoor
theorem vC:∀(l m:List Int),l.Nodup→(∀x∈l,x∈m)→l.length≤m.length
 |[],_,_,_=>Nat.zero_le _
 |x :: l,m,hn,hs=>by
  obtain⟨h1,h2⟩:=List.nodup_cons.1 hn
  have hx:x∈m:=hs x (by simp)
  have ih:=vC l (m.erase x) h2 (fun y hy=>by
   have hy2:=hs y (by simp[hy])
   have hne:y≠x:=fun e=>h1 (e ▸ hy)
   exact(List.mem_erase_of_ne hne).2 hy2)
  have:=List.length_erase_of_mem hx
  have hpos:0 < m.length:=List.length_pos_of_mem hx
  rw[List.length_cons]
  omega
theorem yc (mod:Int):∀(is:List Int) (l:List yg),(zf mod is l).length=l.length
 |[],_=>rfl
 |i :: r,l=>by
  have:=yc mod r (yE i (fun b=>{b with mod:=mod}) l)
  rw[ZO] at this
  exact this
end Go.Proofs.YtfhlhdmhgheonaaGreatDoor
