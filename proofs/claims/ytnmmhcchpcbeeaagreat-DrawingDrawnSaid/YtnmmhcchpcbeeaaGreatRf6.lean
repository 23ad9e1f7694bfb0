/- Walk: Same of points of the reference. Conditions: both rows lie in memory; at most 2^44. -/
import Derived.Test.YtnmmhcchpcbeeaaGreatGeE
import Derived.Test.YtnmmhcchpcbeeaaGreatEqV
import Derived.Deep.CutRange

namespace Go.Proofs.YtnmmhcchpcbeeaaGreat.GeW
open Lib (hid)
open Go Go.RowKit Go.Proofs.YtnmmhcchpcbeeaaGreat.Mem Go.Proofs.YtnmmhcchpcbeeaaGreat.Ge
theorem take_more {l m:List V} {k:Nat} (h:l.take k=m.take k) (h1:k < l.length) (h2:k < m.length) (he:l[k]=m[k]):l.take (k+1)=m.take (k+1):=by
 rw [List.take_succ_eq_append_getElem h1,List.take_succ_eq_append_getElem h2,h,he]
set_option maxRecDepth 100000 in
set_option maxHeartbeats 1000000 in
theorem same6_any (l m:List V) (A B:Option Addr) (c d:Nat) (w:World) (hr:Row w A (l.flatMap ptCells)) (hs:Row w B (m.flatMap ptCells)) (hl:l.length≤17592186043904) (hm:m.length≤17592186043904) :
  Calls Tryz.prog 31 #[.slice A l.length c,.slice B m.length d] w fun e w'=>e=.returned (.bool (decide (l=m)))∧Below w.heap.size w w':=by
 have HR:=hid hr
 have HS:=hid hs
 clear hr hs
 by_cases hlen:l.length=m.length
 ·have HT0:=hid (show l.take 0=m.take 0 by simp)
  have HLM:=hid hlen
  go_enter Tryz.func31,Tryz.ntmps31
  rw [← hlen]
  clear hlen
  go_wp2
  go_loopw [5] (fun i wr=>∃ k:Nat,k≤l.length∧i=.int .i64 k∧Hid (l.take k=m.take k)∧Hid (Below w.heap.size w wr)) (fun i _=>l.length - (intOf i).toNat)
  case atStart=>exact ⟨0,Nat.zero_le _,rfl,HT0,hid (Below.refl _ _)⟩
  case round =>
   obtain ⟨k,hk,rfl,HT,HB⟩:=hrel
   by_cases hlt:k < l.length
   ·have hlt2:k < m.length:=by have:=HLM.out;omega
    obtain ⟨g,off,rfl,hg,ca⟩:=row_get pt_len (by decide) HR.out (by omega)
    obtain ⟨g2,off2,rfl,hg2,cb⟩:=row_get pt_len (by decide) HS.out (by omega)
    have a0:=(HB.out.cell (p:=⟨g,off+k*2,none⟩) hg).trans (ca k hlt 0 (by decide))
    have a1:=(HB.out.cell (p:=⟨g,off+k*2+1,none⟩) hg).trans (ca k hlt 1 (by decide))
    have b0:=(HB.out.cell (p:=⟨g2,off2+k*2,none⟩) hg2).trans (cb k hlt2 0 (by decide))
    have b1:=(HB.out.cell (p:=⟨g2,off2+k*2+1,none⟩) hg2).trans (cb k hlt2 1 (by decide))
    have hk1:(0:Int)≤(k:Int):=by omega
    have HMO:=hid (fun h=>take_more HT.out hlt hlt2 h)
    have HNO:Hid (l[k]≠m[k]→l≠m):=hid (fun h e=>h (by subst e;rfl))
    clear ca cb
    generalize l[k]=p at *
    generalize m[k]=q at *
    clear hlt2
    obtain ⟨px,py⟩:=p
    obtain ⟨qx,qy⟩:=q
    simp only [ptCells,List.getElem?_cons_zero,List.getElem?_cons_succ] at a0 a1 b0 b1
    by_cases he:(px,py)=(qx,qy)
    ·have HE1:∀ W,(binOp .neq 53 (.agg #[.int .i64 px,.int .i64 py]) (.agg #[.int .i64 qx,.int .i64 qy])).run Tryz.prog W=.ok (.bool false) W:=fun W=>by rw [neq_vec,decide_eq_true he];rfl
     have HT2:=hid (HMO.out he)
     clear he HMO HNO
     go_wp2
     go_region
     go_wp2
     go_roundw
     case rel=>exact ⟨k+1,hlt,by go_num,HT2,hid (below_drew HB.out)⟩
     case measure=>simp [intOf];omega
    ·have HE1:∀ W,(binOp .neq 53 (.agg #[.int .i64 px,.int .i64 py]) (.agg #[.int .i64 qx,.int .i64 qy])).run Tryz.prog W=.ok (.bool true) W:=fun W=>by rw [neq_vec,decide_eq_false he];rfl
     have HF:Hid (decide (l=m)=false):=hid (decide_eq_false (HNO.out he))
     clear he HMO HNO
     go_wp2
     go_region
     go_wp2
     go_ret
     rw [HF.out]
     exact ⟨rfl,below_drew HB.out⟩
   ·obtain rfl:k=l.length:=by omega
    have HF:Hid (decide (l=m)=true):=hid (decide_eq_true (by
     have h:=HT.out
     rw [List.take_length,HLM.out,List.take_length] at h
     exact h))
    go_wp2
    go_ret
    rw [HF.out]
    exact ⟨rfl,HB.out⟩
 ·have d1:((l.length:Int) != (m.length:Int))=true:=bne_iff_ne.2 (by omega)
  have HF:Hid (decide (l=m)=false):=hid (decide_eq_false (fun h=>hlen (by rw [h])))
  clear hlen
  go_enter Tryz.func31,Tryz.ntmps31
  go_wp2
  go_ret
  rw [HF.out]
  exact ⟨rfl,Below.refl _ _⟩
end Go.Proofs.YtnmmhcchpcbeeaaGreat.GeW
