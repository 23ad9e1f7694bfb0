/- A region that draws its order: a condition on the world that holds throughout, and another that holds till one operation, for which all loads wait, is carried out. No function is in sight. Conditions: as stated. -/
import Derived.Test.YtnkkcknogkgdkaaGreatDoorMem2
import Derived.Deep.RegionHeld3

namespace Go.Proofs.YtnkkcknogkgdkaaGreatDoor.Mem
open Go
section
variable {P:Program} {ops:Array Oper} {Q:Exit→Act→World→Prop} {md:Region.Mode} {k:Nat} {S1 S2:World→Prop}
/-- What holds behind the operations that are marked. -/
def Till (k:Nat) (S1 S2:World→Prop) (l:Array Bool) (w:World):Prop:=S1 w∧(l.getD k true=false→S2 w)
def wpAnyK (P:Program) (md:Region.Mode) (ops:Array Oper) (Q:Exit→Act→World→Prop) (k:Nat) (S1 S2:World→Prop):Nat→Array Bool→Act→World→Prop
 | 0,l,a,w=>Region.ready md ops l=[]∧Q .normal a w
 | n+1,l,a,w=>(Region.ready md ops l=[]→Q .normal a w)∧∀ i∈Region.ready md ops l,wpOp P ops Q i (fun a' w'=>Till k S1 S2 (l.setIfInBounds i true) w'∧wpAnyK P md ops Q k S1 S2 n (l.setIfInBounds i true) a' w') a w
theorem wpAny_of_K:∀ (n:Nat) (l:Array Bool) (a:Act) (w:World),wpAnyK P md ops Q k S1 S2 n l a w→wpAny P md ops Q n l a w
 | 0,_,_,_,h=>h
 | n+1,_,_,_,h=>⟨h.1,fun i hi=>wpOp_mono (fun _ _ h2=>wpAny_of_K n _ _ _ h2.2) (h.2 i hi)⟩
theorem unlisted {l:Array Bool} {i:Nat} (h:l.getD i true=false):l.getD i false=false:=by
 rcases Nat.lt_or_ge i l.size with h1 | h1
 ·simpa [h1] using h
 ·simp [Array.getElem?_eq_none h1] at h
theorem off_ready {l:Array Bool} {i j:Nat} {oj:Oper} (hi:l.getD i true=false) (hj:j∈Region.ready md ops l) (hoj:ops[j]? = some oj):∀ e∈oj.after,Region.binds md e=true→e.on≠i:=by
 rintro e he hb rfl
 obtain ⟨_,o,ho,h2⟩:=mem_ready.1 hj
 rw [hoj] at ho
 cases ho
 have h3:=h2 e he hb
 rw [unlisted hi] at h3
 cases h3
/-- Operation k waits for operation i. -/
def waits (md:Region.Mode) (ops:Array Oper) (k i:Nat):Bool:=match ops[k]? with
 | some o=>o.after.any fun e=>Region.binds md e&&e.on == i
 | none=>false
theorem not_yet {l:Array Bool} {i:Nat} (hw:waits md ops k i=true) (hi:l.getD i true=false):k ∉ Region.ready md ops l:=fun hk=>by
 obtain ⟨_,o,ho,_⟩:=mem_ready.1 hk
 unfold waits at hw
 rw [ho] at hw
 obtain ⟨e,he,hb⟩:=Array.any_eq_true'.1 hw
 simp only [Bool.and_eq_true,beq_iff_eq] at hb
 exact off_ready hi hk ho e he hb.1 hb.2
theorem wpAnyK_first {i:Nat} {oi:Oper} {v:Value} (hi:ops[i]? = some oi) (hsel:∀ (j:Nat) (o:Oper) cs b,ops[j]? = some o→o.op≠.select cs b)
  (hQ:∀ c a w,Q (.panic c) (a.put oi.dst v) w→Q (.panic c) a w) (hw:waits md ops k i=true) (hik:i≠k):∀ (n:Nat) (l:Array Bool) (a:Act) (w:World),
   (∀ j oj,ops[j]? = some oj→j≠i→l.getD j true=false→(∀ e∈oj.after,Region.binds md e=true→e.on≠i)→oi.apart ops oj=true) →
   i∈Region.ready md ops l→YieldsIf P ops (fun u=>S1 u∧S2 u) oi v a→l.getD k true=false→S1 w→S2 w →
   wpAnyK P md ops Q k S1 S2 n (l.setIfInBounds i true) (a.put oi.dst v) w→wpAnyK P md ops Q k S1 S2 (n+1) l a w:=by
 intro n
 induction n with
 | zero =>
  intro l a w _ hr hy _ h1 h2 H
  refine ⟨fun h=>(by rw [h] at hr;cases hr),fun j hj=>?_⟩
  by_cases e:j=i
  ·subst e
   exact hy.wpOp hi ⟨h1,h2⟩ ⟨⟨h1,fun _=>h2⟩,H⟩
  ·have h3:=ready_mono hj e
   rw [H.1] at h3
   cases h3
 | succ n ih =>
  intro l a w hap hr hy hk h1 h2 H
  refine ⟨fun h=>(by rw [h] at hr;cases hr),fun j hj=>?_⟩
  by_cases e:j=i
  ·subst e
   exact hy.wpOp hi ⟨h1,h2⟩ ⟨⟨h1,fun _=>h2⟩,H⟩
  ·have hil:=(mem_ready.1 hr).1
   obtain ⟨hjl,oj,hoj,_⟩:=mem_ready.1 hj
   have hjk:j≠k:=fun e=>not_yet hw hil (e ▸ hj)
   have h3:=wpOp_putIf hoj (hap j oj hoj e hjl (off_ready hil hj hoj)) (fun cs b=>hsel i oi cs b hi) (fun cs b=>hsel j oj cs b hoj) hQ hy (H.2 j (ready_mono hj e))
   have hkj:(l.setIfInBounds j true).getD k true=false:=by rw [getD_set_ne true hjk];exact hk
   refine wpOp_mono (fun a' w' h4=>?_) h3
   have hs2:S2 w':=h4.2.1.2 (by rw [getD_set_ne true hjk,getD_set_ne true hik];exact hk)
   refine ⟨⟨h4.2.1.1,fun _=>hs2⟩,ih _ a' w' (fun m om hom hmi hun hno=>hap m om hom hmi ?_ hno) (ready_mono hr (Ne.symm e)) h4.1 hkj h4.2.1.1 hs2 ?_⟩
   ·by_cases e2:j=m
    ·subst e2;exact hjl
    ·rw [getD_set_ne true e2] at hun;exact hun
   ·rw [Array.setIfInBounds_comm _ _ e]
    exact h4.2.2
theorem wpAnyK_take {i:Nat} {oi:Oper} {v:Value} {n:Nat} {l:Array Bool} {a:Act} {w:World} (hi:ops[i]? = some oi)
  (hs:Region.noSelect ops=true) (hf:Region.free md ops l i=true) (hr:(Region.ready md ops l).contains i=true) (hw:(waits md ops k i&&(i != k) && !l.getD k true)=true)
  (hQ:∀ c a w,Q (.panic c) (a.put oi.dst v) w→Q (.panic c) a w) (hy:YieldsIf P ops (fun u=>S1 u∧S2 u) oi v a) (hS:S1 w∧S2 w)
  (h:wpAnyK P md ops Q k S1 S2 n (l.setIfInBounds i true) (a.put oi.dst v) w):wpAnyK P md ops Q k S1 S2 (n+1) l a w:=by
 simp only [Bool.and_eq_true,bne_iff_ne,ne_eq,Bool.not_eq_true'] at hw
 exact wpAnyK_first hi (Region.noSelect_spec hs) hQ hw.1.1 hw.1.2 n l a w (Region.free_spec hi hf) (by simpa using hr) hy hw.2 hS.1 hS.2 h
theorem tK {i:Nat} {oi:Oper} {v:Value} {n:Nat} {l:Array Bool} {a:Act} {w:World} (hi:ops[i]? = some oi) (hy:YieldsIf P ops (fun u=>S1 u∧S2 u) oi v a) (h:wpAnyK P md ops Q k S1 S2 n (l.setIfInBounds i true) (a.put oi.dst v) w)
    (hs:Region.noSelect ops=true:=by kernel_rfl) (hf:Region.free md ops l i=true:=by kernel_rfl) (hr:(Region.ready md ops l).contains i=true:=by kernel_rfl) (hw:(waits md ops k i&&(i != k) && !l.getD k true)=true:=by kernel_rfl)
    (hQ:∀ c a w,Q (.panic c) (a.put oi.dst v) w→Q (.panic c) a w:=by exact fun _ _ _ h=>h) (hS:S1 w∧S2 w:=by assumption):wpAnyK P md ops Q k S1 S2 (n+1) l a w:=wpAnyK_take hi hs hf hr hw hQ hy hS h
theorem tH {S:World→Prop} {i:Nat} {oi:Oper} {v:Value} {n:Nat} {l:Array Bool} {a:Act} {w:World} (hi:ops[i]? = some oi) (hy:YieldsIf P ops S oi v a) (h:wpAnyH P md ops Q S n (l.setIfInBounds i true) (a.put oi.dst v) w)
    (hs:Region.noSelect ops=true:=by kernel_rfl) (hf:Region.free md ops l i=true:=by kernel_rfl) (hr:(Region.ready md ops l).contains i=true:=by kernel_rfl)
    (hQ:∀ c a w,Q (.panic c) (a.put oi.dst v) w→Q (.panic c) a w:=by exact fun _ _ _ h=>h) (hS:S w:=by assumption):wpAnyH P md ops Q S (n+1) l a w:=wpAnyH_take hi hs hf hr hQ hy hS h
/-- An operation that is left out by its guard, or that yields in whatever world. -/
theorem wpAnyK_done {l:Array Bool} {a:Act} {w:World} (hr:Region.ready md ops l=[]) (h:Q .normal a w):∀ n,wpAnyK P md ops Q k S1 S2 n l a w
 | 0=>⟨hr,h⟩
 | _+1=>⟨fun _=>h,by rw [hr];simp⟩
/-- The one operation that may come up now; behind it the conditions are shown anew. -/
theorem wpAnyK_one {i:Nat} {o:Oper} {n:Nat} {l:Array Bool} {a:Act} {w:World} (hr:Region.ready md ops l=[i]) (ho:ops[i]? = some o)
  (h:∀ K':Act→World→Prop,Shut (∀ a w,S1 w→(i≠k→S2 w)→(S1 w∧(i≠k→S2 w)→wpAnyK P md ops Q k S1 S2 n (l.setIfInBounds i true) a w)→K' a w)→if Region.wanted o (yielded ops a.tmps)=true then Oper.wp P o a w K' Q else K' (a.put o.dst undef) w) :
  wpAnyK P md ops Q k S1 S2 (n+1) l a w:=by
 refine ⟨fun h0=>(by rw [hr] at h0;cases h0),fun j hj=>?_⟩
 rw [hr] at hj
 obtain rfl:=List.mem_singleton.1 hj
 refine wpOp_step ho fun K' hK=>h K' fun a w h1 h2 h3=>hK a w ⟨⟨h1,fun hk=>h2 fun e=>?_⟩,h3 ⟨h1,h2⟩⟩
 subst e
 have hl:j < l.size:=by
  obtain ⟨hjl,_⟩:=mem_ready.1 (hr ▸ hj:j∈Region.ready md ops l)
  rcases Nat.lt_or_ge j l.size with h4 | h4
  ·exact h4
  ·simp [Array.getElem?_eq_none h4] at hjl
 simp [hl] at hk
theorem wp_region_tillK {id:Nat} {a:Act} {w:World} (hm:P.follows .mixedOrders=true) (hS:S1 w.drew∧S2 w.drew)
  (h:S1 w.drew∧S2 w.drew→wpAnyK P .any ops Q k S1 S2 ops.size (Array.replicate ops.size false) a w.drew):(Code.region id ops true).wp P Q a w :=
 wp_region_any hm (wpAny_of_K _ _ _ _ (h hS))
end
end Go.Proofs.YtnkkcknogkgdkaaGreatDoor.Mem
