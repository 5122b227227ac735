/- A drawn region under a condition that holds until one operation (a store) comes up: behind it, none. -/
import Derived.Test.YteoicpbfjkjogaaHeld
import Derived.StillTail
import Derived.Deep.RegionHeld
namespace Go.Proofs.Yteoicpbfjkjogaa
open Go Go.RowKit
section
variable {P : Program} {ops : Array Oper} {Q : Exit → Act → World → Prop} {md : Region.Mode} {S : World → Prop} {st : Nat}

def wpAnyV (P : Program) (md : Region.Mode) (ops : Array Oper) (Q : Exit → Act → World → Prop) (S : World → Prop) (st : Nat) : Nat → Array Bool → Act → World → Prop
  | 0, listed, a, w => Region.ready md ops listed = [] ∧ Q .normal a w
  | fuel + 1, listed, a, w => (Region.ready md ops listed = [] → Q .normal a w) ∧
    ∀ i ∈ Region.ready md ops listed, (i = st → wpOp P ops Q i (fun a' w' => wpAny P md ops Q fuel (listed.setIfInBounds i true) a' w') a w) ∧
      (i ≠ st → wpOp P ops Q i (fun a' w' => S w' ∧ wpAnyV P md ops Q S st fuel (listed.setIfInBounds i true) a' w') a w)

theorem wpAny_of_V : ∀ (fuel : Nat) (listed : Array Bool) (a : Act) (w : World), wpAnyV P md ops Q S st fuel listed a w → wpAny P md ops Q fuel listed a w
  | 0, _, _, _, h => h
  | fuel + 1, _, _, _, h => ⟨h.1, fun i hi => by
      by_cases e : i = st
      · exact (h.2 i hi).1 e
      · exact wpOp_mono (fun a' w' h' => wpAny_of_V fuel _ a' w' h'.2) ((h.2 i hi).2 e)⟩

/-- What has come up had all that it waits for. -/
def closedL (md : Region.Mode) (ops : Array Oper) (listed : Array Bool) : Prop := ∀ (j : Nat) (o : Oper), ops[j]? = some o → listed.getD j false = true → ∀ e ∈ o.after, Region.binds md e = true → listed.getD e.on false = true
def closedB (md : Region.Mode) (ops : Array Oper) (listed : Array Bool) : Bool := (List.range ops.size).all fun j => match ops[j]? with
  | some o => !(listed.getD j false) || o.after.toList.all fun e => !(Region.binds md e) || listed.getD e.on false
  | none => true
theorem closed_of {listed : Array Bool} (h : closedB md ops listed = true) : closedL md ops listed := fun j o ho hl e he hb => by
  have hj : j < ops.size := (Array.getElem?_eq_some_iff.1 ho).1
  have := List.all_eq_true.1 h j (List.mem_range.2 hj)
  simp only [ho, hl, Bool.not_true, Bool.false_or] at this
  have := List.all_eq_true.1 this e (by simpa using he)
  rw [hb] at this
  simpa using this
theorem closed_set {listed : Array Bool} {j : Nat} (h : closedL md ops listed) (hj : j ∈ Region.ready md ops listed) : closedL md ops (listed.setIfInBounds j true) := fun k o ho hl e he hb => by
  by_cases hk : j = k
  · subst hk
    obtain ⟨-, o', ho', hall⟩ := mem_ready.1 hj
    rw [ho] at ho'
    injection ho' with ho'
    subst ho'
    exact getD_set_true (hall e he hb)
  · rw [getD_set_ne false hk] at hl
    exact getD_set_true (h k o ho hl e he hb)
def pathB (md : Region.Mode) (ops : Array Oper) : Nat → List Nat → Nat → Bool
  | s, [], i => Region.waitsFor md ops s i
  | s, c :: l, i => Region.waitsFor md ops s c && pathB md ops c l i
theorem waits_not {s c : Nat} {listed : Array Bool} (hw : Region.waitsFor md ops s c = true) (hcl : closedL md ops listed) (hc : listed.getD c false ≠ true) : s ∉ Region.ready md ops listed ∧ listed.getD s false ≠ true := by
  obtain ⟨os, hos, e, he, hb, heq⟩ := Region.waitsFor_spec hw
  subst heq
  refine ⟨fun hr => ?_, fun hl => hc (hcl s os hos hl e he hb)⟩
  obtain ⟨-, o', ho', hall⟩ := mem_ready.1 hr
  rw [hos] at ho'
  injection ho' with ho'
  subst ho'
  exact hc (hall e he hb)
theorem path_not {i : Nat} {listed : Array Bool} (hcl : closedL md ops listed) (hi : listed.getD i false ≠ true) : ∀ (l : List Nat) (s : Nat), pathB md ops s l i = true → s ∉ Region.ready md ops listed ∧ listed.getD s false ≠ true
  | [], s, h => waits_not h hcl hi
  | c :: l, s, h => by
    simp only [pathB, Bool.and_eq_true] at h
    exact waits_not h.1 hcl (path_not hcl hi l c h.2).2
theorem not_listed {i : Nat} {listed : Array Bool} (h : i ∈ Region.ready md ops listed) : listed.getD i false ≠ true := fun h1 => by
  have h0 := (mem_ready.1 h).1
  rcases Nat.lt_or_ge i listed.size with h' | h'
  · simp [h'] at h0 h1; rw [h0] at h1; cases h1
  · simp [Array.getElem?_eq_none h'] at h1

theorem wpAnyV_first {i : Nat} {oi : Oper} {v : Value} (hi : ops[i]? = some oi) (hsel : ∀ (j : Nat) (o : Oper) cs b, ops[j]? = some o → o.op ≠ .select cs b)
    (hQ : ∀ c a w, Q (.panic c) (a.put oi.dst v) w → Q (.panic c) a w) (l : List Nat) (hwt : pathB md ops st l i = true) (his : i ≠ st) :
    ∀ (fuel : Nat) (listed : Array Bool) (a : Act) (w : World), closedL md ops listed →
      (∀ j oj, ops[j]? = some oj → j ≠ i → listed.getD j true = false → (∀ e ∈ oj.after, Region.binds md e = true → e.on ≠ i) → oi.apart ops oj = true) →
      i ∈ Region.ready md ops listed → YieldsIf P ops S oi v a → S w →
      wpAnyV P md ops Q S st fuel (listed.setIfInBounds i true) (a.put oi.dst v) w → wpAnyV P md ops Q S st (fuel + 1) listed a w := by
  intro fuel
  induction fuel with
  | zero =>
    intro listed a w _ _ hr hy hS H
    refine ⟨fun h => (by rw [h] at hr; cases hr), fun j hj => ?_⟩
    by_cases hji : j = i
    · subst hji; exact ⟨fun e => absurd e his, fun _ => hy.wpOp hi hS ⟨hS, H⟩⟩
    · have := ready_mono hj hji
      rw [H.1] at this
      cases this
  | succ fuel ih =>
    intro listed a w hcl hfree hr hy hS H
    refine ⟨fun h => (by rw [h] at hr; cases hr), fun j hj => ?_⟩
    by_cases hji : j = i
    · subst hji; exact ⟨fun e => absurd e his, fun _ => hy.wpOp hi hS ⟨hS, H⟩⟩
    · obtain ⟨hjun, oj, hoj, hall⟩ := mem_ready.1 hj
      have hnot : ∀ e ∈ oj.after, Region.binds md e = true → e.on ≠ i := fun e he hb heq => by
        have h1 := hall e he hb
        have h0 := (mem_ready.1 hr).1
        rw [heq] at h1
        rcases Nat.lt_or_ge i listed.size with h' | h'
        · simp [h'] at h0 h1; rw [h0] at h1; cases h1
        · simp [Array.getElem?_eq_none h'] at h1
      have hjs : j ≠ st := fun e => (path_not hcl (not_listed hr) l st hwt).1 (e ▸ hj)
      have h1 := (H.2 j (ready_mono hj hji)).2 hjs
      have h2 := wpOp_putIf hoj (hfree j oj hoj hji hjun hnot) (fun cs b => hsel i oi cs b hi) (fun cs b => hsel j oj cs b hoj) hQ hy h1
      have hfree' : ∀ k ok, ops[k]? = some ok → k ≠ i → (listed.setIfInBounds j true).getD k true = false →
          (∀ e ∈ ok.after, Region.binds md e = true → e.on ≠ i) → oi.apart ops ok = true := fun k ok hk hki hun hno => by
        refine hfree k ok hk hki ?_ hno
        by_cases hjk : j = k
        · subst hjk; exact hjun
        · rw [getD_set_ne true hjk] at hun; exact hun
      refine ⟨fun e => absurd e hjs, fun _ => wpOp_mono (fun a' w' h3 => ⟨h3.2.1, ih (listed.setIfInBounds j true) a' w' (closed_set hcl hj) hfree' (ready_mono hr (Ne.symm hji)) h3.1 h3.2.1 ?_⟩) h2⟩
      rw [Array.setIfInBounds_comm _ _ hji]
      exact h3.2.2

theorem wpAnyV_take {i : Nat} {oi : Oper} {v : Value} {fuel : Nat} {listed : Array Bool} {a : Act} {w : World} (hi : ops[i]? = some oi)
    (hs : Region.noSelect ops = true) (hf : Region.free md ops listed i = true) (hr : (Region.ready md ops listed).contains i = true) (l : List Nat) (hwt : pathB md ops st l i = true) (hcl : closedB md ops listed = true) (his : (i == st) = false)
    (hQ : ∀ c a w, Q (.panic c) (a.put oi.dst v) w → Q (.panic c) a w) (hy : YieldsIf P ops S oi v a) (hS : S w)
    (h : wpAnyV P md ops Q S st fuel (listed.setIfInBounds i true) (a.put oi.dst v) w) : wpAnyV P md ops Q S st (fuel + 1) listed a w := by
  exact wpAnyV_first hi (Region.noSelect_spec hs) hQ l hwt (by simpa using his) fuel listed a w (closed_of hcl) (Region.free_spec hi hf) (by simpa using hr) hy hS h

def AllReadyV (P : Program) (md : Region.Mode) (ops : Array Oper) (Q : Exit → Act → World → Prop) (S : World → Prop) (st : Nat) (fuel : Nat) (listed : Array Bool) (a : Act) (w : World) (rs : List Nat) : Prop :=
  ∀ i ∈ rs, (i = st → wpOp P ops Q i (fun a' w' => wpAny P md ops Q fuel (listed.setIfInBounds i true) a' w') a w) ∧ (i ≠ st → wpOp P ops Q i (fun a' w' => S w' ∧ wpAnyV P md ops Q S st fuel (listed.setIfInBounds i true) a' w') a w)
theorem AllReadyV.nil {fuel : Nat} {listed : Array Bool} {a : Act} {w : World} : AllReadyV P md ops Q S st fuel listed a w [] := fun _ h => by cases h
theorem AllReadyV.cons {fuel : Nat} {listed : Array Bool} {a : Act} {w : World} {i : Nat} {o : Oper} {rs : List Nat} (ho : ops[i]? = some o) (his : (i == st) = false)
    (h : ∀ K' : Act → World → Prop, Shut (∀ a w, S w → (S w → wpAnyV P md ops Q S st fuel (listed.setIfInBounds i true) a w) → K' a w) → if Region.wanted o (yielded ops a.tmps) = true then Oper.wp P o a w K' Q else K' (a.put o.dst undef) w)
    (hs : AllReadyV P md ops Q S st fuel listed a w rs) : AllReadyV P md ops Q S st fuel listed a w (i :: rs) := fun j hj => by
  rcases List.mem_cons.1 hj with rfl | hj
  · exact ⟨fun e => by simp [e] at his, fun _ => wpOp_step ho (fun K' hK => h K' (fun a w hS hW => hK a w ⟨hS, hW hS⟩))⟩
  · exact hs j hj
/-- The last one under the condition. -/
theorem AllReadyV.last {fuel : Nat} {listed : Array Bool} {a : Act} {w : World} {o : Oper} (ho : ops[st]? = some o)
    (h : ∀ K' : Act → World → Prop, Shut (∀ a w, (True → wpAnyH P md ops Q (fun _ => True) fuel (listed.setIfInBounds st true) a w) → K' a w) → if Region.wanted o (yielded ops a.tmps) = true then Oper.wp P o a w K' Q else K' (a.put o.dst undef) w) :
    AllReadyV P md ops Q S st fuel listed a w [st] := fun j hj => by
  obtain rfl := List.mem_singleton.1 hj
  exact ⟨fun _ => wpOp_step ho (fun K' hK => h K' (fun a w hW => hK a w (wpAny_of_held _ _ _ _ (hW trivial)))), fun e => absurd rfl e⟩
theorem wpAnyV_ready {rs : List Nat} {fuel : Nat} {listed : Array Bool} {a : Act} {w : World} (hr : Region.ready md ops listed = rs) (hne : rs ≠ [])
    (h : AllReadyV P md ops Q S st fuel listed a w rs) : wpAnyV P md ops Q S st (fuel + 1) listed a w := ⟨fun h0 => absurd (hr ▸ h0) hne, hr ▸ h⟩
theorem wp_region_until {id : Nat} {a : Act} {w : World} (st : Nat) (hm : P.follows .mixedOrders = true) (hS : S w.drew)
    (h : S w.drew → wpAnyV P .any ops Q S st ops.size (Array.replicate ops.size false) a w.drew) : (Code.region id ops true).wp P Q a w :=
  wp_region_any hm (wpAny_of_V _ _ _ _ (h hS))
end
end Go.Proofs.Yteoicpbfjkjogaa
