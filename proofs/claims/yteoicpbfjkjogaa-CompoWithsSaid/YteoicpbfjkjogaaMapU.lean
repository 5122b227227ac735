/- A map from numbers of two bytes to numbers of two bytes, in plain words: what stands at each key. -/
import Derived.Test.YteoicpbfjkjogaaRowSet
import Derived.Test.YteoicpbfjkjogaaOpen
import Derived.Maps.Own
import Derived.Maps.Views
namespace Go.Proofs.Yteoicpbfjkjogaa
open Go Go.RowKit Go.Maps
set_option linter.unusedVariables false
set_option linter.unusedSimpArgs false

theorem mapK : Keyed Try.prog 30 := int_keyed Try.underlying30
theorem wf_mk16 {a : Int} (h0 : 0 ≤ a) (h1 : a < 65536) : (Lit.int .u16 a).wf = true := by
  have e1 : IntKind.u16.min = 0 := rfl
  have e2 : IntKind.u16.max = 65535 := rfl
  simp only [Lit.wf, e1, e2, Bool.and_eq_true, decide_eq_true_eq]
  omega
def u16L (a : Int) : Lit := .int .u16 a
/-- The block is a map of at most n entries; at a key stands what the function tells. -/
def MapIs (w : World) (b n : Nat) (F : Int → Option Int) : Prop :=
  ∃ D : DataW Unit, w.ownsMap Try.prog 30 (plainElem Try.prog 30) b n D ∧ ∀ a, 0 ≤ a → a < 65536 → ∀ z, D.atKey (u16L a) z = (F a).elim z (fun c => .lit (.int .u16 c))
theorem MapIs.made (w : World) : MapIs (w.alloc (.map #[] 0)) w.heap.size 0 (fun _ => none) := ⟨_, World.ownsMap_made _ _ _ _, fun a _ _ z => rfl⟩
theorem MapIs.lt {w : World} {b n : Nat} {F : Int → Option Int} (h : MapIs w b n F) : b < w.heap.size := by
  obtain ⟨D, h, -⟩ := h; exact h.lt
theorem MapIs.below {w w' : World} {b n : Nat} {F : Int → Option Int} (h : MapIs w b n F) (hb : Below w.heap.size w w') : MapIs w' b n F := by
  have hlt := h.lt
  obtain ⟨D, ⟨es, clock, h1, h2⟩, h3⟩ := h
  exact ⟨D, ⟨es, clock, (hb.block b hlt).trans h1, h2⟩, h3⟩
def putF (F : Int → Option Int) (a c : Int) : Int → Option Int := fun x => if x = a then some c else F x
theorem MapIs.put {w : World} {b n : Nat} {F : Int → Option Int} (h : MapIs w b n F) {a c : Int} (a0 : 0 ≤ a) (a1 : a < 65536) (c0 : 0 ≤ c) (c1 : c < 65536) (hn : n < maxLen) :
    ∃ w', (Instr.mapUpdate 41 (.map (some b)) (.int .u16 a) (.int .u16 c)).run Try.prog w = .ok () w' ∧ MapIs w' b (n + 1) (putF F a c) ∧ w.grownBy w' (some b) := by
  obtain ⟨D, ho, hD⟩ := h
  have hD' : ∃ es, D = .map es := by obtain ⟨_, _, _, _, _, e⟩ := ho; exact ⟨_, e⟩
  obtain ⟨w', h1, h2, h3⟩ := ho.update (t := 41) (e := 30) mapK Try.underlying41 hn (keyOf_int_mk Try.underlying30 (wf_mk16 a0 a1)) (plainElem_int Try.underlying30 (wf_mk16 c0 c1))
  refine ⟨w', h1, ⟨_, h2, fun x x0 x1 z => ?_⟩, h3⟩
  unfold putF
  by_cases hx : x = a
  · subst hx
    rw [if_pos rfl]
    exact atKey_put_same hD' (mapK.key (keyOf_int_mk Try.underlying30 (wf_mk16 a0 a1))) _ _
  · rw [if_neg hx, show u16L x = Lit.int .u16 x from rfl, atKey_put_other (by intro e; injection e with _ e; exact hx e)]
    exact hD x x0 x1 z
theorem MapIs.look {w : World} {b n : Nat} {F : Int → Option Int} (h : MapIs w b n F) {a : Int} (a0 : 0 ≤ a) (a1 : a < 65536) (q : Bool) (hz : (zeroValue 30).run Try.prog w = .ok (.int .u16 0) w) :
    (Instr.lookup 41 (.map (some b)) (.int .u16 a) q).run Try.prog w = .ok ((F a).elim (if q then .tuple #[.int .u16 0, .bool false] else .int .u16 0) (fun c => if q then .tuple #[.int .u16 c, .bool true] else .int .u16 c)) w ∧ ∀ c, F a = some c → 0 ≤ c ∧ c < 65536 := by
  obtain ⟨D, ⟨es, clock, hb, hF, -, rfl⟩, hD⟩ := h
  have hd := hD a a0 a1
  rcases fit_look (t := 41) (e := 30) q mapK Try.underlying41 hz hb hF (keyOf_int_mk Try.underlying30 (wf_mk16 a0 a1)) with ⟨hrun, -, hat⟩ | ⟨e0, y, -, -, hrun, hR, hat, -⟩
  · cases hFa : F a with
    | none => exact ⟨hrun, fun c h => by cases h⟩
    | some c =>
      have := (hd .nil).symm.trans (hat .nil)
      rw [hFa] at this
      cases this
  · obtain ⟨c, hv, hy, hwc⟩ := plainElem_int_inv Try.underlying30 hR
    subst hy
    cases hFa : F a with
    | none =>
      have := (hd .nil).symm.trans (hat .nil)
      rw [hFa] at this
      cases this
    | some c0 =>
      have := (hd .nil).symm.trans (hat .nil)
      rw [hFa] at this
      have e : c0 = c := by
        have h2 : (DataW.lit (.int .u16 c0) : DataW Unit) = .lit (.int .u16 c) := this
        simpa using h2
      subst e
      rw [hv] at hrun
      exact ⟨hrun, fun c h => by injection h with h; subst h; exact wf_u16 hwc⟩
theorem zero16 (w : World) : (zeroValue 30).run Try.prog w = .ok (.int .u16 0) w := by kernel_rfl
section
variable {P : Program} {w : World}
/-- A store into the map, as an operation of a drawn region. -/
theorem step_mapPut {P : Program} {ops : Array Oper} {o : Oper} {a : Act} {w w' : World} {K : Act → World → Prop} {Q : Exit → Act → World → Prop} {E : Prop} (hgd : o.guard = none) (hd : o.dst = none) {t : TypeId} {m x v : Operand} (ho : o.op = .mapUpdate t m x v)
    (hr : (Instr.mapUpdate t (a.eval m) (a.eval x) (a.eval v)).run P w = .ok () w') (hK : K a w') : if Region.wanted o (yielded ops a.tmps) = true then Oper.wp P o a w K Q else E := by
  have hw : Region.wanted o (yielded ops a.tmps) = true := by simp [Region.wanted, hgd]
  rw [if_pos hw]
  unfold Oper.wp
  simp [execOp, ho, hr, Result.andThen]
  simpa [Oper.upon, Act.put, hd] using hK
end
end Go.Proofs.Yteoicpbfjkjogaa
