/- Layer 13: as many parts as there may be (CompoCounts). -/
import Derived.Test.YtiedbfaehndooaaDoorCompF
namespace Go.Proofs.YtiedbfaehndooaaDoor
open Go Go.RowKit
set_option linter.unusedVariables false
set_option linter.unusedSimpArgs false
set_option maxRecDepth 100000

def q0 : Pt := ⟨2, 0, 0, 0, 16384, 0, 0, 16384⟩
def q1 : Pt := ⟨258, 0, 0, 0, 16384, 0, 0, 16384⟩
theorem q0_ok : q0.Ok := ⟨by decide, by decide, by decide, by decide, by decide, by decide, by decide, by decide⟩
theorem q1_ok : q1.Ok := ⟨by decide, by decide, by decide, by decide, by decide, by decide, by decide, by decide⟩
def P1 (n : Nat) : List Pt := List.replicate n q0
def P2 (n : Nat) (c : Bool) : List Pt := if 0 < n ∧ c = true then (P1 n).set (n - 1) q1 else P1 n
def P3 (n : Nat) (c e : Bool) : List Pt := if 1 < n ∧ e = true then (P2 n c).set 0 q1 else P2 n c
theorem P1_length (n : Nat) : (P1 n).length = n := by simp [P1]
theorem P2_length (n : Nat) (c : Bool) : (P2 n c).length = n := by unfold P2; split <;> simp [P1]
theorem P3_length (n : Nat) (c e : Bool) : (P3 n c e).length = n := by unfold P3; split <;> simp [P2_length]
theorem P3_at {n i : Nat} (c e : Bool) (h : i < n) : pAt (P3 n c e) i = if (1 < n ∧ e = true ∧ i = 0) ∨ (c = true ∧ i = n - 1) then q1 else q0 := by
  have h2 : pAt (P2 n c) i = if c = true ∧ i = n - 1 then q1 else q0 := by
    unfold P2
    by_cases hc : c = true
    · rw [if_pos ⟨by omega, hc⟩]
      by_cases hi : i = n - 1
      · rw [if_pos ⟨hc, hi⟩]; simp [pAt, List.getD, List.getElem?_set, P1, hi, show n - 1 < n by omega]
      · rw [if_neg (fun x => hi x.2)]; simp [pAt, List.getD, List.getElem?_set, P1, show ¬ n - 1 = i by omega, h]
    · rw [if_neg (fun x => hc x.2), if_neg (fun x => hc x.1)]; simp [pAt, List.getD, P1, h]
  unfold P3
  by_cases he : 1 < n ∧ e = true
  · rw [if_pos he]
    by_cases hi : i = 0
    · rw [if_pos (.inl ⟨he.1, he.2, hi⟩)]
      subst hi
      have : 0 < (P2 n c).length := by rw [P2_length]; omega
      simp [pAt, List.getD, List.getElem?_set, this]
    · have : pAt ((P2 n c).set 0 q1) i = pAt (P2 n c) i := by simp [pAt, List.getD, List.getElem?_set, show ¬ 0 = i by omega]
      rw [this, h2]
      by_cases hk : c = true ∧ i = n - 1
      · rw [if_pos hk, if_pos (.inr hk)]
      · rw [if_neg hk, if_neg (fun x => x.elim (fun y => hi y.2.2) hk)]
  · rw [if_neg he, h2]
    by_cases hk : c = true ∧ i = n - 1
    · rw [if_pos hk, if_pos (.inr hk)]
    · rw [if_neg hk, if_neg (fun x => x.elim (fun y => he ⟨y.1, y.2.1⟩) hk)]
theorem P3_off (n : Nat) (c : Bool) : P3 n c false = P2 n c := by unfold P3; rw [if_neg (by simp)]
abbrev cgN (n : Nat) (c e : Bool) (pr : List Int) : Cg := ⟨0, 0, 0, 0, P3 n c e, pr⟩
theorem cgN_ok (n : Nat) (c e : Bool) {pr : List Int} (h : Bytes pr) : (cgN n c e pr).Ok := ⟨(by decide : I16C 0), (by decide : I16C 0), (by decide : I16C 0), (by decide : I16C 0), fun p hp => by
  obtain ⟨i, hi, rfl⟩ := List.mem_iff_getElem.1 hp
  have hi' : i < n := by rw [← P3_length n c e]; exact hi
  have : (P3 n c e)[i] = pAt (P3 n c e) i := by simp [pAt, List.getD, hi]
  show Pt.Ok ((P3 n c e)[i])
  rw [this, P3_at c e hi']
  split
  · exact q1_ok
  · exact q0_ok, h⟩
theorem partB_q : partB q0 = true ∧ partB q1 = true ∧ hasB q0.f 256 = false ∧ hasB q1.f 256 = true := by decide
theorem cgN_R (n : Nat) (c e : Bool) {pr : List Int} (h : pr.length ≤ 20) :
    cgR (cgN n c e pr) = (decide (1 ≤ n) && (decide (n ≤ 200) && ((decide (n = 1) || !e) && (c || decide (pr.length = 0))))) := by
  obtain ⟨a0, a1, a2, a3⟩ := partB_q
  have hcode : ∀ j, j < n → hasB (pAt (P3 n c e) j).f 256 = decide ((1 < n ∧ e = true ∧ j = 0) ∨ (c = true ∧ j = n - 1)) := fun j hj => by
    rw [P3_at c e hj]
    by_cases hk : (1 < n ∧ e = true ∧ j = 0) ∨ (c = true ∧ j = n - 1)
    · rw [if_pos hk, a3, decide_eq_true hk]
    · rw [if_neg hk, a2, decide_eq_false hk]
  have hpart : ∀ j, j < n → partB (pAt (P3 n c e) j) = true := fun j hj => by
    rw [P3_at c e hj]
    split
    · exact a1
    · exact a0
  unfold cgR
  simp only [P3_length]
  rw [decide_eq_true (show pr.length ≤ 65535 by omega), Bool.true_and]
  by_cases h1 : 1 ≤ n
  · have hcn : codeB (P3 n c e) n = c := by
      obtain ⟨k, rfl⟩ : ∃ k, n = k + 1 := ⟨n - 1, by omega⟩
      show hasB (pAt (P3 (k + 1) c e) k).f 256 = c
      rw [hcode k (by omega), Bool.eq_iff_iff, decide_eq_true_eq]
      constructor
      · rintro (h | h)
        · omega
        · exact h.1
      · intro h; exact .inr ⟨h, by omega⟩
    have hall : partsB (P3 n c e) n = (decide (n = 1) || !e) := by
      by_cases hbad : 1 < n ∧ e = true
      · rw [partsB_no (k := 1) (.inl (by show hasB (pAt (P3 n c e) 0).f 256 = true; rw [hcode 0 (by omega)]; exact decide_eq_true (.inl ⟨hbad.1, hbad.2, rfl⟩))) hbad.1, decide_eq_false (show ¬ n = 1 by omega), hbad.2]; rfl
      · have : (decide (n = 1) || !e) = true := by
          by_cases hn : n = 1
          · rw [decide_eq_true hn]; rfl
          · have : e = false := by cases e with | false => rfl | true => exact absurd ⟨by omega, rfl⟩ hbad
            rw [this]; simp
        rw [this]
        refine decide_eq_true fun i hi => ⟨?_, hpart i hi⟩
        cases i with
        | zero => rfl
        | succ j =>
          show hasB (pAt (P3 n c e) j).f 256 = false
          rw [hcode j (by omega)]
          exact decide_eq_false fun x => x.elim (fun y => hbad ⟨y.1, y.2.1⟩) (fun y => by omega)
    rw [hcn, hall, decide_eq_true h1]
    cases decide (n = 1) || !e <;> simp
  · rw [decide_eq_false h1]; simp
theorem ptC_set {ps : List Pt} {i : Nat} (h : i < ps.length) (z : Int) : (ptCC ps).set (i * 8) (.int .u16 z) = ptCC (ps.set i { pAt ps i with f := z }) := by
  induction ps generalizing i with
  | nil => simp at h
  | cons p ps ih =>
    cases i with
    | zero => simp [ptCC, pAt]
    | succ i =>
      rw [Nat.succ_mul]
      show (ptF p ++ ptCC ps).set (i * 8 + 8) _ = ptF p ++ ptCC (ps.set i { pAt ps i with f := z })
      rw [List.set_append_right _ _ (by simp), ← ih (by simpa using h)]
      simp
theorem ptC_f {ps : List Pt} {i : Nat} (h : i < ps.length) : (ptCC ps)[i * 8]? = some (.int .u16 (pAt ps i).f) :=
  (rows_get (F := ptF) (m := 8) (fun _ => rfl) pt0 (show 0 < 8 by omega) ps i h).trans rfl
theorem sized_part : Sized Tryd.prog 38 45 8 16 := .mk' Tryd.underlying38 (.agg (ptA pt0)) (by kernel_rfl)
theorem c_free {W0 w : World} {L : List Ent} {m : Nat} {g : Cg} {vp vg : Value} (M : Own W0 w L) (h : .blk m 40 (cA g vp vg) ∈ L) :
    w.frozen? ⟨m, 4, none⟩ = false ∧ w.frozen? ⟨m, 5, none⟩ = false := ⟨M.free h 4, M.free h 5⟩
end Go.Proofs.YtiedbfaehndooaaDoor
