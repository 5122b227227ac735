/- Layer 12: the contours of a glyph (SimpleContours). -/
import Derived.Test.YtiedbfaehndooaaDoorSimpF
import Derived.Test.YtiedbfaehndooaaDoorBaseM
namespace Go.Proofs.YtiedbfaehndooaaDoor
open Go Go.RowKit
set_option linter.unusedVariables false
set_option linter.unusedSimpArgs false
set_option maxRecDepth 100000

theorem pt_take (l : List (Int × Int × Bool)) {b j : Nat} (h : j < b) : pX (l.take b) j = pX l j ∧ pY (l.take b) j = pY l j ∧ pO (l.take b) j = pO l j := by
  simp [pX, pY, pO, List.getD, List.getElem?_take, h]
theorem pt_drop (l : List (Int × Int × Bool)) (a j : Nat) : pX (l.drop a) j = pX l (a + j) ∧ pY (l.drop a) j = pY l (a + j) ∧ pO (l.drop a) j = pO l (a + j) := by
  simp [pX, pY, pO, List.getD, List.getElem?_drop]
/-- A contour's length and its points. -/
theorem cnt_parts {g : Sg} (hO : g.Ok) (hR : sgR g = true) {k : Nat} (hk : k < g.ends.length) :
    ∃ p e n : Nat, nP g.ends k = p ∧ g.ends.getD k 0 = e ∧ p + n = e + 1 ∧ e + 1 ≤ g.pts.length ∧ (cntAt g k).length = n ∧ ∀ j, j < n → pX (cntAt g k) j = pX g.pts (p + j) ∧ pY (cntAt g k) j = pY g.pts (p + j) ∧ pO (cntAt g k) j = pO g.pts (p + j) := by
  obtain ⟨hrise, -, -, hn, -⟩ := sgR_parts hR
  have h1 := nP_mono hrise (k + 1) (by omega) k (by omega)
  have h2 := nP_mono hrise g.ends.length (Nat.le_refl _) (k + 1) (by omega)
  obtain ⟨b0, -⟩ := nP_bound hO k
  obtain ⟨e0, -⟩ := hO.end k
  rw [← hn] at h2
  have h3 : nP g.ends (k + 1) = g.ends.getD k 0 + 1 := rfl
  unfold cntAt
  rw [h3] at h1 h2 ⊢
  generalize nP g.ends k = p at *
  generalize g.ends.getD k 0 = e at *
  obtain ⟨p, rfl⟩ : ∃ p' : Nat, p = p' := ⟨p.toNat, by omega⟩
  obtain ⟨e, rfl⟩ : ∃ p' : Nat, e = p' := ⟨e.toNat, by omega⟩
  refine ⟨p, e, e + 1 - p, rfl, rfl, by omega, by omega, by simp; omega, fun j hj => ?_⟩
  obtain ⟨q1, q2, q3⟩ := pt_drop (g.pts.take ((e : Int) + 1).toNat) p j
  obtain ⟨r1, r2, r3⟩ := pt_take g.pts (b := ((e : Int) + 1).toNat) (j := p + j) (by omega)
  rw [show ((p : Int)).toNat = p from rfl, q1, q2, q3, r1, r2, r3]
  exact ⟨rfl, rfl, rfl⟩
/-- The three cells of a point. -/
theorem dpt_at {w : World} {B : Nat} {ad : Addr} {ps : List (Int × Int × Bool)} {n : Nat} (hn : ps.length = n) (hr : Reads w B 3 (some ad) n (dpC ps)) {i : Nat} (hi : i < n) :
    w.cell? (ad.add (i * 3)) = some (.int .i64 (pX ps i)) ∧ w.cell? ⟨(ad.add (i * 3)).block, (ad.add (i * 3)).off + 1, none⟩ = some (.int .i64 (pY ps i)) ∧ w.cell? ⟨(ad.add (i * 3)).block, (ad.add (i * 3)).off + 2, none⟩ = some (.bool (pO ps i)) := by
  have hg := dpC_get ps i (by omega)
  obtain ⟨a0, he, q0⟩ := hr.cell hg.1
  injection he with he; subst he
  obtain ⟨a1, he, q1⟩ := hr.cell_at (m := i * 3) (j := 1) (by omega) hg.2.1
  injection he with he; subst he
  obtain ⟨a2, he, q2⟩ := hr.cell_at (m := i * 3) (j := 2) (by omega) hg.2.2
  injection he with he; subst he
  exact ⟨q0, q1, q2⟩
theorem cl_get {g : Sg} {l : CL} {n k : Nat} (h : l.map (·.2) = cntK g n) (hk : k < n) : ∃ v, (l.map (·.1))[k]? = some v ∧ .row 30 3 v (cntAt g k).length (dpC (cntAt g k)) ∈ cRows l := by
  have hl : l.length = n := by have := congrArg List.length h; simpa [cntK] using this
  have hk' : k < l.length := by omega
  have h2 : (l.map (·.2))[k]? = (cntK g n)[k]? := by rw [h]
  rw [List.getElem?_map, List.getElem?_eq_getElem hk'] at h2
  have h3 : (cntK g n)[k]? = some (cntAt g k) := by simp [cntK, hk]
  rw [h3] at h2
  have h4 : l[k].2 = cntAt g k := by injection h2
  exact ⟨l[k].1, by rw [List.getElem?_map, List.getElem?_eq_getElem hk']; rfl, List.mem_map.2 ⟨l[k], List.getElem_mem _, by rw [h4]⟩⟩
theorem cl_len {g : Sg} {l : CL} {n : Nat} (h : l.map (·.2) = cntK g n) : l.length = n := by have := congrArg List.length h; simpa [cntK] using this
theorem cRows_mineX (l : CL) {e : TypeId} {sz n : Nat} {v : Value} {xs : List Value} : ∀ y ∈ Ent.row e sz v n xs :: cRows l, y.mine := by
  intro y hy
  rcases List.mem_cons.1 hy with rfl | hy
  · trivial
  · exact cRows_mine l y hy
theorem dp_cells {W0 w : World} {L : List Ent} {p : Nat} {x y : Int} {on : Bool} (M : Own W0 w L) (h : .blk p 30 #[.int .i64 x, .int .i64 y, .bool on] ∈ L) :
    w.cell? ⟨p, 0, none⟩ = some (.int .i64 x) ∧ w.cell? ⟨p, 1, none⟩ = some (.int .i64 y) ∧ w.cell? ⟨p, 2, none⟩ = some (.bool on) := ⟨M.cell h 0, M.cell h 1, M.cell h 2⟩

end Go.Proofs.YtiedbfaehndooaaDoor
