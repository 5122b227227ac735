/- Layer 13: other glyphs for the parts, by the document (CompoWiths): plain words; one contract for both ends. -/
import Derived.Test.YteoicpbfjkjogaaCompS
import Derived.Test.YteoicpbfjkjogaaCompP
import Derived.Test.YteoicpbfjkjogaaLaw13B
namespace Go.Proofs.Yteoicpbfjkjogaa
open Go Go.RowKit
set_option linter.unusedVariables false
set_option linter.unusedSimpArgs false
set_option maxRecDepth 100000

/-! ## all the same but the glyphs -/
theorem wG_at (F : Int → Option Int) {ps : List Pt} {k : Nat} (h : k < ps.length) : pAt (ps.map (wG F)) k = wG F (pAt ps k) := by
  simp [pAt, List.getD, h]
theorem codeB_wG (F : Int → Option Int) (ps : List Pt) (k : Nat) (h : k ≤ ps.length) : codeB (ps.map (wG F)) k = codeB ps k := by
  cases k with
  | zero => rfl
  | succ k =>
    show hasB (pAt (ps.map (wG F)) k).f 256 = hasB (pAt ps k).f 256
    rw [wG_at F (by omega)]; rfl
theorem partB_wG (F : Int → Option Int) (p : Pt) : partB (wG F p) = partB p := rfl
theorem partsB_wG (F : Int → Option Int) (ps : List Pt) : ∀ k, k ≤ ps.length → partsB (ps.map (wG F)) k = partsB ps k
  | 0, _ => by simp [partsB]
  | k + 1, h => by rw [partsB_succ, partsB_succ, partsB_wG F ps k (by omega), codeB_wG F ps k (by omega), wG_at F (by omega), partB_wG]
theorem cgR_withG (F : Int → Option Int) (g : Cg) : cgR (withG F g) = cgR g := by
  unfold cgR withG
  simp only [List.length_map]
  rw [partsB_wG F _ _ (Nat.le_refl _), codeB_wG F _ _ (Nat.le_refl _)]
theorem layP_wG (F : Int → Option Int) (p : Pt) (b : Bool) : (layP (wG F p) b).length = (layP p b).length := by
  unfold layP
  simp only [List.length_append, b2_length]
  rfl
theorem laysP_wG (F : Int → Option Int) (ps : List Pt) : ∀ k, k ≤ ps.length → (laysP (ps.map (wG F)) k).length = (laysP ps k).length
  | 0, _ => rfl
  | k + 1, h => by
    rw [laysP_succ, laysP_succ, List.length_append, List.length_append, laysP_wG F ps k (by omega), wG_at F (by omega), layP_wG, List.length_map]
theorem cgB_withG (F : Int → Option Int) (g : Cg) : (cgB (withG F g)).length = (cgB g).length := by
  have h1 : (progB (withG F g)).length = (progB g).length := by
    unfold progB withG
    simp only [List.length_map]
    rw [codeB_wG F _ _ (Nat.le_refl _)]
  have h2 := laysP_wG F g.parts _ (Nat.le_refl _)
  unfold cgB
  simp only [List.length_append, b2_length]
  rw [h1]
  show _ + (((withG F g).box.flatMap s2).length + ((laysP (g.parts.map (wG F)) (g.parts.map (wG F)).length).length + _)) = _
  rw [List.length_map, h2]
  rfl
def lenB (g : Cg) : Nat := if cgR g then (cgB g).length else 0
theorem lenB_withG (F : Int → Option Int) (g : Cg) : lenB (withG F g) = lenB g := by unfold lenB; rw [cgR_withG, cgB_withG]
/-- How many bytes there are. -/
theorem cBytes_len (w : World) {g : Cg} {vp vg : Value} (hO : g.Ok) (hG : CAt w g vp vg) :
    Calls Try.prog 13 #[.agg (cA g vp vg)] w (Ret fun r w' => ∃ A c, r = .slice A (lenB g) c ∧ Below w.heap.size w w') := by
  cases hR : cgR g
  · refine (cBytes_no w hO hG hR).mono ?_
    rintro _ w1 ⟨r, rfl, M⟩
    obtain ⟨A, c, rfl⟩ := M.form (.head _)
    exact .mk ⟨A, c, by unfold lenB; rw [hR]; rfl, M.below⟩
  · refine (cBytes_yes w hO hG hR).mono ?_
    rintro _ w1 ⟨r, rfl, M⟩
    obtain ⟨A, c, rfl⟩ := M.form (.head _)
    exact .mk ⟨A, c, by unfold lenB; rw [hR]; rfl, M.below⟩
/-! ## is there a glyph for each of the first parts? -/
def allB (F : Int → Option Int) (ps : List Pt) (k : Nat) : Bool := (List.range k).all fun i => (F (pAt ps i).g).isSome
theorem allB_succ (F : Int → Option Int) (ps : List Pt) (k : Nat) : allB F ps (k + 1) = (allB F ps k && (F (pAt ps k).g).isSome) := by simp [allB, List.range_succ]
theorem allB_iff {F : Int → Option Int} {ps : List Pt} {k : Nat} : allB F ps k = true ↔ allG F ps k := by simp [allB, allG]
theorem allB_at {F : Int → Option Int} {ps : List Pt} {n k : Nat} (h : allB F ps n = true) (hk : k < n) : ∃ c, F (pAt ps k).g = some c := Option.isSome_iff_exists.1 (allB_iff.1 h k hk)
def g00 : Cg := ⟨0, 0, 0, 0, [], []⟩
def xG (F : Int → Option Int) (g : Cg) (ok : Bool) : Cg := if ok then withG F g else g00
theorem with2_calls (w : World) {g : Cg} {vp vg : Value} (hO : g.Ok) (hG : CAt w g vp vg) (hnp : g.parts.length ≤ 100000) (hng : g.prog.length ≤ 100000) {b n : Nat} {F : Int → Option Int} (hF : MapIs w b n F) {ok : Bool} (hok : allB F g.parts g.parts.length = ok) :
    Calls Try.prog 16 #[.agg (cA g vp vg), .map (some b)] w (Ret fun r w' => ∃ vp' vg', r = .tuple #[.agg (cA (xG F g ok) vp' vg'), .bool ok] ∧
      Own w w' [.row 5 1 vg' (xG F g ok).prog.length (ints .u8 (xG F g ok).prog), .row 35 8 vp' (xG F g ok).parts.length (ptC (xG F g ok).parts)]) := by
  subst hok
  refine (with_calls w hO hG hnp hng hF).mono ?_
  rintro _ w1 ⟨r, rfl, ⟨hall, vp', vg', rfl, M⟩ | ⟨hall, rfl, hb⟩⟩
  · have e : allB F g.parts g.parts.length = true := allB_iff.2 hall
    refine .mk ⟨vp', vg', by rw [e]; rfl, ?_⟩
    rw [e]
    show Own w w1 [.row _ _ _ g.prog.length _, .row _ _ _ (g.parts.map (wG F)).length _]
    rw [List.length_map]
    exact M
  · have e : allB F g.parts g.parts.length = false := by
      cases h : allB F g.parts g.parts.length
      · rfl
      · exact absurd (allB_iff.1 h) hall
    refine .mk ⟨.slice none 0 0, .slice none 0 0, by rw [e]; rfl, ?_⟩
    rw [e]
    exact (((Own.start w).keep hb).nil_row 35 8).nil_row 5 1
/-! ## a map is filled -/
def fillF (xs ys : List Int) : Nat → Int → Option Int
  | 0 => fun _ => none
  | k + 1 => putF (fillF xs ys k) (xs.getD k 0) (ys.getD k 0)
theorem withG_ok {F : Int → Option Int} {g : Cg} (hO : g.Ok) (hF : ∀ a c, U16 a → F a = some c → U16 c) : (withG F g).Ok := by
  refine ⟨hO.x0, hO.x1, hO.x2, hO.x3, fun p hp => ?_, hO.pr⟩
  obtain ⟨q, hq, rfl⟩ := List.mem_map.1 hp
  have h := hO.pt q hq
  refine ⟨h.f, ?_, h.x, h.y, h.a, h.b, h.c, h.d⟩
  show U16 ((F q.g).getD 0)
  cases e : F q.g with
  | none => exact ⟨by decide, by decide⟩
  | some c => exact hF _ _ h.g e
end Go.Proofs.Yteoicpbfjkjogaa
