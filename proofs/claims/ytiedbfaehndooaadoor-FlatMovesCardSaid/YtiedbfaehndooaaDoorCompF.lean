/- Package compo: Is; the document's example; how many parts (CompoCounts). -/
import Derived.Test.YtiedbfaehndooaaDoorCompE
import Derived.Test.YtiedbfaehndooaaDoorBaseM
namespace Go.Proofs.YtiedbfaehndooaaDoor
open Go Go.RowKit
set_option linter.unusedVariables false
set_option linter.unusedSimpArgs false
set_option maxRecDepth 100000

theorem is_calls (w : World) {V : Value} {l : List Int} (h1 : BytesAt w V l) (hB : Bytes l) (hn : l.length ≤ 140737488355328) :
    Calls Tryd.prog 44 #[V] w (Ret fun r w' => r = .bool (decide (sgn (n2 l 0) < 0)) ∧ Below w.heap.size w w') := by
  have M0 := hid (Own.start w)
  have h1H := hid h1
  have hBH := hid hB
  obtain ⟨q, hq⟩ : ∃ b, decide (sgn (n2 l 0) < 0) = b := ⟨_, rfl⟩
  rw [hq]
  clear h1 hB
  go_enter Tryd.func44, Tryd.ntmps44
  go_wp2_with (first
    | (go_at_call 51; (with_reducible refine (new_calls _ h1H.out hn).mono ?_); rintro _ w2 ⟨_, rfl, b, v, rfl, M⟩; ((have M2 := hid (RS.start (W0 := w) (L := []) hBH.out (by simpa using M)))); (clear M))
    | (go_at_call 52; (with_reducible refine (RS.I16 M2.out).mono ?_); rintro _ w3 ⟨_, rfl, rfl, M⟩; (have M3 := hid M); clear M))
  go_ret
  exact .mk ⟨by rw [← hq]; rfl, M3.out.below⟩
/-- The document's example. -/
def gExC : Cg := ⟨0, 0, 0, 0, [⟨3, 3, 1, 2, 16384, 0, 0, 16384⟩], []⟩
theorem gEx_okC : gExC.Ok := ⟨by decide, by decide, by decide, by decide, fun p hp => by
  have : p = ⟨3, 3, 1, 2, 16384, 0, 0, 16384⟩ := by simpa [gExC] using hp
  subst this
  exact ⟨by decide, by decide, by decide, by decide, by decide, by decide, by decide, by decide⟩, bytes_nil⟩
theorem gEx_rC : cgR gExC = true := by decide
theorem gEx_bC : cgB gExC = [255, 255, 0, 0, 0, 0, 0, 0, 0, 0, 0, 3, 0, 3, 0, 1, 0, 2] := by decide
theorem Reads.tailC {w : World} {B : Nat} {ad : Addr} {n c i : Nat} {q : List Int} (h : Reads w B 1 (some ad) n (ints .u8 q)) (hi : i ≤ n) (hc : n ≤ c) : Reads w B 1 (if c = i then some ad else some (ad.add i)) (n - i) (ints .u8 (q.drop i)) := by
  have hl := h.1
  rw [ints_length] at hl
  have := h.cut (i := i) (j := n) (cap := c) hi (Nat.le_refl _) hc
  simp only [Nat.mul_one, Option.map_some] at this
  rw [List.take_of_length_le (by rw [List.length_drop, ints_length]; omega)] at this
  rw [show ints IntKind.u8 (q.drop i) = (ints .u8 q).drop i by simp [ints, List.map_drop]]
  exact this
theorem BytesAt.tailC {w : World} {A : Option Addr} {n c i : Nat} {l : List Int} (h : SliceAt w w.heap.size 1 (.slice A n c) n (ints .u8 l)) (hi : i < n) : ∃ ad, A = some ad ∧ SliceAt w w.heap.size 1 (.slice (some (ad.add i)) (n - i) (c - i)) (n - i) (ints .u8 (l.drop i)) := by
  obtain ⟨A', c', he, hnc, hcm, hA, hr⟩ := h
  injection he with he1 he2 he3
  subst he1; subst he3
  obtain ⟨ad, rfl, hb, -⟩ := hr.2 (by omega)
  refine ⟨ad, rfl, some (ad.add i), c - i, rfl, by omega, by omega, (by intro h; cases h), ?_⟩
  have := hr.tailC (i := i) (by omega) hnc
  rwa [if_neg (by omega)] at this

theorem ex_bytes : Bytes [255, 255, 0, 0, 0, 0, 0, 0, 0, 0, 0, 3, 0, 3, 0, 1, 0, 2] := by
  intro x hx
  simp only [List.mem_cons, List.not_mem_nil, or_false] at hx
  omega
end Go.Proofs.YtiedbfaehndooaaDoor
