/- Package compo: parts and glyphs made of them, in plain words. -/
import Derived.Test.YteoicpbfjkjogaaRead
import Derived.Test.YteoicpbfjkjogaaRowSet
import Derived.Test.YteoicpbfjkjogaaNums
import Derived.Laws.BitsAllLaws
namespace Go.Proofs.Yteoicpbfjkjogaa
open Go Go.RowKit
set_option linter.unusedVariables false
set_option linter.unusedSimpArgs false
set_option maxRecDepth 100000

/-! ## bits of sixteen -/
def hasB (f k : Int) : Bool := f / k % 2 == 1
def b01 (b : Bool) : Int := if b then 1 else 0
theorem b01_has {f k : Int} : b01 (hasB f k) = f / k % 2 := by
  unfold b01 hasB
  by_cases h : f / k % 2 = 1
  · rw [if_pos (by simpa using h), h]
  · rw [if_neg (by simpa using h)]; omega
theorem has_pos {f k : Int} : hasB f k = true ↔ f / k % 2 = 1 := by unfold hasB; simp
theorem has_neg {f k : Int} : hasB f k = false ↔ f / k % 2 = 0 := by
  unfold hasB
  rw [beq_eq_false_iff_ne]
  omega
theorem and_split (n m : Nat) : n &&& m = 256 * ((n / 256) &&& (m / 256)) + ((n % 256) &&& (m % 256)) := by
  have h1 : (n &&& m) / 2 ^ 8 = n / 2 ^ 8 &&& m / 2 ^ 8 := Nat.and_div_two_pow ..
  have h2 : (n &&& m) % 2 ^ 8 = (n % 2 ^ 8) &&& (m % 2 ^ 8) := Nat.and_mod_two_pow ..
  simp only [Nat.reducePow] at h1 h2
  omega
theorem or_split (n m : Nat) : n ||| m = 256 * ((n / 256) ||| (m / 256)) + ((n % 256) ||| (m % 256)) := by
  have h1 : (n ||| m) / 2 ^ 8 = n / 2 ^ 8 ||| m / 2 ^ 8 := Nat.or_div_two_pow ..
  have h2 : (n ||| m) % 2 ^ 8 = (n % 2 ^ 8) ||| (m % 2 ^ 8) := Nat.or_mod_two_pow ..
  simp only [Nat.reducePow] at h1 h2
  omega
theorem tabL : ∀ l : Nat, l < 256 → (l &&& 200 = 8 * (l / 8 % 2) + 64 * (l / 64 % 2) + 128 * (l / 128 % 2)) ∧ (l &&& 1 = l % 2) ∧ (l &&& 2 = 2 * (l / 2 % 2)) ∧ (l &&& 32 = 32 * (l / 32 % 2)) ∧
    ((l &&& 223) + 32 * (l / 32 % 2) = l) ∧ ((l ||| 32) + 32 * (l / 32 % 2) = l + 32) ∧ (((l &&& 48) = 0) ↔ (l / 16 % 2 = 0 ∧ l / 32 % 2 = 0)) := by decide +kernel
theorem tabH : ∀ h : Nat, h < 256 → (h &&& 1 = h % 2) ∧ (((h &&& 232) = 0) ↔ (h / 8 % 2 = 0 ∧ h < 32)) ∧ (h &&& 255 = h) ∧ (h ||| 1 = h + 1 - h % 2) ∧ (h &&& 0 = 0) ∧ (h ||| 0 = h) := by decide +kernel
theorem and_kinds {f : Int} (f0 : 0 ≤ f) (f1 : f < 65536) : bits .and .u16 f 200 = 8 * b01 (hasB f 8) + 64 * b01 (hasB f 64) + 128 * b01 (hasB f 128) := by
  obtain ⟨n, rfl⟩ : ∃ n : Nat, f = n := ⟨f.toNat, by omega⟩
  rw [show bits .and .u16 (n : Int) 200 = ((n &&& 200 : Nat) : Int) from u16_and_nat n 200 (by omega) (by omega), and_split, b01_has, b01_has, b01_has]
  obtain ⟨t1, -⟩ := tabL (n % 256) (by omega)
  have t2 := (tabH (n / 256) (by omega)).2.2.2.2.1
  rw [show 200 / 256 = 0 by rfl, show 200 % 256 = 200 by rfl, t1, t2]
  omega
theorem and_1 {f : Int} (f0 : 0 ≤ f) (f1 : f < 65536) : bits .and .u16 f 1 = b01 (hasB f 1) := by
  obtain ⟨n, rfl⟩ : ∃ n : Nat, f = n := ⟨f.toNat, by omega⟩
  rw [show bits .and .u16 (n : Int) 1 = ((n &&& 1 : Nat) : Int) from u16_and_nat n 1 (by omega) (by omega), and_split, b01_has]
  obtain ⟨-, t1, -⟩ := tabL (n % 256) (by omega)
  have t2 := (tabH (n / 256) (by omega)).2.2.2.2.1
  rw [show 1 / 256 = 0 by rfl, show 1 % 256 = 1 by rfl, t1, t2]
  omega
theorem and_2 {f : Int} (f0 : 0 ≤ f) (f1 : f < 65536) : bits .and .u16 f 2 = 2 * b01 (hasB f 2) := by
  obtain ⟨n, rfl⟩ : ∃ n : Nat, f = n := ⟨f.toNat, by omega⟩
  rw [show bits .and .u16 (n : Int) 2 = ((n &&& 2 : Nat) : Int) from u16_and_nat n 2 (by omega) (by omega), and_split, b01_has]
  obtain ⟨-, -, t1, -⟩ := tabL (n % 256) (by omega)
  have t2 := (tabH (n / 256) (by omega)).2.2.2.2.1
  rw [show 2 / 256 = 0 by rfl, show 2 % 256 = 2 by rfl, t1, t2]
  omega
theorem and_32 {f : Int} (f0 : 0 ≤ f) (f1 : f < 65536) : bits .and .u16 f 32 = 32 * b01 (hasB f 32) := by
  obtain ⟨n, rfl⟩ : ∃ n : Nat, f = n := ⟨f.toNat, by omega⟩
  rw [show bits .and .u16 (n : Int) 32 = ((n &&& 32 : Nat) : Int) from u16_and_nat n 32 (by omega) (by omega), and_split, b01_has]
  obtain ⟨-, -, -, t1, -⟩ := tabL (n % 256) (by omega)
  have t2 := (tabH (n / 256) (by omega)).2.2.2.2.1
  rw [show 32 / 256 = 0 by rfl, show 32 % 256 = 32 by rfl, t1, t2]
  omega
theorem and_256 {f : Int} (f0 : 0 ≤ f) (f1 : f < 65536) : bits .and .u16 f 256 = 256 * b01 (hasB f 256) := by
  obtain ⟨n, rfl⟩ : ∃ n : Nat, f = n := ⟨f.toNat, by omega⟩
  rw [show bits .and .u16 (n : Int) 256 = ((n &&& 256 : Nat) : Int) from u16_and_nat n 256 (by omega) (by omega), and_split, b01_has]
  have t1 := (tabH (n / 256) (by omega)).1
  have t2 : n % 256 &&& 0 = 0 := Nat.and_zero _
  rw [show 256 / 256 = 1 by rfl, show 256 % 256 = 0 by rfl, t1, t2]
  omega
theorem andNot_32 {f : Int} (f0 : 0 ≤ f) (f1 : f < 65536) : bits .andNot .u16 f 32 = f - 32 * b01 (hasB f 32) := by
  obtain ⟨n, rfl⟩ : ∃ n : Nat, f = n := ⟨f.toNat, by omega⟩
  rw [show bits .andNot .u16 (n : Int) 32 = ((n &&& (65535 - 32) : Nat) : Int) from u16_andNot_nat n 32 (by omega) (by omega), and_split, b01_has]
  obtain ⟨-, -, -, -, t1, -⟩ := tabL (n % 256) (by omega)
  have t2 := (tabH (n / 256) (by omega)).2.2.1
  rw [show (65535 - 32) / 256 = 255 by rfl, show (65535 - 32) % 256 = 223 by rfl, t2]
  omega
theorem or_32 {f : Int} (f0 : 0 ≤ f) (f1 : f < 65536) : bits .or .u16 f 32 = f + 32 - 32 * b01 (hasB f 32) := by
  obtain ⟨n, rfl⟩ : ∃ n : Nat, f = n := ⟨f.toNat, by omega⟩
  rw [show bits .or .u16 (n : Int) 32 = ((n ||| 32 : Nat) : Int) from u16_or_nat n 32 (by omega) (by omega), or_split, b01_has]
  obtain ⟨-, -, -, -, -, t1, -⟩ := tabL (n % 256) (by omega)
  have t2 := (tabH (n / 256) (by omega)).2.2.2.2.2
  rw [show 32 / 256 = 0 by rfl, show 32 % 256 = 32 by rfl, t2]
  omega
/-- May a part's flags be? -/
def flagB (f : Int) : Bool := !hasB f 16 && (!hasB f 32 && (!hasB f 2048 && decide (f < 8192)))
theorem flagB_iff {f : Int} : flagB f = true ↔ f / 16 % 2 = 0 ∧ f / 32 % 2 = 0 ∧ f / 2048 % 2 = 0 ∧ f < 8192 := by
  unfold flagB
  simp only [Bool.and_eq_true, Bool.not_eq_true', has_neg, decide_eq_true_eq]
theorem andNot_allowed {f : Int} (f0 : 0 ≤ f) (f1 : f < 65536) : (bits .andNot .u16 f 6095 == 0) = flagB f := by
  rw [Bool.eq_iff_iff, beq_iff_eq, flagB_iff]
  obtain ⟨n, rfl⟩ : ∃ n : Nat, f = n := ⟨f.toNat, by omega⟩
  rw [show bits .andNot .u16 (n : Int) 6095 = ((n &&& (65535 - 6095) : Nat) : Int) from u16_andNot_nat n 6095 (by omega) (by omega), and_split]
  obtain ⟨-, -, -, -, -, -, t1⟩ := tabL (n % 256) (by omega)
  have t2 := (tabH (n / 256) (by omega)).2.1
  rw [show (65535 - 6095) / 256 = 232 by rfl, show (65535 - 6095) % 256 = 48 by rfl]
  constructor
  · intro h
    have a := t1.1 (by omega)
    have b := t2.1 (by omega)
    omega
  · intro h
    have a := t1.2 (by omega)
    have b := t2.2 (by omega)
    omega
/-- How many numbers the matrix has; below 0: it isn't told. -/
def kd (f : Int) : Int := if hasB f 8 then (if hasB f 64 || hasB f 128 then -1 else 1) else if hasB f 64 then (if hasB f 128 then -1 else 2) else if hasB f 128 then 4 else 0
/-- What stands for it among the flags. -/
theorem kd_cases {f : Int} (f0 : 0 ≤ f) (f1 : f < 65536) : ∃ K, bits .and .u16 f 200 = K ∧ ((K = 0 ∧ kd f = 0) ∨ (K = 8 ∧ kd f = 1) ∨ (K = 64 ∧ kd f = 2) ∨ (K = 128 ∧ kd f = 4) ∨ (K ≠ 0 ∧ K ≠ 8 ∧ K ≠ 64 ∧ K ≠ 128 ∧ kd f = -1)) := by
  refine ⟨_, and_kinds f0 f1, ?_⟩
  unfold kd b01
  cases hasB f 8 <;> cases hasB f 64 <;> cases hasB f 128 <;> simp

/-! ## parts -/
structure Pt where
  f : Int
  g : Int
  x : Int
  y : Int
  a : Int
  b : Int
  c : Int
  d : Int
abbrev I16 (x : Int) : Prop := -32768 ≤ x ∧ x < 32768
abbrev U16 (x : Int) : Prop := 0 ≤ x ∧ x < 65536
structure Pt.Ok (p : Pt) : Prop where
  f : U16 p.f
  g : U16 p.g
  x : I16 p.x
  y : I16 p.y
  a : I16 p.a
  b : I16 p.b
  c : I16 p.c
  d : I16 p.d
def pt0 : Pt := ⟨0, 0, 0, 0, 0, 0, 0, 0⟩
theorem pt0_ok : pt0.Ok := ⟨by decide, by decide, by decide, by decide, by decide, by decide, by decide, by decide⟩
abbrev ptA (p : Pt) : Array Value := #[.int .u16 p.f, .int .u16 p.g, .int .i16 p.x, .int .i16 p.y, .int .i16 p.a, .int .i16 p.b, .int .i16 p.c, .int .i16 p.d]
/-- The cells of parts. -/
abbrev ptF (p : Pt) : List Value := [.int .u16 p.f, .int .u16 p.g, .int .i16 p.x, .int .i16 p.y, .int .i16 p.a, .int .i16 p.b, .int .i16 p.c, .int .i16 p.d]
def ptC (ps : List Pt) : List Value := ps.flatMap ptF
/-- The same, as the document has them. -/
abbrev dtF (p : Pt) : List Value := [.int .i64 p.f, .int .i64 p.g, .int .i64 p.x, .int .i64 p.y, .int .i64 p.a, .int .i64 p.b, .int .i64 p.c, .int .i64 p.d]
def dtC (ps : List Pt) : List Value := ps.flatMap dtF
section
variable {α : Type} {F : α → List Value} {m : Nat}
theorem rows_length (hF : ∀ p, (F p).length = m) (ps : List α) : (ps.flatMap F).length = ps.length * m := by
  induction ps with
  | nil => simp
  | cons p ps ih => rw [List.flatMap_cons, List.length_append, ih, hF, List.length_cons, Nat.succ_mul]; omega
theorem rows_get (hF : ∀ p, (F p).length = m) (d : α) {j : Nat} (hj : j < m) : ∀ (ps : List α) (i : Nat), i < ps.length → (ps.flatMap F)[i * m + j]? = (F (ps.getD i d))[j]? := by
  intro ps
  induction ps with
  | nil => intro i h; simp at h
  | cons p ps ih =>
    intro i h
    rw [List.flatMap_cons]
    cases i with
    | zero => rw [List.getElem?_append_left (by rw [hF]; omega)]; simp
    | succ i =>
      rw [List.getElem?_append_right (by rw [hF, Nat.succ_mul]; omega), hF, show (i + 1) * m + j - m = i * m + j by rw [Nat.succ_mul]; omega, ih i (by simpa using h)]
      simp
end
theorem ptC_length (ps : List Pt) : (ptC ps).length = ps.length * 8 := rows_length (F := ptF) (fun _ => rfl) ps
theorem dtC_length (ps : List Pt) : (dtC ps).length = ps.length * 8 := rows_length (F := dtF) (fun _ => rfl) ps
theorem ptC_append (a b : List Pt) : ptC (a ++ b) = ptC a ++ ptC b := List.flatMap_append
theorem dtC_append (a b : List Pt) : dtC (a ++ b) = dtC a ++ dtC b := List.flatMap_append
theorem ptC_one (ps : List Pt) : ∀ u ∈ ptC ps, u.oneCell' = true := by
  intro u hu
  obtain ⟨p, -, hu⟩ := List.mem_flatMap.1 hu
  simp only [List.mem_cons, List.not_mem_nil, or_false] at hu
  rcases hu with rfl | rfl | rfl | rfl | rfl | rfl | rfl | rfl <;> rfl
theorem ptC_take (ps : List Pt) (k : Nat) : ptC (ps.take k) = (ptC ps).take (k * 8) := by
  induction ps generalizing k with
  | nil => simp [ptC]
  | cons m ms ih =>
    cases k with
    | zero => simp [ptC]
    | succ k =>
      rw [List.take_succ_cons, Nat.succ_mul]
      show [_, _, _, _, _, _, _, _] ++ ptC (ms.take k) = ([_, _, _, _, _, _, _, _] ++ ptC ms).take (k * 8 + 8)
      rw [ih]; rfl
/-- The part of number i. -/
abbrev pAt (ps : List Pt) (i : Nat) : Pt := ps.getD i pt0
/-- Its eight cells, wherever the world stands. -/
theorem part_at {W0 : World} {ad : Addr} {ps : List Pt} {n : Nat} (hn : ps.length = n) (hr : Reads W0 W0.heap.size 8 (some ad) n (ptC ps)) {w' : World} (hb : Below W0.heap.size W0 w') {i : Nat} (hi : i < n) :
    w'.cell? (ad.add (i * 8)) = some (.int .u16 (pAt ps i).f) ∧ w'.cell? ⟨(ad.add (i * 8)).block, (ad.add (i * 8)).off + 1, none⟩ = some (.int .u16 (pAt ps i).g) ∧ w'.cell? ⟨(ad.add (i * 8)).block, (ad.add (i * 8)).off + 2, none⟩ = some (.int .i16 (pAt ps i).x) ∧ w'.cell? ⟨(ad.add (i * 8)).block, (ad.add (i * 8)).off + 3, none⟩ = some (.int .i16 (pAt ps i).y) ∧
    w'.cell? ⟨(ad.add (i * 8)).block, (ad.add (i * 8)).off + 4, none⟩ = some (.int .i16 (pAt ps i).a) ∧ w'.cell? ⟨(ad.add (i * 8)).block, (ad.add (i * 8)).off + 5, none⟩ = some (.int .i16 (pAt ps i).b) ∧ w'.cell? ⟨(ad.add (i * 8)).block, (ad.add (i * 8)).off + 6, none⟩ = some (.int .i16 (pAt ps i).c) ∧ w'.cell? ⟨(ad.add (i * 8)).block, (ad.add (i * 8)).off + 7, none⟩ = some (.int .i16 (pAt ps i).d) := by
  have hr := hr.keep (w' := w') fun k hk _ => hb.block k hk
  have hg := fun (j : Nat) (hj : j < 8) => rows_get (F := ptF) (m := 8) (fun _ => rfl) pt0 hj ps i (by omega)
  obtain ⟨a0, he, q0⟩ := hr.cell ((hg 0 (by omega)).trans rfl)
  injection he with he; subst he
  refine ⟨q0, ?_, ?_, ?_, ?_, ?_, ?_, ?_⟩
  · obtain ⟨a1, he, q⟩ := hr.cell_at (m := i * 8) (j := 1) (by omega) ((hg 1 (by omega)).trans rfl)
    injection he with he; subst he; exact q
  · obtain ⟨a1, he, q⟩ := hr.cell_at (m := i * 8) (j := 2) (by omega) ((hg 2 (by omega)).trans rfl)
    injection he with he; subst he; exact q
  · obtain ⟨a1, he, q⟩ := hr.cell_at (m := i * 8) (j := 3) (by omega) ((hg 3 (by omega)).trans rfl)
    injection he with he; subst he; exact q
  · obtain ⟨a1, he, q⟩ := hr.cell_at (m := i * 8) (j := 4) (by omega) ((hg 4 (by omega)).trans rfl)
    injection he with he; subst he; exact q
  · obtain ⟨a1, he, q⟩ := hr.cell_at (m := i * 8) (j := 5) (by omega) ((hg 5 (by omega)).trans rfl)
    injection he with he; subst he; exact q
  · obtain ⟨a1, he, q⟩ := hr.cell_at (m := i * 8) (j := 6) (by omega) ((hg 6 (by omega)).trans rfl)
    injection he with he; subst he; exact q
  · obtain ⟨a1, he, q⟩ := hr.cell_at (m := i * 8) (j := 7) (by omega) ((hg 7 (by omega)).trans rfl)
    injection he with he; subst he; exact q
/-- A glyph that is made of parts. -/
structure Cg where
  b0 : Int
  b1 : Int
  b2 : Int
  b3 : Int
  parts : List Pt
  prog : List Int
structure Cg.Ok (g : Cg) : Prop where
  x0 : I16 g.b0
  x1 : I16 g.b1
  x2 : I16 g.b2
  x3 : I16 g.b3
  pt : ∀ p ∈ g.parts, p.Ok
  pr : Bytes g.prog
theorem Cg.Ok.at {g : Cg} (h : g.Ok) (i : Nat) : (pAt g.parts i).Ok := by
  by_cases hi : i < g.parts.length
  · exact h.pt _ (by simp [List.getD, hi])
  · simp [List.getD, List.getElem?_eq_none (Nat.le_of_not_lt hi)]; exact pt0_ok
abbrev cA (g : Cg) (vp vg : Value) : Array Value := #[.int .i16 g.b0, .int .i16 g.b1, .int .i16 g.b2, .int .i16 g.b3, vp, vg]
structure CAt (w : World) (g : Cg) (vp vg : Value) : Prop where
  p : SliceAt w w.heap.size 8 vp g.parts.length (ptC g.parts)
  g : BytesAt w vg g.prog
theorem CAt.below {w w' : World} {g : Cg} {vp vg : Value} (h : CAt w g vp vg) (hb : Below w.heap.size w w') : CAt w' g vp vg := ⟨h.p.below hb, h.g.below hb⟩

/-! ## which may be -/
def smallB (n : Int) : Bool := decide (-128 ≤ n ∧ n ≤ 127)
/-- Is the matrix as the flags say? -/
def matB (p : Pt) : Bool := if kd p.f = 4 then true else if kd p.f = 2 then decide (p.b = 0 ∧ p.c = 0) else if kd p.f = 1 then decide (p.b = 0 ∧ p.c = 0 ∧ p.a = p.d) else if kd p.f = 0 then decide (p.a = 16384 ∧ p.b = 0 ∧ p.c = 0 ∧ p.d = 16384) else false
def partB (p : Pt) : Bool := hasB p.f 2 && (flagB p.f && (matB p && (hasB p.f 1 || (smallB p.x && smallB p.y))))
/-- Has the part ahead of number k the flag of a program? -/
def codeB (ps : List Pt) : Nat → Bool
  | 0 => false
  | k + 1 => hasB (pAt ps k).f 256
def partsB (ps : List Pt) (k : Nat) : Bool := decide (∀ i, i < k → codeB ps i = false ∧ partB (pAt ps i) = true)
theorem partsB_succ (ps : List Pt) (k : Nat) : partsB ps (k + 1) = (partsB ps k && (!codeB ps k && partB (pAt ps k))) := by
  unfold partsB
  rw [Bool.eq_iff_iff]
  simp only [decide_eq_true_eq, Bool.and_eq_true, Bool.not_eq_true']
  refine ⟨fun h => ⟨fun j hj => h j (by omega), h k (by omega)⟩, fun ⟨h, e⟩ j hj => ?_⟩
  by_cases hjk : j = k
  · rw [hjk]; exact e
  · exact h j (by omega)
theorem partsB_no {ps : List Pt} {k n : Nat} (h : codeB ps k = true ∨ partB (pAt ps k) = false) (hk : k < n) : partsB ps n = false := decide_eq_false fun f => by
  have := f k hk
  rcases h with h | h
  · rw [h] at this; cases this.1
  · rw [h] at this; cases this.2
def cgR (g : Cg) : Bool := partsB g.parts g.parts.length && (decide (1 ≤ g.parts.length) && (decide (g.parts.length ≤ 200) && (decide (g.prog.length ≤ 65535) && (codeB g.parts g.parts.length || decide (g.prog.length = 0)))))

/-! ## bytes -/
def s2 (x : Int) : List Int := b2 (x % 65536)
def layF (f : Int) (last : Bool) : Int := if last then f else f + 32
def xyB (p : Pt) : List Int := if hasB p.f 1 then s2 p.x ++ s2 p.y else [p.x % 256, p.y % 256]
def mB (p : Pt) : List Int := if kd p.f = 4 then s2 p.a ++ (s2 p.b ++ (s2 p.c ++ s2 p.d)) else if kd p.f = 2 then s2 p.a ++ s2 p.d else if kd p.f = 1 then s2 p.a else []
def layP (p : Pt) (last : Bool) : List Int := b2 (layF p.f last) ++ (b2 p.g ++ (xyB p ++ mB p))
def laysP (ps : List Pt) (k : Nat) : List Int := (List.range k).flatMap fun i => layP (pAt ps i) (decide (i + 1 = ps.length))
theorem laysP_succ (ps : List Pt) (k : Nat) : laysP ps (k + 1) = laysP ps k ++ layP (pAt ps k) (decide (k + 1 = ps.length)) := by simp [laysP, List.range_succ]
def Cg.box (g : Cg) : List Int := [g.b0, g.b1, g.b2, g.b3]
def progB (g : Cg) : List Int := if codeB g.parts g.parts.length then b2 g.prog.length ++ g.prog else []
def cgB (g : Cg) : List Int := b2 65535 ++ (g.box.flatMap s2 ++ (laysP g.parts g.parts.length ++ progB g))
theorem s2_length (x : Int) : (s2 x).length = 2 := rfl
theorem layP_length (p : Pt) (last : Bool) : (layP p last).length ≤ 16 := by
  have h1 : (xyB p).length ≤ 4 := by unfold xyB; split <;> simp [s2_length]
  have h2 : (mB p).length ≤ 8 := by unfold mB; split <;> (try split) <;> (try split) <;> simp [s2_length]
  unfold layP
  simp only [List.length_append, b2_length]; omega
theorem laysP_length (ps : List Pt) : ∀ k, (laysP ps k).length ≤ 16 * k
  | 0 => by simp [laysP]
  | k + 1 => by have := laysP_length ps k; have := layP_length (pAt ps k) (decide (k + 1 = ps.length)); rw [laysP_succ, List.length_append]; omega
theorem cgB_length (g : Cg) : (cgB g).length ≤ 12 + 16 * g.parts.length + g.prog.length := by
  have h1 := laysP_length g.parts g.parts.length
  have h2 : (progB g).length ≤ 2 + g.prog.length := by unfold progB; split <;> simp [b2_length] <;> omega
  have h3 : (g.box.flatMap s2).length = 8 := rfl
  unfold cgB
  simp only [List.length_append, b2_length]; omega
end Go.Proofs.Yteoicpbfjkjogaa
