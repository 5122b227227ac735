/- Arguments opened: whatever shape a law's argument has, its cells are told. -/
import Derived.Test.YteoicpbfjkjogaaSep
import Derived.OpenShut
import Derived.Deep.Slices
import Derived.Deep.Fields
import Derived.ChangeSame
namespace Go.Proofs.Yteoicpbfjkjogaa
open Go Go.RowKit Go.ChangeShapes Go.WideShapes Go.Deep
set_option linter.unusedSimpArgs false

/-- The shape of an argument. 'cons off sz s rest': from cell 'off' on 'sz' cells of shape s, and so on; 'agg n p': n cells, of parts p. -/
inductive Sh where
  | int (k : IntKind)
  | bool
  | slice (sz : Nat) (s : Sh)
  | agg (n : Nat) (p : Sh)
  | arr (k : IntKind) (n : Nat)
  | nil
  | cons (off sz : Nat) (s rest : Sh)

def Dec (w : World) : Sh → List Value → Prop
  | .int k, cs => ∃ z, cs = [.int k z] ∧ (Lit.int k z).wf = true
  | .bool, cs => ∃ b, cs = [.bool b]
  | .slice sz s, cs => ∃ v n xs, cs = [v] ∧ SliceAt w w.heap.size sz v n xs ∧ ∀ i, i < n → Dec w s ((xs.drop (i * sz)).take sz)
  | .agg n p, cs => cs.length = n ∧ Dec w p cs
  | .arr k n, cs => ∃ zs, cs = ints k zs ∧ zs.length = n ∧ ∀ z ∈ zs, (Lit.int k z).wf = true
  | .nil, _ => True
  | .cons off sz s rest, cs => Dec w s ((cs.drop off).take sz) ∧ Dec w rest cs

def Sh.isL : Sh → Bool
  | .nil => true
  | .cons .. => true
  | _ => false
def shB (P : Program) : Sh → TypeId → List (TypeId × Nat) → Bool
  | .int k, t, _ => match P.underlying t with | some (.int k') => k == k' | _ => false
  | .bool, t, _ => match P.underlying t with | some .bool => true | _ => false
  | .slice sz s, t, _ => match P.underlying t with | some (.slice e) => P.cellsOf e == sz && decide (0 < sz) && shB P s e [] | _ => false
  | .agg n p, t, _ => match P.underlying t with | some (.struct fs) => P.cellsOf t == n && p.isL && shB P p t (fs.toList.map fun f => (f.type, f.offset)) | _ => false
  | .arr k n, t, _ => match P.underlying t with | some (.array m e) => n == m && P.cellsOf e == 1 && P.cellsOf t == n && (match P.underlying e with | some (.int k') => k == k' | _ => false) | _ => false
  | .nil, _, l => l.isEmpty
  | .cons off sz s rest, t, l => match l with | (u, o) :: r => off == o && P.cellsOf u == sz && shB P s u [] && rest.isL && shB P rest t r | [] => false

section
variable {H : Type} {enc : TypeId × Value → H} {P : Program} {w : World} {base : Nat} {spare : Nat → Bool} {held : Bool}

theorem chunks {α : Type} (f : α → List Value) (good : α → Prop) (sz : Nat) : ∀ (n : Nat) (xs : List Value), xs.length = n * sz → (∀ i, i < n → ∃ a, (xs.drop (i * sz)).take sz = f a ∧ good a) → ∃ zs : List α, zs.length = n ∧ xs = zs.flatMap f ∧ ∀ a ∈ zs, good a := by
  intro n
  induction n with
  | zero => intro xs hl _; exact ⟨[], rfl, by simpa using hl, by simp⟩
  | succ n ih =>
    intro xs hl h
    obtain ⟨a, ha, hg⟩ := h 0 (by omega)
    obtain ⟨zs, h1, h2, h3⟩ := ih (xs.drop sz) (by rw [List.length_drop, hl, Nat.succ_mul]; omega) (fun i hi => by
      obtain ⟨b, hb, hgb⟩ := h (i + 1) (by omega)
      exact ⟨b, by rw [List.drop_drop, ← hb, Nat.succ_mul, Nat.add_comm], hgb⟩)
    refine ⟨a :: zs, by simp [h1], ?_, by simpa [hg] using h3⟩
    rw [List.flatMap_cons, ← h2, ← ha]
    simp

theorem flat_ints (k : IntKind) (zs : List Int) : zs.flatMap (fun z => [Value.int k z]) = ints k zs := by
  induction zs with
  | nil => rfl
  | cons z zs ih => simp [ints] at ih ⊢; exact ih
theorem slice_of_trod {t e : TypeId} {fuel : Nat} {cs : List Value} {x : DataW H × List MemPlace} {sz : Nat} (ht : P.underlying t = some (.slice e)) (hsz : P.cellsOf e = sz) (h0 : 0 < sz) (h : DataW.trod enc P w base spare held fuel t cs = some x) :
    ∃ v n xs, cs = [v] ∧ SliceAt w w.heap.size sz v n xs ∧ ∀ i, i < n → ∃ fuel' y, DataW.trod enc P w base spare held fuel' e ((xs.drop (i * sz)).take sz) = some y := by
  rcases open_slice ht h with ⟨rfl, rfl⟩ | ⟨a, len, cap, m, f, D, Pl, rfl, hb, hl, hm, hmm, hx, hi⟩
  · exact ⟨_, 0, [], rfl, SliceAt.nil _ _ _, fun i hi => absurd hi (by omega)⟩
  · have hlm : len ≤ m := by rw [hmm]; split <;> omega
    have hcell : ∀ i, i < len → ∃ cs', cs'.length = sz ∧ (∀ j, j < sz → w.cell? (a.add (i * sz + j)) = cs'[j]?) ∧ ∃ y, DataW.trod enc P w base spare held f e cs' = some y := by
      intro i hil
      obtain ⟨cs', hc, ht'⟩ := hi i (by omega)
      rw [hsz] at hc
      obtain ⟨_, hcl, hat⟩ := World.cells?_some hc
      exact ⟨cs', hcl, fun j hj => by rw [← Go.Deep.add_add, hat j hj], _, ht'⟩
    -- the list of all cells
    have hall : ∀ k, k ≤ len → ∃ xs : List Value, xs.length = k * sz ∧ (∀ j u, xs[j]? = some u → w.cell? (a.add j) = some u) ∧ ∀ i, i < k → ∃ y, DataW.trod enc P w base spare held f e ((xs.drop (i * sz)).take sz) = some y := by
      intro k
      induction k with
      | zero => intro _; exact ⟨[], by simp, by simp, fun i hi => absurd hi (by omega)⟩
      | succ k ih =>
        intro hk
        obtain ⟨xs, h1, h2, h3⟩ := ih (by omega)
        obtain ⟨cs', c1, c2, y, c3⟩ := hcell k (by omega)
        refine ⟨xs ++ cs', by rw [List.length_append, h1, c1, Nat.succ_mul], fun j u hu => ?_, fun i hik => ?_⟩
        · rcases Nat.lt_or_ge j xs.length with hj | hj
          · rw [List.getElem?_append_left hj] at hu
            exact h2 j u hu
          · rw [List.getElem?_append_right hj] at hu
            have hjl := (List.getElem?_eq_some_iff.1 hu).1
            have := c2 (j - xs.length) (by omega)
            rw [h1, show k * sz + (j - k * sz) = j by omega] at this
            rw [this, ← h1, hu]
        · rcases Nat.lt_or_ge i k with hlt | hge
          · obtain ⟨z, hz⟩ := h3 i hlt
            have hle : i * sz + sz ≤ k * sz := by
              have := Nat.mul_le_mul_right sz (show i + 1 ≤ k by omega)
              rw [Nat.succ_mul] at this
              exact this
            refine ⟨z, ?_⟩
            rw [List.drop_append_of_le_length (by omega), List.take_append_of_le_length (by rw [List.length_drop]; omega)]
            exact hz
          · obtain rfl : i = k := by omega
            refine ⟨y, ?_⟩
            rw [← h1, List.drop_left, List.take_of_length_le (by omega)]
            exact c3
    obtain ⟨xs, h1, h2, h3⟩ := hall len (Nat.le_refl _)
    refine ⟨_, len, xs, rfl, ⟨some a, cap, rfl, hl, hm, (by intro h; cases h), h1, fun hn => ⟨a, rfl, ?_, h2⟩⟩, fun i hi => ?_⟩
    · have hu : xs[0]? = some (xs[0]'(by rw [h1]; exact Nat.mul_pos hn h0)) := List.getElem?_eq_getElem _
      have := World.block_lt_of_cell? w _ (h2 0 _ hu)
      rwa [block_of_add] at this
    · obtain ⟨y, hy⟩ := h3 i hi
      exact ⟨f, y, hy⟩

/-- What a trodden value's shape says of its cells. -/
theorem dec_of_trod : ∀ (s : Sh) (t : TypeId) (l : List (TypeId × Nat)), shB P s t l = true →
    (∀ (fuel : Nat) (cs : List Value) (x : DataW H × List MemPlace), l = [] → (∀ p q r u, s ≠ .cons p q r u) → s ≠ .nil → DataW.trod enc P w base spare held fuel t cs = some x → Dec w s cs) ∧
    (∀ (fuel : Nat) (cs : List Value), (∀ (i : Nat) (f : TypeId × Nat), l[i]? = some f → ∃ y, DataW.trod enc P w base spare held fuel f.1 ((cs.drop f.2).take (P.cellsOf f.1)) = some y) → ((∃ p q r u, s = .cons p q r u) ∨ s = .nil) → Dec w s cs) := by
  intro s
  induction s with
  | int k =>
    intro t l h
    refine ⟨fun fuel cs x _ _ _ ht => ?_, fun _ _ _ hh => by rcases hh with ⟨_, _, _, _, hh⟩ | hh <;> cases hh⟩
    simp only [shB] at h
    split at h
    · rename_i k' hu
      obtain rfl : k = k' := by simpa using h
      obtain ⟨n, h1, _, h2⟩ := DataW.trod_int hu ht
      exact ⟨n, h1, h2⟩
    · cases h
  | bool =>
    intro t l h
    refine ⟨fun fuel cs x _ _ _ ht => ?_, fun _ _ _ hh => by rcases hh with ⟨_, _, _, _, hh⟩ | hh <;> cases hh⟩
    simp only [shB] at h
    split at h
    · rename_i hu
      obtain ⟨n, h1, _⟩ := DataW.trod_bool hu ht
      exact ⟨n, h1⟩
    · cases h
  | slice sz s ih =>
    intro t l h
    refine ⟨fun fuel cs x _ _ _ ht => ?_, fun _ _ _ hh => by rcases hh with ⟨_, _, _, _, hh⟩ | hh <;> cases hh⟩
    simp only [shB] at h
    split at h
    · rename_i e hu
      simp only [Bool.and_eq_true, beq_iff_eq, decide_eq_true_eq] at h
      obtain ⟨⟨h1, h2⟩, h3⟩ := h
      obtain ⟨v, n, xs, hc, hs, he⟩ := slice_of_trod hu h1 h2 ht
      refine ⟨v, n, xs, hc, hs, fun i hi => ?_⟩
      obtain ⟨f', y, hy⟩ := he i hi
      by_cases hn : s = .nil ∨ ∃ p q r u, s = .cons p q r u
      · refine (ih e [] h3).2 0 _ (by simp) ?_
        rcases hn with hn | hn
        · exact .inr hn
        · exact .inl hn
      · exact (ih e [] h3).1 f' _ y rfl (fun p q r u e => hn (.inr ⟨p, q, r, u, e⟩)) (fun e => hn (.inl e)) hy
    · cases h
  | agg n p ih =>
    intro t l h
    refine ⟨fun fuel cs x _ _ _ ht => ?_, fun _ _ _ hh => by rcases hh with ⟨_, _, _, _, hh⟩ | hh <;> cases hh⟩
    simp only [shB] at h
    split at h
    · rename_i fs hu
      simp only [Bool.and_eq_true, beq_iff_eq] at h
      obtain ⟨⟨h1, hL⟩, h3⟩ := h
      obtain ⟨xs, m, _, _, hl, hxl, hf⟩ := DataW.trod_struct hu ht
      refine ⟨hl.trans h1, ?_⟩
      have hall : ∀ (i : Nat) (f : TypeId × Nat), (fs.toList.map fun f => (f.type, f.offset))[i]? = some f → ∃ y, DataW.trod enc P w base spare held m f.1 ((cs.drop f.2).take (P.cellsOf f.1)) = some y := by
        intro i f hf'
        rw [List.getElem?_map, Option.map_eq_some_iff] at hf'
        obtain ⟨g, hg, rfl⟩ := hf'
        have hg' : fs[i]? = some g := by simpa using hg
        have := hf i g hg'
        have hil := (Array.getElem?_eq_some_iff.1 hg').1
        exact ⟨xs[i]'(by omega), by rw [this]; exact List.getElem?_eq_getElem _⟩
      cases p with
      | nil => trivial
      | cons a b c d => exact (ih t _ h3).2 m cs hall (.inl ⟨_, _, _, _, rfl⟩)
      | _ => cases hL
    · cases h
  | arr k n =>
    intro t l h
    refine ⟨fun fuel cs x _ _ _ ht => ?_, fun _ _ _ hh => by rcases hh with ⟨_, _, _, _, hh⟩ | hh <;> cases hh⟩
    simp only [shB] at h
    split at h
    · rename_i m e hu
      simp only [Bool.and_eq_true, beq_iff_eq] at h
      obtain ⟨⟨⟨rfl, h1⟩, h2⟩, h3⟩ := h
      split at h3
      · rename_i k' hk
        obtain rfl : k = k' := by simpa using h3
        obtain ⟨xs, m', _, _, hl, hxl, hf⟩ := DataW.trod_array hu ht
        rw [h1] at hf
        rw [h2] at hl
        obtain ⟨zs, z1, z2, z3⟩ := chunks (fun z => [Value.int k z]) (fun z => (Lit.int k z).wf = true) 1 n cs (by omega) (fun i hi => by
          have hy := hf i hi
          have : xs[i]? = some (xs[i]'(by omega)) := List.getElem?_eq_getElem _
          rw [this] at hy
          obtain ⟨z, e1, _, e2⟩ := DataW.trod_int hk hy
          exact ⟨z, e1, e2⟩)
        exact ⟨zs, by rw [z2, flat_ints], z1, z3⟩
      · cases h3
    · cases h
  | nil =>
    intro t l h
    exact ⟨fun _ _ _ _ _ hn => absurd rfl hn, fun _ _ _ _ => trivial⟩
  | cons off sz s rest ih1 ih2 =>
    intro t l h
    refine ⟨fun _ _ _ _ hc => absurd rfl (hc _ _ _ _), fun fuel cs hall _ => ?_⟩
    simp only [shB] at h
    split at h
    · rename_i u o r
      simp only [Bool.and_eq_true, beq_iff_eq] at h
      obtain ⟨⟨⟨⟨rfl, h1⟩, h2⟩, hL⟩, h3⟩ := h
      obtain ⟨y, hy⟩ := hall 0 (u, off) rfl
      rw [h1] at hy
      refine ⟨?_, ?_⟩
      · by_cases hn : s = .nil ∨ ∃ p q r u, s = .cons p q r u
        · refine (ih1 u [] h2).2 0 _ (by simp) ?_
          rcases hn with hn | hn
          · exact .inr hn
          · exact .inl hn
        · exact (ih1 u [] h2).1 fuel _ y rfl (fun p q r u e => hn (.inr ⟨p, q, r, u, e⟩)) (fun e => hn (.inl e)) hy
      · by_cases hn : rest = .nil ∨ ∃ p q r u, rest = .cons p q r u
        · refine (ih2 t r h3).2 fuel cs (fun i f hf => hall (i + 1) f (by simpa using hf)) ?_
          rcases hn with hn | hn
          · exact .inr hn
          · exact .inl hn
        · exfalso
          cases rest with
          | nil => exact hn (.inl rfl)
          | cons a b c d => exact hn (.inr ⟨_, _, _, _, rfl⟩)
          | _ => cases hL
    · cases h

def Sh.isTop : Sh → Bool
  | .nil => false
  | .cons .. => false
  | _ => true
theorem dec_arg {s : Sh} {t : TypeId} {v : Value} {d : DataW H} {ps : List MemPlace} (hs : shB P s t [] = true) (ht : s.isTop = true) (h : DataW.Trod enc P w base spare held t v d ps) : Dec w s v.cells.toList := by
  obtain ⟨fuel, hf⟩ := h
  refine (dec_of_trod (enc := enc) (base := base) (spare := spare) (held := held) s t [] hs).1 fuel _ _ rfl ?_ ?_ hf
  · rintro p q r u rfl; cases ht
  · rintro rfl; cases ht

theorem wf_u8 {z : Int} (h : (Lit.int .u8 z).wf = true) : 0 ≤ z ∧ z < 256 := by
  simp only [Lit.wf, Bool.and_eq_true, decide_eq_true_eq] at h
  simp only [IntKind.min, IntKind.max, IntKind.bits, IntKind.signed] at h
  simp at h
  omega
theorem wf_u16 {z : Int} (h : (Lit.int .u16 z).wf = true) : 0 ≤ z ∧ z < 65536 := by
  simp only [Lit.wf, Bool.and_eq_true, decide_eq_true_eq] at h
  simp only [IntKind.min, IntKind.max, IntKind.bits, IntKind.signed] at h
  simp at h
  omega
theorem wf_u32 {z : Int} (h : (Lit.int .u32 z).wf = true) : 0 ≤ z ∧ z < 4294967296 := by
  simp only [Lit.wf, Bool.and_eq_true, decide_eq_true_eq] at h
  simp only [IntKind.min, IntKind.max, IntKind.bits, IntKind.signed] at h
  simp at h
  omega
theorem wf_u64 {z : Int} (h : (Lit.int .u64 z).wf = true) : 0 ≤ z ∧ z < 18446744073709551616 := by
  simp only [Lit.wf, Bool.and_eq_true, decide_eq_true_eq] at h
  simp only [IntKind.min, IntKind.max, IntKind.bits, IntKind.signed] at h
  simp at h
  omega
theorem wf_i8 {z : Int} (h : (Lit.int .i8 z).wf = true) : -128 ≤ z ∧ z < 128 := by
  simp only [Lit.wf, Bool.and_eq_true, decide_eq_true_eq] at h
  simp only [IntKind.min, IntKind.max, IntKind.bits, IntKind.signed] at h
  simp at h
  omega
theorem wf_i16 {z : Int} (h : (Lit.int .i16 z).wf = true) : -32768 ≤ z ∧ z < 32768 := by
  simp only [Lit.wf, Bool.and_eq_true, decide_eq_true_eq] at h
  simp only [IntKind.min, IntKind.max, IntKind.bits, IntKind.signed] at h
  simp at h
  omega
theorem wf_i64 {z : Int} (h : (Lit.int .i64 z).wf = true) : -9223372036854775808 ≤ z ∧ z < 9223372036854775808 := by
  simp only [Lit.wf, Bool.and_eq_true, decide_eq_true_eq] at h
  simp only [IntKind.min, IntKind.max, IntKind.bits, IntKind.signed] at h
  simp at h
  omega
theorem arg_ints {k : IntKind} {v : Value} (h : Dec w (.slice 1 (.int k)) [v]) : ∃ zs : List Int, SliceAt w w.heap.size 1 v zs.length (ints k zs) ∧ ∀ z ∈ zs, (Lit.int k z).wf = true := by
  obtain ⟨u, n, xs, hc, hs, he⟩ := h
  obtain rfl : v = u := by simpa using hc
  obtain ⟨zs, z1, z2, z3⟩ := chunks (fun z => [Value.int k z]) (fun z => (Lit.int k z).wf = true) 1 n xs hs.len he
  rw [flat_ints] at z2
  subst z1; subst z2
  exact ⟨zs, hs, z3⟩
end
end Go.Proofs.Yteoicpbfjkjogaa
