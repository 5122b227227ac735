/- What bytes tell of an outline: plain words, no program in sight. -/
import Derived.Test.YtmmepjcndofnbaaSimpC
import Derived.Test.YtmmepjcndofnbaaSimpO
namespace Go.Proofs.Ytmmepjcndofnbaa
open Go Go.RowKit
set_option linter.unusedVariables false
set_option linter.unusedSimpArgs false
set_option maxRecDepth 100000

/-! ## flags -/
/-- How many points the flag at a place has, and of how many bytes it is. -/
def fRep (l : List Int) (a : Nat) : Nat := if bitB (l.getD a 0) 8 then 1 + (l.getD (a + 1) 0).toNat else 1
def fWid (l : List Int) (a : Nat) : Nat := if bitB (l.getD a 0) 8 then 2 else 1
theorem fRep_pos (l : List Int) (a : Nat) : 1 ≤ fRep l a := by unfold fRep; split <;> omega
def flOk (l : List Int) (a left : Nat) : Bool := decide (a + fWid l a ≤ l.length ∧ l.getD a 0 ≤ 127 ∧ fRep l a ≤ left)
def flF (l : List Int) : Nat → Nat → Nat → Option (List Int × Nat)
  | 0, a, left => if left = 0 then some ([], a) else none
  | k + 1, a, left => if left = 0 then some ([], a) else
    if flOk l a left then (flF l k (a + fWid l a) (left - fRep l a)).map fun r => (List.replicate (fRep l a) (l.getD a 0) ++ r.1, r.2) else none
theorem flF_fuel (l : List Int) : ∀ (k a left : Nat), left ≤ k → flF l k a left = flF l left a left
  | 0, a, left, h => by obtain rfl : left = 0 := by omega
                        rfl
  | k + 1, a, 0, h => by simp [flF]
  | k + 1, a, m + 1, h => by
    have hp := fRep_pos l a
    simp only [flF]
    rw [flF_fuel l k _ (m + 1 - fRep l a) (by omega), flF_fuel l m _ (m + 1 - fRep l a) (by omega)]
/-- The flags of so many points. -/
def flS (l : List Int) (a left : Nat) : Option (List Int × Nat) := flF l left a left
theorem flS_zero (l : List Int) (a : Nat) : flS l a 0 = some ([], a) := rfl
theorem flS_pos (l : List Int) (a : Nat) {left : Nat} (h : 0 < left) : flS l a left =
    if flOk l a left then (flS l (a + fWid l a) (left - fRep l a)).map fun r => (List.replicate (fRep l a) (l.getD a 0) ++ r.1, r.2) else none := by
  obtain ⟨m, rfl⟩ : ∃ m, left = m + 1 := ⟨left - 1, by omega⟩
  have hp := fRep_pos l a
  unfold flS
  rw [flF, if_neg (by omega), flF_fuel l m _ (m + 1 - fRep l a) (by omega)]
theorem getD_app {p s : List Int} {a : Nat} (h : a < p.length) : (p ++ s).getD a 0 = p.getD a 0 := by simp [List.getD, List.getElem?_append_left h]
theorem flS_more (p s : List Int) : ∀ (m left a : Nat) (r : List Int × Nat), left ≤ m → a ≤ p.length → flS p a left = some r → a ≤ r.2 ∧ r.2 ≤ p.length ∧ r.1.length = left ∧ flS (p ++ s) a left = some r
  | m, 0, a, r, _, ha, h => by
    rw [flS_zero] at h
    injection h with h; subst h
    exact ⟨Nat.le_refl _, ha, rfl, flS_zero _ _⟩
  | 0, left + 1, a, r, h0, _, _ => by omega
  | m + 1, left + 1, a, r, h0, ha, h => by
    rw [flS_pos _ _ (by omega)] at h
    split at h
    · rename_i hc
      obtain ⟨c1, c2, c3⟩ := of_decide_eq_true hc
      have hp := fRep_pos p a
      have hw : 1 ≤ fWid p a := by unfold fWid; split <;> omega
      obtain ⟨r', h', rfl⟩ := Option.map_eq_some_iff.1 h
      obtain ⟨g0, g1, g2, g3⟩ := flS_more p s m (left + 1 - fRep p a) (a + fWid p a) r' (by omega) c1 h'
      have e0 : (p ++ s).getD a 0 = p.getD a 0 := getD_app (by omega)
      have e1 : fWid (p ++ s) a = fWid p a := by unfold fWid; rw [e0]
      have e2 : fRep (p ++ s) a = fRep p a := by
        unfold fRep
        rw [e0]
        by_cases hb : bitB (p.getD a 0) 8 = true
        · rw [if_pos hb, if_pos hb, getD_app]
          unfold fWid at c1
          rw [if_pos hb] at c1; omega
        · rw [if_neg hb, if_neg hb]
      refine ⟨by omega, g1, by simp [g2]; omega, ?_⟩
      rw [flS_pos _ _ (by omega), e0, e1, e2, g3]
      rw [if_pos]
      · rfl
      · unfold flOk
        rw [e0, e1, e2]
        exact decide_eq_true ⟨by simp; omega, c2, c3⟩
    · cases h

/-! ## places -/
def nStep (l : List Int) (sh sa f : Int) (r : List Int × Nat × Int) : Option (List Int × Nat × Int) :=
  if nbOk l r.2.1 f sh sa && fitB (r.2.2 + nbV l r.2.1 f sh sa) then some (r.1 ++ [r.2.2 + nbV l r.2.1 f sh sa], r.2.1 + (chW f sh sa).toNat, r.2.2 + nbV l r.2.1 f sh sa) else none
/-- The first k places. -/
def numK (l : List Int) (sh sa : Int) (fs : List Int) (a : Nat) : Nat → Option (List Int × Nat × Int)
  | 0 => some ([], a, 0)
  | k + 1 => (numK l sh sa fs a k).bind (nStep l sh sa (fs.getD k 0))
theorem numK_none {l : List Int} {sh sa : Int} {fs : List Int} {a k : Nat} (h : numK l sh sa fs a k = none) : ∀ j, k ≤ j → numK l sh sa fs a j = none := by
  intro j hj
  induction j with
  | zero => obtain rfl : k = 0 := by omega
            exact h
  | succ j ih =>
    by_cases e : k = j + 1
    · rw [← e]; exact h
    · rw [numK, ih (by omega)]; rfl
theorem nb_more {p s : List Int} {a : Nat} {f sh sa : Int} (ha : a ≤ p.length) (h : nbOk p a f sh sa = true) : nbOk (p ++ s) a f sh sa = true ∧ nbV (p ++ s) a f sh sa = nbV p a f sh sa ∧ a + (chW f sh sa).toNat ≤ p.length := by
  unfold nbOk nbV chW at *
  by_cases h1 : bitB f sh = true
  · rw [if_pos h1] at h ⊢
    have h := of_decide_eq_true h
    simp only [h1, if_true]
    exact ⟨decide_eq_true (by simp; omega), by rw [getD_app h], by show a + 1 ≤ _; omega⟩
  · rw [if_neg h1] at h ⊢
    by_cases h2 : bitB f sa = true
    · simp only [h1, h2, if_true]
      exact ⟨trivial, rfl, ha⟩
    · simp only [h1, h2] at h ⊢
      have h := of_decide_eq_true h
      refine ⟨decide_eq_true (by simp; omega), ?_, by show a + 2 ≤ _; omega⟩
      show sgn (n2 (p ++ s) a) = sgn (n2 p a)
      unfold n2
      rw [if_pos h, if_pos (by simp; omega), getD_app (by omega), getD_app (by omega)]
theorem numK_more (p s : List Int) {sh sa : Int} {fs : List Int} {a : Nat} (ha : a ≤ p.length) : ∀ (k : Nat) (r : List Int × Nat × Int), numK p sh sa fs a k = some r → a ≤ r.2.1 ∧ r.2.1 ≤ p.length ∧ r.1.length = k ∧ I16 r.2.2 ∧ (∀ x ∈ r.1, I16 x) ∧ numK (p ++ s) sh sa fs a k = some r
  | 0, r, h => by
    injection h with h; subst h
    exact ⟨Nat.le_refl _, ha, rfl, (by decide : I16 0), by simp, rfl⟩
  | k + 1, r, h => by
    rw [numK] at h
    obtain ⟨q, h1, h2⟩ := Option.bind_eq_some_iff.1 h
    obtain ⟨g0, g1, g2, -, g4, g3⟩ := numK_more p s ha k q h1
    unfold nStep at h2
    split at h2
    · rename_i hc
      rw [Bool.and_eq_true] at hc
      obtain ⟨b1, b2, b3⟩ := nb_more (s := s) g1 hc.1
      have hf : I16 (q.2.2 + nbV p q.2.1 (fs.getD k 0) sh sa) := by
        have := of_decide_eq_true hc.2
        exact ⟨this.1, by omega⟩
      injection h2 with h2; subst h2
      refine ⟨Nat.le_trans g0 (Nat.le_add_right _ _), b3, by simp [g2], hf, ?_, ?_⟩
      · intro x hx
        rcases List.mem_append.1 hx with hx | hx
        · exact g4 x hx
        · rw [List.mem_singleton] at hx; rw [hx]; exact hf
      · rw [numK, g3]
        show nStep _ _ _ _ _ = _
        unfold nStep
        rw [b1, b2, hc.2]; rfl
    · cases h2

/-! ## a glyph -/
def pN (l : List Int) : Nat := (n2 l 0).toNat
def pE (l : List Int) : List Int := u16s l 10 (pN l)
def pZ (l : List Int) : Nat := (n2 l (10 + 2 * pN l)).toNat
def pA (l : List Int) : Nat := 12 + 2 * pN l + pZ l
def pQ (l : List Int) : Nat := (nP (pE l) (pN l)).toNat
def headB (l : List Int) : Bool := decide (pN l ≤ 32767) && (decide (12 + 2 * pN l ≤ l.length) && (riseB (pE l) (pN l) && decide (pA l ≤ l.length)))
def ptsOf (fl xs ys : List Int) : List (Int × Int × Bool) := (List.range fl.length).map fun i => (xs.getD i 0, ys.getD i 0, bitB (fl.getD i 0) 1)
def pG (l fl xs ys : List Int) : Sg := ⟨sgn (n2 l 2), sgn (n2 l 4), sgn (n2 l 6), sgn (n2 l 8), pE l, (l.drop (12 + 2 * pN l)).take (pZ l), ptsOf fl xs ys⟩
def bodyS (l : List Int) (a n : Nat) : Option ((List Int × List Int × List Int) × Nat) :=
  (flS l a n).bind fun f => (numK l 2 16 f.1 f.2 f.1.length).bind fun x => (numK l 4 32 f.1 x.2.1 f.1.length).map fun y => ((f.1, x.1, y.1), y.2.1)
/-- The glyph that bytes begin with, and how many it has. -/
def parseS (l : List Int) : Option (Sg × Nat) := if headB l then (bodyS l (pA l) (pQ l)).map fun r => (pG l r.1.1 r.1.2.1 r.1.2.2, r.2) else none
theorem bodyS_more (p s : List Int) {a n : Nat} (ha : a ≤ p.length) (r : (List Int × List Int × List Int) × Nat) (h : bodyS p a n = some r) : r.2 ≤ p.length ∧ r.1.1.length = n ∧ r.1.2.1.length = n ∧ r.1.2.2.length = n ∧ (∀ x ∈ r.1.2.1, I16 x) ∧ (∀ x ∈ r.1.2.2, I16 x) ∧ bodyS (p ++ s) a n = some r := by
  unfold bodyS at h ⊢
  obtain ⟨f, h1, h⟩ := Option.bind_eq_some_iff.1 h
  obtain ⟨x, h2, h⟩ := Option.bind_eq_some_iff.1 h
  obtain ⟨y, h3, rfl⟩ := Option.map_eq_some_iff.1 h
  obtain ⟨f0, f1, f2, f3⟩ := flS_more p s n n a f (Nat.le_refl _) ha h1
  obtain ⟨x0, x1, x2, x3, x4, x5⟩ := numK_more p s f1 _ x h2
  obtain ⟨y0, y1, y2, y3, y4, y5⟩ := numK_more p s x1 _ y h3
  refine ⟨y1, f2, by rw [x2, f2], by rw [y2, f2], x4, y4, ?_⟩
  rw [f3, Option.bind_some, x5, Option.bind_some, y5]; rfl
theorem n2_more {p s : List Int} {a : Nat} (h : a + 2 ≤ p.length) : n2 (p ++ s) a = n2 p a := by
  unfold n2
  rw [if_pos h, if_pos (by simp; omega), getD_app (by omega), getD_app (by omega)]
theorem u16s_more {p s : List Int} {a n : Nat} (h : a + 2 * n ≤ p.length) : u16s (p ++ s) a n = u16s p a n := by
  unfold u16s
  refine List.map_congr_left fun i hi => n2_more ?_
  have := List.mem_range.1 hi
  omega
/-- What was told stays told, whatever stands behind. -/
theorem parseS_more (p s : List Int) (r : Sg × Nat) (h : parseS p = some r) : r.2 ≤ p.length ∧ parseS (p ++ s) = some r := by
  unfold parseS at h
  split at h
  · rename_i hc
    obtain ⟨q, h1, rfl⟩ := Option.map_eq_some_iff.1 h
    have hc' := hc
    unfold headB at hc
    simp only [Bool.and_eq_true, decide_eq_true_eq] at hc
    obtain ⟨c1, c2, c3, c4⟩ := hc
    have e1 : pN (p ++ s) = pN p := by unfold pN; rw [n2_more (by omega)]
    have e2 : pE (p ++ s) = pE p := by unfold pE; rw [e1, u16s_more (by omega)]
    have e3 : pZ (p ++ s) = pZ p := by unfold pZ; rw [e1, n2_more (by omega)]
    have e4 : pA (p ++ s) = pA p := by unfold pA; rw [e1, e3]
    have e5 : pQ (p ++ s) = pQ p := by unfold pQ; rw [e1, e2]
    have e6 : headB (p ++ s) = true := by
      unfold headB
      simp only [Bool.and_eq_true, decide_eq_true_eq, e1, e2, e4, List.length_append]
      exact ⟨c1, by omega, c3, by omega⟩
    obtain ⟨b1, -, -, -, -, -, b2⟩ := bodyS_more p s c4 q h1
    refine ⟨b1, ?_⟩
    unfold parseS
    rw [e6, if_pos rfl, e4, e5, b2, Option.map_some]
    unfold pG
    rw [e1, e2, e3, n2_more (by omega), n2_more (by omega), n2_more (by omega), n2_more (by omega)]
    have e7 : ((p ++ s).drop (12 + 2 * pN p)).take (pZ p) = (p.drop (12 + 2 * pN p)).take (pZ p) := by
      rw [List.drop_append_of_le_length c2, List.take_append_of_le_length]
      unfold pA at c4
      simp; omega
    rw [e7]
  · cases h
/-- What is cut off is told of nothing. -/
theorem parseS_cut {l : List Int} {g : Sg} (h : parseS l = some (g, l.length)) {k : Nat} (hk : k < l.length) : parseS (l.take k) = none := by
  cases e : parseS (l.take k) with
  | none => rfl
  | some r =>
    obtain ⟨h1, h2⟩ := parseS_more (l.take k) (l.drop k) r e
    rw [List.take_append_drop, h] at h2
    injection h2 with h2
    subst h2
    simp at h1
    omega
end Go.Proofs.Ytmmepjcndofnbaa
