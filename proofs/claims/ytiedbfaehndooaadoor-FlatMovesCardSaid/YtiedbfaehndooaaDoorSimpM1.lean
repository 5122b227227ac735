/- Several texts in one (a claim has at most sixty files): XSimpM, XSimpN, XSimpO, XSimpP, XSimpQ, XSimpR, XRowAt. -/
import Derived.Test.YtiedbfaehndooaaDoorSimpA
import Derived.Test.YtiedbfaehndooaaDoorSimpB
import Derived.Test.YtiedbfaehndooaaDoorBaseM
import Derived.Test.YtiedbfaehndooaaDoorSimpC
import Derived.Test.YtiedbfaehndooaaDoorSimpJ
import Derived.OwnWalk
/- The document's bit of a flag. -/
namespace Go.Proofs.YtiedbfaehndooaaDoor
open Go Go.RowKit
set_option linter.unusedVariables false
set_option linter.unusedSimpArgs false
set_option maxRecDepth 100000

def bitB (f k : Int) : Bool := f / k % 2 == 1
end Go.Proofs.YtiedbfaehndooaaDoor

/- Package simple: a change of a flag, from any state of the reader. -/
namespace Go.Proofs.YtiedbfaehndooaaDoor
open Go Go.RowKit
set_option linter.unusedVariables false
set_option linter.unusedSimpArgs false
set_option maxRecDepth 100000

def and8 (a b : Int) : Int := bits .and .u8 a b
/-- The two ways of a flag's bits. -/
def Way (sh sa : Int) : Prop := (sh = 2 ∧ sa = 16) ∨ (sh = 4 ∧ sa = 32)
theorem and_flags : ∀ n : Nat, n < 256 →
    and8 n (or8 2 16) = (if bitB n 2 then 2 else 0) + (if bitB n 16 then 16 else 0) ∧ and8 n (or8 4 32) = (if bitB n 4 then 4 else 0) + (if bitB n 32 then 32 else 0) := by decide +kernel
theorem and_way {f sh sa : Int} (f0 : 0 ≤ f) (f1 : f < 256) (h : Way sh sa) : and8 f (or8 sh sa) = (if bitB f sh then sh else 0) + (if bitB f sa then sa else 0) := by
  obtain ⟨n, rfl⟩ : ∃ n : Nat, f = n := ⟨f.toNat, by omega⟩
  have := and_flags n (by omega)
  rcases h with ⟨rfl, rfl⟩ | ⟨rfl, rfl⟩
  · exact this.1
  · exact this.2
theorem or_way {sh sa : Int} (h : Way sh sa) : or8 sh sa = sh + sa := by
  rcases h with ⟨rfl, rfl⟩ | ⟨rfl, rfl⟩ <;> decide +kernel
/-- How many bytes a change has. -/
def chW (f sh sa : Int) : Int := if bitB f sh then 1 else if bitB f sa then 0 else 2
def chN (l : List Int) (a : Nat) (bad : Bool) (f sh sa : Int) : Int :=
  if bitB f sh then (if bitB f sa then rNum l a bad 1 else - rNum l a bad 1) else if bitB f sa then 0 else sgn (rNum l a bad 2)
theorem rd_none {l : List Int} {a : Nat} {bad : Bool} (h : a ≤ l.length) : rAt l a bad 0 = a ∧ (!rOk l a bad 0) = bad := by
  have : rOk l a bad 0 = !bad := by unfold rOk; cases bad <;> simp; omega
  unfold rAt
  rw [this]
  cases bad <;> simp
section
variable {W0 w : World} {b : Nat} {v : Value} {l : List Int} {at_ : Nat} {bad : Bool} {L : List Ent}
set_option maxHeartbeats 1000000 in
theorem change_calls {f sh sa : Int} (f0 : 0 ≤ f) (f1 : f < 256) (hw : Way sh sa) (hR : RdOk l at_) (hat : at_ ≤ l.length) (M : Own W0 w (rdE b v l at_ bad ++ L)) :
    Calls Tryd.prog 76 #[.pointer (some ⟨b, 0, none⟩), .int .u8 f, .int .u8 sh, .int .u8 sa] w (Ret fun r w' =>
      r = .int .i64 (chN l at_ bad f sh sa) ∧ Own W0 w' (rdE b v l (rAt l at_ bad (chW f sh sa)) (!rOk l at_ bad (chW f sh sa)) ++ L)) := by
  have h1 := hid (rd_U8 hR M)
  have h2 := hid (rd_I16 hR M)
  have h0 := hid (rd_none (bad := bad) hat)
  have hn := hid (show chN l at_ bad f sh sa = if bitB f sh then (if bitB f sa then rNum l at_ bad 1 else - rNum l at_ bad 1) else if bitB f sa then 0 else sgn (rNum l at_ bad 2) from rfl)
  have hW := hid (show chW f sh sa = if bitB f sh then 1 else if bitB f sa then 0 else 2 from rfl)
  obtain ⟨b0, b1⟩ : 0 ≤ rNum l at_ bad 1 ∧ rNum l at_ bad 1 < 256 := by simpa using rNum_bound (bad := bad) (at_ := at_) hR.bytes 1 (by omega)
  obtain ⟨c0, c1⟩ : -32768 ≤ sgn (rNum l at_ bad 2) ∧ sgn (rNum l at_ bad 2) < 32768 := by
    have : 0 ≤ rNum l at_ bad 2 ∧ rNum l at_ bad 2 < 65536 := by simpa using rNum_bound (bad := bad) (at_ := at_) hR.bytes 2 (by omega)
    unfold sgn
    split <;> omega
  have ha : bits .and .u8 f (bits .or .u8 sh sa) = (if bitB f sh then sh else 0) + (if bitB f sa then sa else 0) := and_way f0 f1 hw
  have ho : bits .or .u8 sh sa = sh + sa := or_way hw
  rw [ho] at ha
  have MH := hid M
  clear M hR hat
  generalize rNum l at_ bad 1 = n1 at *
  generalize sgn (rNum l at_ bad 2) = n2 at *
  generalize chN l at_ bad f sh sa = cn at *
  generalize chW f sh sa = cw at *
  generalize bitB f sh = p at *
  generalize bitB f sa = q at *
  have hwr1 : IntKind.i64.wrap n1 = n1 := IntWalk.i64_in _ (by omega)
  have hwr2 : IntKind.i64.wrap n2 = n2 := IntWalk.i64_in _ (by omega)
  have hwr3 : IntKind.i64.wrap (-n1) = -n1 := IntWalk.i64_in _ (by omega)
  cases p <;> cases q
  · obtain hcn : cn = n2 := by simpa using hn.out
    subst hcn
    obtain rfl : cw = 2 := by simpa using hW.out
    simp only [if_true, if_false, Bool.false_eq_true] at ha
    clear hn hW
    rcases hw with ⟨rfl, rfl⟩ | ⟨rfl, rfl⟩
    all_goals
      (try simp only [Int.reduceAdd] at ha ho)
      go_enter Tryd.func76, Tryd.ntmps76
      go_wp2_with (go_at_call 52; refine h2.out.mono ?_; rintro _ w1 ⟨_, rfl, rfl, M⟩; (have M1 := hid M); clear M)
      go_ret
      exact .mk ⟨rfl, M1.out⟩
  · obtain rfl : cn = 0 := by simpa using hn.out
    obtain rfl : cw = 0 := by simpa using hW.out
    simp only [if_true, if_false, Bool.false_eq_true] at ha
    clear hn hW
    rcases hw with ⟨rfl, rfl⟩ | ⟨rfl, rfl⟩
    all_goals
      (try simp only [Int.reduceAdd] at ha ho)
      go_enter Tryd.func76, Tryd.ntmps76
      go_wp2
      go_ret
      exact .mk ⟨rfl, by rw [h0.out.1, h0.out.2]; exact MH.out⟩
  · obtain rfl : cn = -n1 := by simpa using hn.out
    obtain rfl : cw = 1 := by simpa using hW.out
    simp only [if_true, if_false, Bool.false_eq_true] at ha
    clear hn hW
    rcases hw with ⟨rfl, rfl⟩ | ⟨rfl, rfl⟩
    all_goals
      (try simp only [Int.reduceAdd] at ha ho)
      go_enter Tryd.func76, Tryd.ntmps76
      go_wp2_with (go_at_call 65; refine h1.out.mono ?_; rintro _ w1 ⟨_, rfl, rfl, M⟩; (have M1 := hid M); clear M)
      go_ret
      exact .mk ⟨rfl, M1.out⟩
  · obtain hcn : cn = n1 := by simpa using hn.out
    subst hcn
    obtain rfl : cw = 1 := by simpa using hW.out
    simp only [if_true, if_false, Bool.false_eq_true] at ha
    clear hn hW
    rcases hw with ⟨rfl, rfl⟩ | ⟨rfl, rfl⟩
    all_goals
      (try simp only [Int.reduceAdd] at ha ho)
      go_enter Tryd.func76, Tryd.ntmps76
      go_wp2_with (go_at_call 65; refine h1.out.mono ?_; rintro _ w1 ⟨_, rfl, rfl, M⟩; (have M1 := hid M); clear M)
      go_ret
      exact .mk ⟨rfl, M1.out⟩
end
end Go.Proofs.YtiedbfaehndooaaDoor

/- The document's number of a flag. -/
namespace Go.Proofs.YtiedbfaehndooaaDoor
open Go Go.RowKit
set_option linter.unusedVariables false
set_option linter.unusedSimpArgs false
set_option maxRecDepth 100000

/-- Are the bytes there? -/
def nbOk (l : List Int) (a : Nat) (f sh sa : Int) : Bool := if bitB f sh then decide (a < l.length) else if bitB f sa then true else decide (a + 2 ≤ l.length)
/-- What is told. -/
def nbV (l : List Int) (a : Nat) (f sh sa : Int) : Int := if bitB f sh then (if bitB f sa then l.getD a 0 else - l.getD a 0) else if bitB f sa then 0 else sgn (n2 l a)
def NumP (l : List Int) (a : Nat) (f sh sa : Int) (r : Value) : Prop :=
  ∃ n k : Int, r = .tuple #[.int .i64 n, .int .i64 k, .bool (nbOk l a f sh sa)] ∧ -32768 ≤ n ∧ n < 65536 ∧ 0 ≤ k ∧ k ≤ 2 ∧ (nbOk l a f sh sa = true → n = nbV l a f sh sa ∧ k = chW f sh sa)
end Go.Proofs.YtiedbfaehndooaaDoor

/- What bytes tell of an outline: plain words, no program in sight. -/
namespace Go.Proofs.YtiedbfaehndooaaDoor
open Go Go.RowKit
set_option linter.unusedVariables false
set_option linter.unusedSimpArgs false
set_option maxRecDepth 100000

/-! ## flags -/
/-- How many points the flag at a place has, and of how many bytes it is. -/
def fRep (l : List Int) (a : Nat) : Nat := if bitB (l.getD a 0) 8 then 1 + (l.getD (a + 1) 0).toNat else 1
def fWid (l : List Int) (a : Nat) : Nat := if bitB (l.getD a 0) 8 then 2 else 1
theorem fRep_pos (l : List Int) (a : Nat) : 1 ≤ fRep l a := by unfold fRep; split <;> omega
def flOk (l : List Int) (a left : Nat) : Bool := decide (a + fWid l a ≤ l.length ∧ l.getD a 0 ≤ 127 ∧ fRep l a ≤ left)
def flF (l : List Int) : Nat → Nat → Nat → Option (List Int × Nat)
  | 0, a, left => if left = 0 then some ([], a) else none
  | k + 1, a, left => if left = 0 then some ([], a) else
    if flOk l a left then (flF l k (a + fWid l a) (left - fRep l a)).map fun r => (List.replicate (fRep l a) (l.getD a 0) ++ r.1, r.2) else none
theorem flF_fuel (l : List Int) : ∀ (k a left : Nat), left ≤ k → flF l k a left = flF l left a left
  | 0, a, left, h => by obtain rfl : left = 0 := by omega
                        rfl
  | k + 1, a, 0, h => by simp [flF]
  | k + 1, a, m + 1, h => by
    have hp := fRep_pos l a
    simp only [flF]
    rw [flF_fuel l k _ (m + 1 - fRep l a) (by omega), flF_fuel l m _ (m + 1 - fRep l a) (by omega)]
/-- The flags of so many points. -/
def flS (l : List Int) (a left : Nat) : Option (List Int × Nat) := flF l left a left
theorem flS_zero (l : List Int) (a : Nat) : flS l a 0 = some ([], a) := rfl
theorem flS_pos (l : List Int) (a : Nat) {left : Nat} (h : 0 < left) : flS l a left =
    if flOk l a left then (flS l (a + fWid l a) (left - fRep l a)).map fun r => (List.replicate (fRep l a) (l.getD a 0) ++ r.1, r.2) else none := by
  obtain ⟨m, rfl⟩ : ∃ m, left = m + 1 := ⟨left - 1, by omega⟩
  have hp := fRep_pos l a
  unfold flS
  rw [flF, if_neg (by omega), flF_fuel l m _ (m + 1 - fRep l a) (by omega)]
theorem getD_app {p s : List Int} {a : Nat} (h : a < p.length) : (p ++ s).getD a 0 = p.getD a 0 := by simp [List.getD, List.getElem?_append_left h]
theorem flS_more (p s : List Int) : ∀ (m left a : Nat) (r : List Int × Nat), left ≤ m → a ≤ p.length → flS p a left = some r → a ≤ r.2 ∧ r.2 ≤ p.length ∧ r.1.length = left ∧ flS (p ++ s) a left = some r
  | m, 0, a, r, _, ha, h => by
    rw [flS_zero] at h
    injection h with h; subst h
    exact ⟨Nat.le_refl _, ha, rfl, flS_zero _ _⟩
  | 0, left + 1, a, r, h0, _, _ => by omega
  | m + 1, left + 1, a, r, h0, ha, h => by
    rw [flS_pos _ _ (by omega)] at h
    split at h
    · rename_i hc
      obtain ⟨c1, c2, c3⟩ := of_decide_eq_true hc
      have hp := fRep_pos p a
      have hw : 1 ≤ fWid p a := by unfold fWid; split <;> omega
      obtain ⟨r', h', rfl⟩ := Option.map_eq_some_iff.1 h
      obtain ⟨g0, g1, g2, g3⟩ := flS_more p s m (left + 1 - fRep p a) (a + fWid p a) r' (by omega) c1 h'
      have e0 : (p ++ s).getD a 0 = p.getD a 0 := getD_app (by omega)
      have e1 : fWid (p ++ s) a = fWid p a := by unfold fWid; rw [e0]
      have e2 : fRep (p ++ s) a = fRep p a := by
        unfold fRep
        rw [e0]
        by_cases hb : bitB (p.getD a 0) 8 = true
        · rw [if_pos hb, if_pos hb, getD_app]
          unfold fWid at c1
          rw [if_pos hb] at c1; omega
        · rw [if_neg hb, if_neg hb]
      refine ⟨by omega, g1, by simp [g2]; omega, ?_⟩
      rw [flS_pos _ _ (by omega), e0, e1, e2, g3]
      rw [if_pos]
      · rfl
      · unfold flOk
        rw [e0, e1, e2]
        exact decide_eq_true ⟨by simp; omega, c2, c3⟩
    · cases h

/-! ## places -/
def nStep (l : List Int) (sh sa f : Int) (r : List Int × Nat × Int) : Option (List Int × Nat × Int) :=
  if nbOk l r.2.1 f sh sa && fitB (r.2.2 + nbV l r.2.1 f sh sa) then some (r.1 ++ [r.2.2 + nbV l r.2.1 f sh sa], r.2.1 + (chW f sh sa).toNat, r.2.2 + nbV l r.2.1 f sh sa) else none
/-- The first k places. -/
def numK (l : List Int) (sh sa : Int) (fs : List Int) (a : Nat) : Nat → Option (List Int × Nat × Int)
  | 0 => some ([], a, 0)
  | k + 1 => (numK l sh sa fs a k).bind (nStep l sh sa (fs.getD k 0))
theorem numK_none {l : List Int} {sh sa : Int} {fs : List Int} {a k : Nat} (h : numK l sh sa fs a k = none) : ∀ j, k ≤ j → numK l sh sa fs a j = none := by
  intro j hj
  induction j with
  | zero => obtain rfl : k = 0 := by omega
            exact h
  | succ j ih =>
    by_cases e : k = j + 1
    · rw [← e]; exact h
    · rw [numK, ih (by omega)]; rfl
theorem nb_more {p s : List Int} {a : Nat} {f sh sa : Int} (ha : a ≤ p.length) (h : nbOk p a f sh sa = true) : nbOk (p ++ s) a f sh sa = true ∧ nbV (p ++ s) a f sh sa = nbV p a f sh sa ∧ a + (chW f sh sa).toNat ≤ p.length := by
  unfold nbOk nbV chW at *
  by_cases h1 : bitB f sh = true
  · rw [if_pos h1] at h ⊢
    have h := of_decide_eq_true h
    simp only [h1, if_true]
    exact ⟨decide_eq_true (by simp; omega), by rw [getD_app h], by show a + 1 ≤ _; omega⟩
  · rw [if_neg h1] at h ⊢
    by_cases h2 : bitB f sa = true
    · simp only [h1, h2, if_true]
      exact ⟨trivial, rfl, ha⟩
    · simp only [h1, h2] at h ⊢
      have h := of_decide_eq_true h
      refine ⟨decide_eq_true (by simp; omega), ?_, by show a + 2 ≤ _; omega⟩
      show sgn (n2 (p ++ s) a) = sgn (n2 p a)
      unfold n2
      rw [if_pos h, if_pos (by simp; omega), getD_app (by omega), getD_app (by omega)]
theorem numK_more (p s : List Int) {sh sa : Int} {fs : List Int} {a : Nat} (ha : a ≤ p.length) : ∀ (k : Nat) (r : List Int × Nat × Int), numK p sh sa fs a k = some r → a ≤ r.2.1 ∧ r.2.1 ≤ p.length ∧ r.1.length = k ∧ I16 r.2.2 ∧ (∀ x ∈ r.1, I16 x) ∧ numK (p ++ s) sh sa fs a k = some r
  | 0, r, h => by
    injection h with h; subst h
    exact ⟨Nat.le_refl _, ha, rfl, (by decide : I16 0), by simp, rfl⟩
  | k + 1, r, h => by
    rw [numK] at h
    obtain ⟨q, h1, h2⟩ := Option.bind_eq_some_iff.1 h
    obtain ⟨g0, g1, g2, -, g4, g3⟩ := numK_more p s ha k q h1
    unfold nStep at h2
    split at h2
    · rename_i hc
      rw [Bool.and_eq_true] at hc
      obtain ⟨b1, b2, b3⟩ := nb_more (s := s) g1 hc.1
      have hf : I16 (q.2.2 + nbV p q.2.1 (fs.getD k 0) sh sa) := by
        have := of_decide_eq_true hc.2
        exact ⟨this.1, by omega⟩
      injection h2 with h2; subst h2
      refine ⟨Nat.le_trans g0 (Nat.le_add_right _ _), b3, by simp [g2], hf, ?_, ?_⟩
      · intro x hx
        rcases List.mem_append.1 hx with hx | hx
        · exact g4 x hx
        · rw [List.mem_singleton] at hx; rw [hx]; exact hf
      · rw [numK, g3]
        show nStep _ _ _ _ _ = _
        unfold nStep
        rw [b1, b2, hc.2]; rfl
    · cases h2

/-! ## a glyph -/
def pN (l : List Int) : Nat := (n2 l 0).toNat
def pE (l : List Int) : List Int := u16s l 10 (pN l)
def pZ (l : List Int) : Nat := (n2 l (10 + 2 * pN l)).toNat
def pA (l : List Int) : Nat := 12 + 2 * pN l + pZ l
def pQ (l : List Int) : Nat := (nP (pE l) (pN l)).toNat
def headB (l : List Int) : Bool := decide (pN l ≤ 32767) && (decide (12 + 2 * pN l ≤ l.length) && (riseB (pE l) (pN l) && decide (pA l ≤ l.length)))
def ptsOf (fl xs ys : List Int) : List (Int × Int × Bool) := (List.range fl.length).map fun i => (xs.getD i 0, ys.getD i 0, bitB (fl.getD i 0) 1)
def pG (l fl xs ys : List Int) : Sg := ⟨sgn (n2 l 2), sgn (n2 l 4), sgn (n2 l 6), sgn (n2 l 8), pE l, (l.drop (12 + 2 * pN l)).take (pZ l), ptsOf fl xs ys⟩
def bodyS (l : List Int) (a n : Nat) : Option ((List Int × List Int × List Int) × Nat) :=
  (flS l a n).bind fun f => (numK l 2 16 f.1 f.2 f.1.length).bind fun x => (numK l 4 32 f.1 x.2.1 f.1.length).map fun y => ((f.1, x.1, y.1), y.2.1)
/-- The glyph that bytes begin with, and how many it has. -/
def parseS (l : List Int) : Option (Sg × Nat) := if headB l then (bodyS l (pA l) (pQ l)).map fun r => (pG l r.1.1 r.1.2.1 r.1.2.2, r.2) else none
theorem bodyS_more (p s : List Int) {a n : Nat} (ha : a ≤ p.length) (r : (List Int × List Int × List Int) × Nat) (h : bodyS p a n = some r) : r.2 ≤ p.length ∧ r.1.1.length = n ∧ r.1.2.1.length = n ∧ r.1.2.2.length = n ∧ (∀ x ∈ r.1.2.1, I16 x) ∧ (∀ x ∈ r.1.2.2, I16 x) ∧ bodyS (p ++ s) a n = some r := by
  unfold bodyS at h ⊢
  obtain ⟨f, h1, h⟩ := Option.bind_eq_some_iff.1 h
  obtain ⟨x, h2, h⟩ := Option.bind_eq_some_iff.1 h
  obtain ⟨y, h3, rfl⟩ := Option.map_eq_some_iff.1 h
  obtain ⟨f0, f1, f2, f3⟩ := flS_more p s n n a f (Nat.le_refl _) ha h1
  obtain ⟨x0, x1, x2, x3, x4, x5⟩ := numK_more p s f1 _ x h2
  obtain ⟨y0, y1, y2, y3, y4, y5⟩ := numK_more p s x1 _ y h3
  refine ⟨y1, f2, by rw [x2, f2], by rw [y2, f2], x4, y4, ?_⟩
  rw [f3, Option.bind_some, x5, Option.bind_some, y5]; rfl
theorem n2_more {p s : List Int} {a : Nat} (h : a + 2 ≤ p.length) : n2 (p ++ s) a = n2 p a := by
  unfold n2
  rw [if_pos h, if_pos (by simp; omega), getD_app (by omega), getD_app (by omega)]
theorem u16s_more {p s : List Int} {a n : Nat} (h : a + 2 * n ≤ p.length) : u16s (p ++ s) a n = u16s p a n := by
  unfold u16s
  refine List.map_congr_left fun i hi => n2_more ?_
  have := List.mem_range.1 hi
  omega
/-- What was told stays told, whatever stands behind. -/
theorem parseS_more (p s : List Int) (r : Sg × Nat) (h : parseS p = some r) : r.2 ≤ p.length ∧ parseS (p ++ s) = some r := by
  unfold parseS at h
  split at h
  · rename_i hc
    obtain ⟨q, h1, rfl⟩ := Option.map_eq_some_iff.1 h
    have hc' := hc
    unfold headB at hc
    simp only [Bool.and_eq_true, decide_eq_true_eq] at hc
    obtain ⟨c1, c2, c3, c4⟩ := hc
    have e1 : pN (p ++ s) = pN p := by unfold pN; rw [n2_more (by omega)]
    have e2 : pE (p ++ s) = pE p := by unfold pE; rw [e1, u16s_more (by omega)]
    have e3 : pZ (p ++ s) = pZ p := by unfold pZ; rw [e1, n2_more (by omega)]
    have e4 : pA (p ++ s) = pA p := by unfold pA; rw [e1, e3]
    have e5 : pQ (p ++ s) = pQ p := by unfold pQ; rw [e1, e2]
    have e6 : headB (p ++ s) = true := by
      unfold headB
      simp only [Bool.and_eq_true, decide_eq_true_eq, e1, e2, e4, List.length_append]
      exact ⟨c1, by omega, c3, by omega⟩
    obtain ⟨b1, -, -, -, -, -, b2⟩ := bodyS_more p s c4 q h1
    refine ⟨b1, ?_⟩
    unfold parseS
    rw [e6, if_pos rfl, e4, e5, b2, Option.map_some]
    unfold pG
    rw [e1, e2, e3, n2_more (by omega), n2_more (by omega), n2_more (by omega), n2_more (by omega)]
    have e7 : ((p ++ s).drop (12 + 2 * pN p)).take (pZ p) = (p.drop (12 + 2 * pN p)).take (pZ p) := by
      rw [List.drop_append_of_le_length c2, List.take_append_of_le_length]
      unfold pA at c4
      simp; omega
    rw [e7]
  · cases h
/-- What is cut off is told of nothing. -/
theorem parseS_cut {l : List Int} {g : Sg} (h : parseS l = some (g, l.length)) {k : Nat} (hk : k < l.length) : parseS (l.take k) = none := by
  cases e : parseS (l.take k) with
  | none => rfl
  | some r =>
    obtain ⟨h1, h2⟩ := parseS_more (l.take k) (l.drop k) r e
    rw [List.take_append_drop, h] at h2
    injection h2 with h2
    subst h2
    simp at h1
    omega
end Go.Proofs.YtiedbfaehndooaaDoor

/- An outline's bytes are read again: plain words, no program in sight. -/
namespace Go.Proofs.YtiedbfaehndooaaDoor
open Go Go.RowKit
set_option linter.unusedVariables false
set_option linter.unusedSimpArgs false
set_option maxRecDepth 100000

/-! ## flags in a row -/
/-- Flags that tell the same. -/
def AsF (f f' : Int) : Prop := bitB f 1 = bitB f' 1 ∧ bitB f 2 = bitB f' 2 ∧ bitB f 4 = bitB f' 4 ∧ bitB f 16 = bitB f' 16 ∧ bitB f 32 = bitB f' 32
/-- A flag as it is told of a point: no row, no sign. -/
def FlagF (f : Int) : Prop := 0 ≤ f ∧ f < 128 ∧ bitB f 8 = false
theorem flag_row_nat : ∀ n : Nat, n < 128 → bitB (or8 n 8) 8 = true ∧ or8 n 8 ≤ 127 ∧ bitB (or8 n 8) 1 = bitB n 1 ∧ bitB (or8 n 8) 2 = bitB n 2 ∧ bitB (or8 n 8) 4 = bitB n 4 ∧ bitB (or8 n 8) 16 = bitB n 16 ∧ bitB (or8 n 8) 32 = bitB n 32 := by decide +kernel
theorem flag_row {f : Int} (h : FlagF f) : bitB (or8 f 8) 8 = true ∧ or8 f 8 ≤ 127 ∧ AsF (or8 f 8) f := by
  obtain ⟨h0, h1, -⟩ := h
  obtain ⟨n, rfl⟩ : ∃ n : Nat, f = n := ⟨f.toNat, by omega⟩
  exact flag_row_nat n (by omega)
theorem rn_all {l : List Int} {j : Nat} (h : j < rn l) : l.getD j 0 = l.getD 0 0 := by
  match l, h with
  | [], h => exact absurd h (by simp [rn])
  | f :: t, h =>
    cases j with
    | zero => rfl
    | succ j =>
      have h : j + 1 < 1 + min 255 (runL f t) := h
      have := (runL_spec f t).2.1 j (by omega)
      simpa using this
theorem getD_mid {p q s : List Int} {i : Nat} (h : i < q.length) : (p ++ (q ++ s)).getD (p.length + i) 0 = q.getD i 0 := by
  simp [List.getD, List.getElem?_append_right, List.getElem?_append_left h]
/-- The first flag's bytes, and what stands behind. -/
theorem row_head {fl p s : List Int} (h : 0 < fl.length) (hf : ∀ x ∈ fl, FlagF x) :
    ∃ x, flOk (p ++ (rowE fl ++ s)) p.length fl.length = true ∧ (p ++ (rowE fl ++ s)).getD p.length 0 = x ∧ fRep (p ++ (rowE fl ++ s)) p.length = rn fl ∧ fWid (p ++ (rowE fl ++ s)) p.length = (rowE fl).length ∧ AsF x (fl.getD 0 0) := by
  have hF : FlagF (fl.getD 0 0) := hf _ (by cases fl with | nil => simp at h | cons f t => simp)
  obtain ⟨r1, r2⟩ := rn_le fl
  by_cases h1 : rn fl > 1
  · have e : rowE fl = [or8 (fl.getD 0 0) 8, (rn fl : Int) - 1] := if_pos h1
    obtain ⟨f1, f2, f3⟩ := flag_row hF
    have g0 : (p ++ (rowE fl ++ s)).getD p.length 0 = or8 (fl.getD 0 0) 8 := by
      have := getD_mid (p := p) (q := rowE fl) (s := s) (i := 0) (by rw [e]; simp)
      rw [Nat.add_zero] at this; rw [this, e]; rfl
    have g1 : (p ++ (rowE fl ++ s)).getD (p.length + 1) 0 = (rn fl : Int) - 1 := by
      rw [getD_mid (p := p) (q := rowE fl) (s := s) (i := 1) (by rw [e]; simp), e]; rfl
    have e1 : fRep (p ++ (rowE fl ++ s)) p.length = rn fl := by unfold fRep; rw [g0, f1, if_pos rfl, g1]; omega
    have e2 : fWid (p ++ (rowE fl ++ s)) p.length = (rowE fl).length := by unfold fWid; rw [g0, f1, if_pos rfl, e]; rfl
    refine ⟨_, ?_, g0, e1, e2, f3⟩
    unfold flOk
    rw [e1, e2, g0]
    exact decide_eq_true ⟨by simp, f2, r1⟩
  · have e : rowE fl = [fl.getD 0 0] := if_neg h1
    have hr : rn fl = 1 := by
      cases fl with
      | nil => simp at h
      | cons f t => have := rn_pos f t; omega
    have g0 : (p ++ (rowE fl ++ s)).getD p.length 0 = fl.getD 0 0 := by
      have := getD_mid (p := p) (q := rowE fl) (s := s) (i := 0) (by rw [e]; simp)
      rw [Nat.add_zero] at this; rw [this, e]; rfl
    have e1 : fRep (p ++ (rowE fl ++ s)) p.length = rn fl := by unfold fRep; rw [g0, hF.2.2, hr]; rfl
    have e2 : fWid (p ++ (rowE fl ++ s)) p.length = (rowE fl).length := by unfold fWid; rw [g0, hF.2.2, e]; rfl
    refine ⟨_, ?_, g0, e1, e2, rfl, rfl, rfl, rfl, rfl⟩
    unfold flOk
    rw [e1, e2, g0]
    exact decide_eq_true ⟨by simp, by have := hF.2.1; omega, r1⟩
theorem flS_rows : ∀ (m : Nat) (fl p s : List Int), fl.length ≤ m → (∀ x ∈ fl, FlagF x) →
    ∃ fl', flS (p ++ (rowsB fl ++ s)) p.length fl.length = some (fl', p.length + (rowsB fl).length) ∧ fl'.length = fl.length ∧ ∀ i, i < fl.length → AsF (fl'.getD i 0) (fl.getD i 0)
  | m, [], p, s, _, _ => ⟨[], rfl, rfl, fun i hi => absurd hi (by simp)⟩
  | 0, f :: t, p, s, h, _ => by simp at h
  | m + 1, f :: t, p, s, h, hf => by
    have hpos := rn_pos f t
    obtain ⟨r1, r2⟩ := rn_le (f :: t)
    have hall := @rn_all (f :: t)
    have hu := rowsB_cons (l := f :: t) (by simp)
    generalize hfl : f :: t = fl at *
    have hlp : 0 < fl.length := by rw [← hfl]; simp
    obtain ⟨x, h1, h2, h3, h4, h5⟩ := row_head (p := p) (s := rowsB (fl.drop (rn fl)) ++ s) hlp hf
    obtain ⟨r, i1, i2, i3⟩ := flS_rows m (fl.drop (rn fl)) (p ++ rowE fl) s (by rw [List.length_drop]; omega) (fun y hy => hf y (List.mem_of_mem_drop hy))
    have e : p ++ (rowsB fl ++ s) = p ++ (rowE fl ++ (rowsB (fl.drop (rn fl)) ++ s)) := by rw [hu, List.append_assoc]
    simp only [List.append_assoc, List.length_append, List.length_drop] at i1 i2 i3
    refine ⟨List.replicate (rn fl) x ++ r, ?_, by rw [List.length_append, List.length_replicate, i2]; omega, fun i hi => ?_⟩
    · rw [e, flS_pos _ _ hlp, h1, if_pos rfl, h2, h3, h4, i1, Option.map_some, hu, List.length_append]
      congr 2; omega
    · by_cases hi2 : i < rn fl
      · have e1 : (List.replicate (rn fl) x ++ r).getD i 0 = x := by simp [List.getD, List.getElem?_append_left, hi2, List.getElem?_replicate]
        rw [e1, hall hi2]; exact h5
      · have e1 : (List.replicate (rn fl) x ++ r).getD i 0 = r.getD (i - rn fl) 0 := by
          simp only [List.getD]
          rw [List.getElem?_append_right (by rw [List.length_replicate]; omega), List.length_replicate]
        have := i3 (i - rn fl) (by omega)
        rw [getD_drop', show rn fl + (i - rn fl) = i by omega] at this
        rw [e1]; exact this

/-! ## places -/
/-- What a flag tells of a change. -/
def TellsD (f d sh sa : Int) : Prop := bitB f sh = decide (d ≠ 0 ∧ -255 ≤ d ∧ d ≤ 255) ∧ bitB f sa = decide (d = 0 ∨ (0 < d ∧ d ≤ 255))
theorem lay_read {f d sh sa : Int} {p s : List Int} (hd : I16 d) (h : TellsD f d sh sa) :
    nbOk (p ++ (layB d ++ s)) p.length f sh sa = true ∧ nbV (p ++ (layB d ++ s)) p.length f sh sa = d ∧ (chW f sh sa).toNat = (layB d).length := by
  obtain ⟨h1, h2⟩ := h
  obtain ⟨d0, d1⟩ := hd
  unfold nbOk nbV chW
  by_cases q0 : d = 0
  · subst q0
    rw [decide_eq_false (by omega)] at h1
    rw [decide_eq_true (by omega)] at h2
    simp only [h1, h2, if_true, Bool.false_eq_true, if_false]
    exact ⟨trivial, trivial, rfl⟩
  · by_cases q1 : 0 < d ∧ d ≤ 255
    · have e : layB d = [d] := by unfold layB; rw [if_neg q0, if_pos q1]
      rw [decide_eq_true (by omega)] at h1
      rw [decide_eq_true (by omega)] at h2
      simp only [h1, h2, if_true, e]
      refine ⟨by simp, ?_, rfl⟩
      exact getD_mid (p := p) (q := [d]) (s := s) (i := 0) (by simp)
    · by_cases q2 : d < 0 ∧ -255 ≤ d
      · have e : layB d = [-d] := by unfold layB; rw [if_neg q0, if_neg q1, if_pos q2]
        rw [decide_eq_true (by omega)] at h1
        rw [decide_eq_false (by omega)] at h2
        simp only [h1, h2, if_true, e, Bool.false_eq_true, if_false]
        refine ⟨by simp, ?_, rfl⟩
        have := getD_mid (p := p) (q := [-d]) (s := s) (i := 0) (by simp)
        rw [Nat.add_zero] at this
        rw [this]
        show - -d = d
        omega
      · have e : layB d = b2 (d % 65536) := by unfold layB; rw [if_neg q0, if_neg q1, if_neg q2]
        rw [decide_eq_false (by omega)] at h1
        rw [decide_eq_false (by omega)] at h2
        simp only [h1, h2, e, Bool.false_eq_true, if_false]
        refine ⟨by simp [b2_length], ?_, rfl⟩
        rw [n2_app rfl (by omega) (by omega), sgn_mod d0 d1]
theorem flat_split (g : Nat → List Int) : ∀ (n k : Nat), k < n → ∃ q, (List.range n).flatMap g = (List.range k).flatMap g ++ (g k ++ q)
  | 0, k, h => by omega
  | n + 1, k, h => by
    by_cases e : k = n
    · subst e; exact ⟨[], by simp [List.range_succ]⟩
    · obtain ⟨q, hq⟩ := flat_split g n k (by omega)
      exact ⟨q ++ g n, by rw [List.range_succ, List.flatMap_append, hq]; simp⟩
theorem numK_lay {sh sa : Int} {D V : Nat → Int} {n : Nat} {fs p s : List Int} (h0 : V 0 = 0) (hV : ∀ k, k < n → V (k + 1) = V k + D k) (hD : ∀ k, k < n → I16 (D k)) (hI : ∀ k, k < n → I16 (V (k + 1)))
    (hf : ∀ k, k < n → TellsD (fs.getD k 0) (D k) sh sa) : ∀ k, k ≤ n →
    numK (p ++ ((List.range n).flatMap (fun i => layB (D i)) ++ s)) sh sa fs p.length k = some ((List.range k).map (fun i => V (i + 1)), p.length + ((List.range k).flatMap fun i => layB (D i)).length, V k)
  | 0, _ => by rw [h0]; rfl
  | k + 1, hk => by
    rw [numK, numK_lay h0 hV hD hI hf k (by omega), Option.bind_some]
    obtain ⟨q, hq⟩ := flat_split (fun i => layB (D i)) n k (by omega)
    have e : p ++ ((List.range n).flatMap (fun i => layB (D i)) ++ s) = (p ++ (List.range k).flatMap (fun i => layB (D i))) ++ (layB (D k) ++ (q ++ s)) := by rw [hq]; simp
    obtain ⟨l1, l2, l3⟩ := lay_read (p := p ++ (List.range k).flatMap (fun i => layB (D i))) (s := q ++ s) (hD k (by omega)) (hf k (by omega))
    have hfit : fitB (V k + D k) = true := by
      have := hI k (by omega)
      rw [hV k (by omega)] at this
      exact decide_eq_true ⟨this.1, by have := this.2; omega⟩
    unfold nStep
    dsimp only
    rw [e, ← List.length_append, l1, l2, l3, hfit, ← hV k (by omega), List.range_succ, List.flatMap_append, List.map_append]
    simp only [Bool.and_self, if_true, List.length_append, List.flatMap_cons, List.flatMap_nil, List.append_nil, List.map_cons, List.map_nil]
    congr 3; omega

/-! ## the flags that are written -/
def layC (c : Nat) (sh sa : Int) : Int := if c = 0 then sa else if c = 1 then or8 sh sa else if c = 2 then sh else 0
theorem lay_cls (d : Int) : ∃ c, c < 4 ∧ (∀ sh sa, layF d sh sa = layC c sh sa) ∧ decide (d ≠ 0 ∧ -255 ≤ d ∧ d ≤ 255) = (c == 1 || c == 2) ∧ decide (d = 0 ∨ (0 < d ∧ d ≤ 255)) = (c == 0 || c == 1) := by
  by_cases q0 : d = 0
  · exact ⟨0, by omega, fun sh sa => by unfold layF; rw [if_pos q0]; rfl, decide_eq_false (by omega), decide_eq_true (by omega)⟩
  · by_cases q1 : 0 < d ∧ d ≤ 255
    · exact ⟨1, by omega, fun sh sa => by unfold layF; rw [if_neg q0, if_pos q1]; rfl, decide_eq_true (by omega), decide_eq_true (by omega)⟩
    · by_cases q2 : d < 0 ∧ -255 ≤ d
      · exact ⟨2, by omega, fun sh sa => by unfold layF; rw [if_neg q0, if_neg q1, if_pos q2]; rfl, decide_eq_true (by omega), decide_eq_false (by omega)⟩
      · exact ⟨3, by omega, fun sh sa => by unfold layF; rw [if_neg q0, if_neg q1, if_neg q2]; rfl, decide_eq_false (by omega), decide_eq_false (by omega)⟩
def flagC (c d : Nat) (o : Bool) : Int := if o then or8 (or8 (layC c 2 16) (layC d 4 32)) 1 else or8 (layC c 2 16) (layC d 4 32)
theorem flagC_tab : ∀ c, c < 4 → ∀ d, d < 4 → ∀ o : Bool, (0 ≤ flagC c d o ∧ flagC c d o < 128 ∧ bitB (flagC c d o) 8 = false) ∧ bitB (flagC c d o) 1 = o ∧
    bitB (flagC c d o) 2 = (c == 1 || c == 2) ∧ bitB (flagC c d o) 16 = (c == 0 || c == 1) ∧ bitB (flagC c d o) 4 = (d == 1 || d == 2) ∧ bitB (flagC c d o) 32 = (d == 0 || d == 1) := by decide +kernel
theorem flagOf_tells (ps : List (Int × Int × Bool)) (k : Nat) : FlagF (flagOf ps k) ∧ bitB (flagOf ps k) 1 = pO ps k ∧ TellsD (flagOf ps k) (dX ps k) 2 16 ∧ TellsD (flagOf ps k) (dY ps k) 4 32 := by
  obtain ⟨c, c0, c1, c2, c3⟩ := lay_cls (dX ps k)
  obtain ⟨d, d0, d1, d2, d3⟩ := lay_cls (dY ps k)
  have e : flagOf ps k = flagC c d (pO ps k) := by unfold flagOf flagC; rw [c1, d1]
  obtain ⟨t1, t2, t3, t4, t5, t6⟩ := flagC_tab c c0 d d0 (pO ps k)
  rw [e]
  exact ⟨t1, t2, ⟨by rw [t3, c2], by rw [t4, c3]⟩, by rw [t5, d2], by rw [t6, d3]⟩
theorem tells_as {f f' d : Int} (h : AsF f f') : (TellsD f' d 2 16 → TellsD f d 2 16) ∧ (TellsD f' d 4 32 → TellsD f d 4 32) := by
  obtain ⟨-, h1, h2, h3, h4⟩ := h
  exact ⟨fun ⟨a, b⟩ => ⟨h1.trans a, h3.trans b⟩, fun ⟨a, b⟩ => ⟨h2.trans a, h4.trans b⟩⟩
theorem flsK_get (ps : List (Int × Int × Bool)) {n i : Nat} (h : i < n) : (flsK ps n).getD i 0 = flagOf ps i := by simp [flsK, List.getD, h]

/-! ## an outline is read again -/
theorem s2_length (x : Int) : (s2 x).length = 2 := rfl
theorem s2_read {p s : List Int} {x : Int} {a : Nat} (ha : p.length = a) (h : I16 x) : sgn (n2 (p ++ (s2 x ++ s)) a) = x := by
  unfold s2
  rw [n2_app ha (by omega) (by omega), sgn_mod h.1 h.2]
theorem body_sgB {ps : List (Int × Int × Bool)} (p s : List Int) (hp : ∀ i, I16 (pX ps i) ∧ I16 (pY ps i)) (hst : stepB ps ps.length = true) :
    ∃ fl, bodyS (p ++ (rowsB (flsK ps ps.length) ++ (xsK ps ps.length ++ (ysK ps ps.length ++ s)))) p.length ps.length =
      some ((fl, (List.range ps.length).map (pX ps), (List.range ps.length).map (pY ps)), p.length + ((rowsB (flsK ps ps.length)).length + ((xsK ps ps.length).length + (ysK ps ps.length).length))) ∧
      fl.length = ps.length ∧ ∀ i, i < ps.length → bitB (fl.getD i 0) 1 = pO ps i := by
  obtain ⟨fl, h1, h2, h3⟩ := flS_rows _ (flsK ps ps.length) p (xsK ps ps.length ++ (ysK ps ps.length ++ s)) (Nat.le_refl _) (fun x hx => by
    obtain ⟨i, -, rfl⟩ := List.mem_map.1 hx
    exact (flagOf_tells ps i).1)
  rw [flsK_length] at h1 h2 h3
  have h3 := fun i (hi : i < ps.length) => (flsK_get ps hi) ▸ h3 i hi
  have hfit := fun k (hk : k < ps.length) => step_fit hst hk
  have hx := numK_lay (sh := 2) (sa := 16) (D := dX ps) (V := pvX ps) (n := ps.length) (fs := fl) (p := p ++ rowsB (flsK ps ps.length)) (s := ysK ps ps.length ++ s) rfl (fun k _ => by show pX ps k = pvX ps k + (pX ps k - pvX ps k); omega)
    (fun k hk => (hfit k hk).1) (fun k _ => (hp k).1) (fun k hk => (tells_as (h3 k hk)).1 (flagOf_tells ps k).2.2.1) ps.length (Nat.le_refl _)
  have hy := numK_lay (sh := 4) (sa := 32) (D := dY ps) (V := pvY ps) (n := ps.length) (fs := fl) (p := p ++ rowsB (flsK ps ps.length) ++ xsK ps ps.length) (s := s) rfl (fun k _ => by show pY ps k = pvY ps k + (pY ps k - pvY ps k); omega)
    (fun k hk => (hfit k hk).2) (fun k _ => (hp k).2) (fun k hk => (tells_as (h3 k hk)).2 (flagOf_tells ps k).2.2.2) ps.length (Nat.le_refl _)
  refine ⟨fl, ?_, h2, fun i hi => (h3 i hi).1.trans (flagOf_tells ps i).2.1⟩
  change numK ((p ++ rowsB (flsK ps ps.length)) ++ (xsK ps ps.length ++ (ysK ps ps.length ++ s))) 2 16 fl (p ++ rowsB (flsK ps ps.length)).length ps.length = some ((List.range ps.length).map (pX ps), (p ++ rowsB (flsK ps ps.length)).length + (xsK ps ps.length).length, _) at hx
  change numK ((p ++ rowsB (flsK ps ps.length) ++ xsK ps ps.length) ++ (ysK ps ps.length ++ s)) 4 32 fl (p ++ rowsB (flsK ps ps.length) ++ xsK ps ps.length).length ps.length = some ((List.range ps.length).map (pY ps), (p ++ rowsB (flsK ps ps.length) ++ xsK ps ps.length).length + (ysK ps ps.length).length, _) at hy
  simp only [List.append_assoc, List.length_append] at hx hy
  unfold bodyS
  rw [h1, Option.bind_some]
  dsimp only
  rw [h2, hx, Option.bind_some]
  dsimp only
  rw [show p.length + (rowsB (flsK ps ps.length)).length + (xsK ps ps.length).length = p.length + ((rowsB (flsK ps ps.length)).length + (xsK ps ps.length).length) by omega, hy, Option.map_some]
  dsimp only
  congr 2; omega
theorem pts_again {ps : List (Int × Int × Bool)} {fl : List Int} (h : fl.length = ps.length) (hb : ∀ i, i < ps.length → bitB (fl.getD i 0) 1 = pO ps i) :
    ptsOf fl ((List.range ps.length).map (pX ps)) ((List.range ps.length).map (pY ps)) = ps := by
  unfold ptsOf
  apply List.ext_getElem
  · simp [h]
  · intro i h1 h2
    rw [pt_eta ps h2]
    simp only [List.getElem_map, List.getElem_range]
    rw [hb i h2]
    simp [List.getD, h2]
/-- Any outline that may be is read of its bytes. -/
theorem parseS_sgB {g : Sg} (hO : g.Ok) (hR : sgR g = true) : parseS (sgB g) = some (g, (sgB g).length) := by
  obtain ⟨hr, hst, bne, bns, bnp⟩ := sgR_parts hR
  obtain ⟨fl, h1, h2, h3⟩ := body_sgB (hdB g) [] hO.at hst
  simp only [List.append_nil] at h1
  have hlen : (sgB g).length = (hdB g).length + ((rowsB (flsK g.pts g.pts.length)).length + ((xsK g.pts g.pts.length).length + (ysK g.pts g.pts.length).length)) := by unfold sgB; simp only [List.length_append]
  have hdl : (hdB g).length = 12 + 2 * g.ends.length + g.prog.length := by
    unfold hdB
    simp only [List.length_append, b2_length, flatN_length b2 b2_length, flatN_length s2 s2_length, Sg.box, List.length_cons, List.length_nil]; omega
  rw [show hdB g ++ (rowsB (flsK g.pts g.pts.length) ++ (xsK g.pts g.pts.length ++ ysK g.pts g.pts.length)) = sgB g from rfl, ← hlen] at h1
  have e : sgB g = b2 g.ends.length ++ (s2 g.b0 ++ (s2 g.b1 ++ (s2 g.b2 ++ (s2 g.b3 ++ (g.ends.flatMap b2 ++ (b2 g.prog.length ++ (g.prog ++ (rowsB (flsK g.pts g.pts.length) ++ (xsK g.pts g.pts.length ++ ysK g.pts g.pts.length))))))))) := by
    simp [sgB, hdB, Sg.box]
  generalize rowsB (flsK g.pts g.pts.length) ++ (xsK g.pts g.pts.length ++ ysK g.pts g.pts.length) = B at e
  generalize sgB g = l at *
  have eN : pN l = g.ends.length := by
    unfold pN
    rw [e, show b2 (g.ends.length : Int) ++ (s2 g.b0 ++ _) = [] ++ (b2 (g.ends.length : Int) ++ (s2 g.b0 ++ _)) from rfl, n2_app (a := 0) rfl (by omega) (by omega)]; omega
  have eE : pE l = g.ends := by
    unfold pE
    rw [eN, e, show ∀ R : List Int, b2 (g.ends.length : Int) ++ (s2 g.b0 ++ (s2 g.b1 ++ (s2 g.b2 ++ (s2 g.b3 ++ (g.ends.flatMap b2 ++ R))))) = (b2 (g.ends.length : Int) ++ (s2 g.b0 ++ (s2 g.b1 ++ (s2 g.b2 ++ s2 g.b3)))) ++ (g.ends.flatMap b2 ++ R) from fun R => by simp]
    exact u16s_app rfl _ hO.en
  have hEl : (g.ends.flatMap b2).length = 2 * g.ends.length := flatN_length b2 b2_length _
  have eZ : pZ l = g.prog.length := by
    unfold pZ
    rw [eN, e, show ∀ R : List Int, b2 (g.ends.length : Int) ++ (s2 g.b0 ++ (s2 g.b1 ++ (s2 g.b2 ++ (s2 g.b3 ++ (g.ends.flatMap b2 ++ (b2 (g.prog.length : Int) ++ R)))))) = (b2 (g.ends.length : Int) ++ (s2 g.b0 ++ (s2 g.b1 ++ (s2 g.b2 ++ (s2 g.b3 ++ g.ends.flatMap b2))))) ++ (b2 (g.prog.length : Int) ++ R) from fun R => by simp,
      n2_app (by simp only [List.length_append, b2_length, s2_length, hEl]; omega) (by omega) (by omega)]; omega
  have eA : pA l = (hdB g).length := by unfold pA; rw [eN, eZ, hdl]
  have eQ : pQ l = g.pts.length := by unfold pQ; rw [eN, eE, ← bns]; omega
  have x0 : sgn (n2 l 2) = g.b0 := by
    rw [e, s2_read (a := 2) (p := b2 g.ends.length) rfl hO.x0]
  have x1 : sgn (n2 l 4) = g.b1 := by
    rw [e, show ∀ R : List Int, b2 (g.ends.length : Int) ++ (s2 g.b0 ++ R) = (b2 (g.ends.length : Int) ++ s2 g.b0) ++ R from fun R => by simp, s2_read (a := 4) rfl hO.x1]
  have x2 : sgn (n2 l 6) = g.b2 := by
    rw [e, show ∀ R : List Int, b2 (g.ends.length : Int) ++ (s2 g.b0 ++ (s2 g.b1 ++ R)) = (b2 (g.ends.length : Int) ++ (s2 g.b0 ++ s2 g.b1)) ++ R from fun R => by simp, s2_read (a := 6) rfl hO.x2]
  have x3 : sgn (n2 l 8) = g.b3 := by
    rw [e, show ∀ R : List Int, b2 (g.ends.length : Int) ++ (s2 g.b0 ++ (s2 g.b1 ++ (s2 g.b2 ++ R))) = (b2 (g.ends.length : Int) ++ (s2 g.b0 ++ (s2 g.b1 ++ s2 g.b2))) ++ R from fun R => by simp, s2_read (a := 8) rfl hO.x3]
  have xp : (l.drop (12 + 2 * pN l)).take (pZ l) = g.prog := by
    rw [eN, eZ, e, show ∀ R : List Int, b2 (g.ends.length : Int) ++ (s2 g.b0 ++ (s2 g.b1 ++ (s2 g.b2 ++ (s2 g.b3 ++ (g.ends.flatMap b2 ++ (b2 (g.prog.length : Int) ++ R)))))) = (b2 (g.ends.length : Int) ++ (s2 g.b0 ++ (s2 g.b1 ++ (s2 g.b2 ++ (s2 g.b3 ++ (g.ends.flatMap b2 ++ b2 (g.prog.length : Int))))))) ++ R from fun R => by simp,
      List.drop_left' (by simp only [List.length_append, b2_length, s2_length, hEl]; omega), List.take_left' rfl]
  have hH : headB l = true := by
    unfold headB
    rw [eN, eE, eA, hr, hlen, hdl]
    simp only [Bool.and_eq_true, decide_eq_true_eq]
    exact ⟨by omega, by omega, trivial, by omega⟩
  unfold parseS
  rw [hH, if_pos rfl, eA, eQ, h1, Option.map_some]
  unfold pG
  dsimp only
  rw [x0, x1, x2, x3, eE, xp, pts_again h2 h3]
/-! ## the bytes are bytes -/
theorem layB_bytes (d : Int) : Bytes (layB d) := by
  unfold layB
  split
  · exact bytes_nil
  · split
    · exact Bytes.one (by omega) (by omega)
    · split
      · exact Bytes.one (by omega) (by omega)
      · exact bytes_b2 _
theorem flat_bytes {α : Type} {f : α → List Int} (h : ∀ x, Bytes (f x)) (l : List α) : Bytes (l.flatMap f) := fun x hx => by
  obtain ⟨a, -, ha⟩ := List.mem_flatMap.1 hx
  exact h a x ha
theorem rowsF_bytes : ∀ (k : Nat) (l : List Int), Bytes l → Bytes (rowsF k l)
  | 0, _, _ => bytes_nil
  | _ + 1, [], _ => bytes_nil
  | k + 1, f :: t, h => by
    show Bytes (rowE (f :: t) ++ rowsF k ((f :: t).drop (rn (f :: t))))
    refine Bytes.append ?_ (rowsF_bytes k _ (h.drop _))
    have hr := rn_le (f :: t)
    have hp := rn_pos f t
    unfold rowE
    split
    · intro x hx
      simp only [List.mem_cons, List.not_mem_nil, or_false] at hx
      rcases hx with rfl | rfl
      · exact or8_bd _ _
      · omega
    · exact Bytes.one (h.get 0).1 (h.get 0).2
theorem sgB_bytes {g : Sg} (h : g.Ok) : Bytes (sgB g) := by
  unfold sgB hdB xsK ysK
  refine Bytes.append (Bytes.append (bytes_b2 _) (Bytes.append (flat_bytes (fun x => bytes_b2 _) _) (Bytes.append (flat_bytes bytes_b2 _) (Bytes.append (bytes_b2 _) h.pr)))) (Bytes.append (rowsF_bytes _ _ (flsK_bytes _ _)) (Bytes.append (flat_bytes (fun i => layB_bytes _) _) (flat_bytes (fun i => layB_bytes _) _)))
end Go.Proofs.YtiedbfaehndooaaDoor

/- The document's number of a flag. -/
namespace Go.Proofs.YtiedbfaehndooaaDoor
open Go Go.RowKit
set_option linter.unusedVariables false
set_option linter.unusedSimpArgs false
set_option maxRecDepth 100000

end Go.Proofs.YtiedbfaehndooaaDoor

/- A cell of a row that is owned. -/
namespace Go.Proofs.YtiedbfaehndooaaDoor
open Go Go.RowKit
section
variable {W0 w : World} {L : List Ent}
theorem Own.row_ad {e : TypeId} {n c : Nat} {A : Option Addr} {vs : List Value} (M : Own W0 w L) (h : .row e 1 (.slice A n c) n vs ∈ L) (hn : 0 < n) : ∃ ad, A = some ad := by
  obtain ⟨g, e⟩ := M.row_at h hn
  exact ⟨_, e⟩
theorem Own.at {e : TypeId} {n c j : Nat} {ad : Addr} {k : IntKind} {xs : List Int} {x : Int} (M : Own W0 w L) (h : .row e 1 (.slice (some ad) n c) n (ints k xs) ∈ L) (hl : xs.length = n) (hj : j < n) (hx : xs.getD j 0 = x) : w.cell? (ad.add j) = some (.int k x) := by
  obtain ⟨A, c', he, -, -, -, hr⟩ := M.slice h
  injection he with e1 e2 e3
  subst e1
  obtain ⟨ad', h1, h2⟩ := hr.cell (ints_get k xs j (by omega))
  injection h1 with h1
  subst h1
  rw [h2, hx]
end
end Go.Proofs.YtiedbfaehndooaaDoor
