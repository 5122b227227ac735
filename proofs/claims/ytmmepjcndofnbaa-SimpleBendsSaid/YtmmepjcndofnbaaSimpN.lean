/- Package simple: a change of a flag, from any state of the reader. -/
import Derived.Test.YtmmepjcndofnbaaSimpM
import Derived.Test.YtmmepjcndofnbaaSimpB
namespace Go.Proofs.Ytmmepjcndofnbaa
open Go Go.RowKit
set_option linter.unusedVariables false
set_option linter.unusedSimpArgs false
set_option maxRecDepth 100000

def and8 (a b : Int) : Int := bits .and .u8 a b
/-- The two ways of a flag's bits. -/
def Way (sh sa : Int) : Prop := (sh = 2 ∧ sa = 16) ∨ (sh = 4 ∧ sa = 32)
theorem and_flags : ∀ n : Nat, n < 256 →
    and8 n (or8 2 16) = (if bitB n 2 then 2 else 0) + (if bitB n 16 then 16 else 0) ∧ and8 n (or8 4 32) = (if bitB n 4 then 4 else 0) + (if bitB n 32 then 32 else 0) := by decide +kernel
theorem and_way {f sh sa : Int} (f0 : 0 ≤ f) (f1 : f < 256) (h : Way sh sa) : and8 f (or8 sh sa) = (if bitB f sh then sh else 0) + (if bitB f sa then sa else 0) := by
  obtain ⟨n, rfl⟩ : ∃ n : Nat, f = n := ⟨f.toNat, by omega⟩
  have := and_flags n (by omega)
  rcases h with ⟨rfl, rfl⟩ | ⟨rfl, rfl⟩
  · exact this.1
  · exact this.2
theorem or_way {sh sa : Int} (h : Way sh sa) : or8 sh sa = sh + sa := by
  rcases h with ⟨rfl, rfl⟩ | ⟨rfl, rfl⟩ <;> decide +kernel
/-- How many bytes a change has. -/
def chW (f sh sa : Int) : Int := if bitB f sh then 1 else if bitB f sa then 0 else 2
def chN (l : List Int) (a : Nat) (bad : Bool) (f sh sa : Int) : Int :=
  if bitB f sh then (if bitB f sa then rNum l a bad 1 else - rNum l a bad 1) else if bitB f sa then 0 else sgn (rNum l a bad 2)
theorem rd_none {l : List Int} {a : Nat} {bad : Bool} (h : a ≤ l.length) : rAt l a bad 0 = a ∧ (!rOk l a bad 0) = bad := by
  have : rOk l a bad 0 = !bad := by unfold rOk; cases bad <;> simp; omega
  unfold rAt
  rw [this]
  cases bad <;> simp
section
variable {W0 w : World} {b : Nat} {v : Value} {l : List Int} {at_ : Nat} {bad : Bool} {L : List Ent}
set_option maxHeartbeats 1000000 in
theorem change_calls {f sh sa : Int} (f0 : 0 ≤ f) (f1 : f < 256) (hw : Way sh sa) (hR : RdOk l at_) (hat : at_ ≤ l.length) (M : Own W0 w (rdE b v l at_ bad ++ L)) :
    Calls Try.prog 58 #[.pointer (some ⟨b, 0, none⟩), .int .u8 f, .int .u8 sh, .int .u8 sa] w (Ret fun r w' =>
      r = .int .i64 (chN l at_ bad f sh sa) ∧ Own W0 w' (rdE b v l (rAt l at_ bad (chW f sh sa)) (!rOk l at_ bad (chW f sh sa)) ++ L)) := by
  have h1 := hid (rd_U8 hR M)
  have h2 := hid (rd_I16 hR M)
  have h0 := hid (rd_none (bad := bad) hat)
  have hn := hid (show chN l at_ bad f sh sa = if bitB f sh then (if bitB f sa then rNum l at_ bad 1 else - rNum l at_ bad 1) else if bitB f sa then 0 else sgn (rNum l at_ bad 2) from rfl)
  have hW := hid (show chW f sh sa = if bitB f sh then 1 else if bitB f sa then 0 else 2 from rfl)
  obtain ⟨b0, b1⟩ : 0 ≤ rNum l at_ bad 1 ∧ rNum l at_ bad 1 < 256 := by simpa using rNum_bound (bad := bad) (at_ := at_) hR.bytes 1 (by omega)
  obtain ⟨c0, c1⟩ : -32768 ≤ sgn (rNum l at_ bad 2) ∧ sgn (rNum l at_ bad 2) < 32768 := by
    have : 0 ≤ rNum l at_ bad 2 ∧ rNum l at_ bad 2 < 65536 := by simpa using rNum_bound (bad := bad) (at_ := at_) hR.bytes 2 (by omega)
    unfold sgn
    split <;> omega
  have ha : bits .and .u8 f (bits .or .u8 sh sa) = (if bitB f sh then sh else 0) + (if bitB f sa then sa else 0) := and_way f0 f1 hw
  have ho : bits .or .u8 sh sa = sh + sa := or_way hw
  rw [ho] at ha
  have MH := hid M
  clear M hR hat
  generalize rNum l at_ bad 1 = n1 at *
  generalize sgn (rNum l at_ bad 2) = n2 at *
  generalize chN l at_ bad f sh sa = cn at *
  generalize chW f sh sa = cw at *
  generalize bitB f sh = p at *
  generalize bitB f sa = q at *
  have hwr1 : IntKind.i64.wrap n1 = n1 := IntWalk.i64_in _ (by omega)
  have hwr2 : IntKind.i64.wrap n2 = n2 := IntWalk.i64_in _ (by omega)
  have hwr3 : IntKind.i64.wrap (-n1) = -n1 := IntWalk.i64_in _ (by omega)
  cases p <;> cases q
  · obtain hcn : cn = n2 := by simpa using hn.out
    subst hcn
    obtain rfl : cw = 2 := by simpa using hW.out
    simp only [if_true, if_false, Bool.false_eq_true] at ha
    clear hn hW
    rcases hw with ⟨rfl, rfl⟩ | ⟨rfl, rfl⟩
    all_goals
      (try simp only [Int.reduceAdd] at ha ho)
      go_enter Try.func58, Try.ntmps58
      go_wp2_with (go_at_call 39; refine h2.out.mono ?_; rintro _ w1 ⟨_, rfl, rfl, M⟩; (have M1 := hid M); clear M)
      go_ret
      exact .mk ⟨rfl, M1.out⟩
  · obtain rfl : cn = 0 := by simpa using hn.out
    obtain rfl : cw = 0 := by simpa using hW.out
    simp only [if_true, if_false, Bool.false_eq_true] at ha
    clear hn hW
    rcases hw with ⟨rfl, rfl⟩ | ⟨rfl, rfl⟩
    all_goals
      (try simp only [Int.reduceAdd] at ha ho)
      go_enter Try.func58, Try.ntmps58
      go_wp2
      go_ret
      exact .mk ⟨rfl, by rw [h0.out.1, h0.out.2]; exact MH.out⟩
  · obtain rfl : cn = -n1 := by simpa using hn.out
    obtain rfl : cw = 1 := by simpa using hW.out
    simp only [if_true, if_false, Bool.false_eq_true] at ha
    clear hn hW
    rcases hw with ⟨rfl, rfl⟩ | ⟨rfl, rfl⟩
    all_goals
      (try simp only [Int.reduceAdd] at ha ho)
      go_enter Try.func58, Try.ntmps58
      go_wp2_with (go_at_call 56; refine h1.out.mono ?_; rintro _ w1 ⟨_, rfl, rfl, M⟩; (have M1 := hid M); clear M)
      go_ret
      exact .mk ⟨rfl, M1.out⟩
  · obtain hcn : cn = n1 := by simpa using hn.out
    subst hcn
    obtain rfl : cw = 1 := by simpa using hW.out
    simp only [if_true, if_false, Bool.false_eq_true] at ha
    clear hn hW
    rcases hw with ⟨rfl, rfl⟩ | ⟨rfl, rfl⟩
    all_goals
      (try simp only [Int.reduceAdd] at ha ho)
      go_enter Try.func58, Try.ntmps58
      go_wp2_with (go_at_call 56; refine h1.out.mono ?_; rintro _ w1 ⟨_, rfl, rfl, M⟩; (have M1 := hid M); clear M)
      go_ret
      exact .mk ⟨rfl, M1.out⟩
end
end Go.Proofs.Ytmmepjcndofnbaa
