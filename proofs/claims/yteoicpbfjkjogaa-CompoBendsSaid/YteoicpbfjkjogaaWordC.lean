/- Package word: bytes that grow. -/
import Derived.Test.YteoicpbfjkjogaaWordB
namespace Go.Proofs.Yteoicpbfjkjogaa
open Go Go.RowKit
set_option linter.unusedVariables false
set_option linter.unusedSimpArgs false
attribute [local go_sem] nil_u8

/-- A writer: the bytes so far, a row of its own. -/
def wrE (b : Nat) (v : Value) (l : List Int) : List Ent := [.blk b 69 #[v], .row 5 1 v l.length (ints .u8 l)]
/-- Two bytes, four bytes, of a number. -/
def b2 (n : Int) : List Int := [n / 256 % 256, n % 256]
def b4 (n : Int) : List Int := b2 (n / 65536 % 65536) ++ b2 (n % 65536)
theorem b2_length (n : Int) : (b2 n).length = 2 := rfl
theorem b4_length (n : Int) : (b4 n).length = 4 := rfl

section
variable {W0 w : World} {L1 L : List Ent} {b : Nat} {v : Value} {l : List Int}
theorem wr_put {pv : Value} {ps : List Int} (hp : SliceAt w w.heap.size 1 pv ps.length (ints .u8 ps)) (hl : l.length + ps.length ≤ 140737488355328) (M : Own W0 w (L1 ++ (wrE b v l ++ L))) :
    Calls Try.prog 31 #[.pointer (some ⟨b, 0, none⟩), pv] w (Ret fun r w' => r = .pointer (some ⟨b, 0, none⟩) ∧ ∃ v', Own W0 w' (L1 ++ (wrE b v' (l ++ ps) ++ L))) := by
  obtain ⟨A, c, rfl⟩ := M.form (e := 5) (sz := 1) (v := v) (n := l.length) (xs := ints .u8 l) (by simp [wrE])
  have c0 := M.cell (g := b) (t := 69) (cs := #[.slice A l.length c]) (by simp [wrE]) 0
  have f0 := M.free (g := b) (t := 69) (cs := #[.slice A l.length c]) (by simp [wrE]) 0
  have hpH := hid hp
  have MH : Hid (Own W0 w ((L1 ++ [.blk b 69 #[.slice A l.length c]]) ++ (.row 5 1 (.slice A l.length c) l.length (ints .u8 l) :: L))) := hid (by simpa [wrE] using M)
  obtain ⟨A2, c2, rfl, -⟩ := hp
  simp only [List.getElem?_toArray, List.getElem?_cons_zero] at c0
  clear M
  go_enter Try.func31, Try.ntmps31
  go_wp2_with (at_builtin; refine wpList_append_Own rfl (.tmp 11) (.tmp 12) _ rfl sized_u8 rfl rfl MH.out hpH.out (ints_one _ _) (by unfold maxLen; omega) (by omega) ?_; intro v' w' M'; obtain ⟨A3, c3, rfl⟩ := M'.form (e := 5) (sz := 1) (v := v') (n := l.length + ps.length) (xs := ints .u8 l ++ ints .u8 ps) (by simp); (have k0 := M'.cell (g := b) (t := 69) (cs := #[.slice A l.length c]) (by simp) 0); (have k1 := M'.free (g := b) (t := 69) (cs := #[.slice A l.length c]) (by simp) 0); (have M'H := hid M'); clear M'; simp only [List.getElem?_toArray, List.getElem?_cons_zero] at k0)
  go_ret
  refine .mk ⟨rfl, .slice A3 (l.length + ps.length) c3, ?_⟩
  have h := M'H.out
  rw [List.append_assoc] at h
  have h := h.set 0 (.slice A3 (l.length + ps.length) c3)
  simpa [wrE, ints_append] using h

theorem wr_U8 {n : Int} (h0 : 0 ≤ n) (h1 : n < 256) (hl : l.length + 1 ≤ 140737488355328) (M : Own W0 w (L1 ++ (wrE b v l ++ L))) :
    Calls Try.prog 54 #[.pointer (some ⟨b, 0, none⟩), .int .u8 n] w (Ret fun r w' => r = .pointer (some ⟨b, 0, none⟩) ∧ ∃ v', Own W0 w' (L1 ++ (wrE b v' (l ++ [n]) ++ L))) := by
  have MH := hid M
  clear M
  go_enter Try.func54, Try.ntmps54
  go_wp2_with (go_at_call 31; refine (wr_put (L1 := .blk w.heap.size 5 #[.int .u8 n] :: L1) (ps := [n]) (SliceAt.built (MH.out.alloc 5 #[.int .u8 n]) (.head _) 1 1 rfl (by unfold maxLen; omega)) (by simpa using hl) (MH.out.alloc _ _)).mono ?_; rintro _ w1 ⟨_, rfl, rfl, v', M1⟩; (have M1H := hid M1); clear M1)
  go_ret
  exact .mk ⟨rfl, v', M1H.out.tail⟩

theorem b2_eq {n : Int} (h0 : 0 ≤ n) (h1 : n < 65536) : b2 n = [n / 256, n % 256] := by
  unfold b2
  rw [Int.emod_eq_of_lt (a := n / 256) (by omega) (by omega)]
theorem wr_U16 {n : Int} (h0 : 0 ≤ n) (h1 : n < 65536) (hl : l.length + 2 ≤ 140737488355328) (M : Own W0 w (L1 ++ (wrE b v l ++ L))) :
    Calls Try.prog 28 #[.pointer (some ⟨b, 0, none⟩), .int .u16 n] w (Ret fun r w' => r = .pointer (some ⟨b, 0, none⟩) ∧ ∃ v', Own W0 w' (L1 ++ (wrE b v' (l ++ b2 n) ++ L))) := by
  rw [b2_eq h0 h1]
  have MH := hid M
  clear M
  go_enter Try.func28, Try.ntmps28
  go_wp2_with (go_at_call 31; refine (wr_put (L1 := .blk w.heap.size 5 #[.int .u8 (n / 256), .int .u8 (n % 256)] :: L1) (ps := [n / 256, n % 256]) (SliceAt.built (MH.out.alloc 5 #[.int .u8 (n / 256), .int .u8 (n % 256)]) (.head _) 1 2 rfl (by unfold maxLen; omega)) (by simpa using hl) (MH.out.alloc _ _)).mono ?_; rintro _ w1 ⟨_, rfl, rfl, v', M1⟩; (have M1H := hid M1); clear M1)
  go_ret
  exact .mk ⟨rfl, v', M1H.out.tail⟩
theorem wr_I16 {n : Int} (h0 : -32768 ≤ n) (h1 : n < 32768) (hl : l.length + 2 ≤ 140737488355328) (M : Own W0 w (L1 ++ (wrE b v l ++ L))) :
    Calls Try.prog 29 #[.pointer (some ⟨b, 0, none⟩), .int .i16 n] w (Ret fun r w' => r = .pointer (some ⟨b, 0, none⟩) ∧ ∃ v', Own W0 w' (L1 ++ (wrE b v' (l ++ b2 (n % 65536)) ++ L))) := by
  have MH := hid M
  clear M
  go_enter Try.func29, Try.ntmps29
  go_wp2_with (go_at_call 28; refine (wr_U16 (n := n % 65536) (by omega) (by omega) hl MH.out).mono ?_; rintro _ w1 ⟨_, rfl, rfl, v', M1⟩; (have M1H := hid M1); clear M1)
  go_ret
  exact .mk ⟨rfl, v', M1H.out⟩
theorem wr_Done (hl : l.length ≤ 140737488355328) (M : Own W0 w (L1 ++ (wrE b v l ++ L))) :
    Calls Try.prog 32 #[.pointer (some ⟨b, 0, none⟩)] w (Ret fun r w' => Own W0 w' (.row 5 1 r l.length (ints .u8 l) :: (L1 ++ (wrE b v l ++ L)))) := by
  obtain ⟨A, c, rfl⟩ := M.form (e := 5) (sz := 1) (v := v) (n := l.length) (xs := ints .u8 l) (by simp [wrE])
  have c0 := M.cell (g := b) (t := 69) (cs := #[.slice A l.length c]) (by simp [wrE]) 0
  simp only [List.getElem?_toArray, List.getElem?_cons_zero] at c0
  have hs := hid (M.slice (e := 5) (sz := 1) (v := .slice A l.length c) (n := l.length) (xs := ints .u8 l) (by simp [wrE]))
  have MH := hid M
  clear M
  go_enter Try.func32, Try.ntmps32
  go_wp2_with (go_at_call 36; refine (clone_calls w hs.out (ints_one _ _) hl).mono ?_; rintro _ w2 ⟨_, rfl, M2⟩; (have M2H := hid M2); clear M2)
  go_ret
  exact .mk (MH.out.lift M2H.out)
end
end Go.Proofs.Yteoicpbfjkjogaa
