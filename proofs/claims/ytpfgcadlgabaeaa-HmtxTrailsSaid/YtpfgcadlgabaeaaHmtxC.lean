/- Package hmtx: metrics are read. -/
import Derived.Test.YtpfgcadlgabaeaaHmtxB
import Derived.Test.YtpfgcadlgabaeaaReadAt
namespace Go.Proofs.Ytpfgcadlgabaeaa
open Go Go.RowKit
set_option linter.unusedVariables false
set_option linter.unusedSimpArgs false
set_option maxRecDepth 100000

/-- What is read of one glyph; of the first ones. -/
def pm (l : List Int) (lo i : Nat) : Int × Int := (n2 l (4 * min i (lo - 1)), sgn (n2 l (if i < lo then 4 * i + 2 else 4 * lo + 2 * (i - lo))))
def pms (l : List Int) (lo k : Nat) : List (Int × Int) := (List.range k).map (pm l lo)
theorem pms_succ (l : List Int) (lo k : Nat) : pms l lo (k + 1) = pms l lo k ++ [pm l lo k] := by simp [pms, List.range_succ]
theorem pms_length (l : List Int) (lo k : Nat) : (pms l lo k).length = k := by simp [pms]
theorem sized_metric' : Sized Try.prog 22 31 2 4 := .mk' Try.underlying22 (.agg #[.int .u16 0, .int .i16 0]) (by kernel_rfl)

set_option maxHeartbeats 4000000 in
theorem hmParse_yes (w : World) {V : Value} {l : List Int} (h1 : BytesAt w V l) (hB : Bytes l) (hn : l.length ≤ 140737488355328) {lo g : Nat} (l0 : 1 ≤ lo) (l1 : lo ≤ g) (g1 : g < 65536) (hlen : l.length = 2 * lo + 2 * g) :
    Calls Try.prog 20 #[V, .int .u16 lo, .int .u16 g] w (Ret fun r w' => ∃ v, r = .tuple #[v, .int .i64 0] ∧ Own w w' [.row 31 2 v g (mtC (pms l lo g))]) := by
  have h1H := hid h1
  obtain ⟨A1, c1, rfl, hc1, hm1, hA1, -⟩ := h1
  unfold maxLen at hm1
  have hBH := hid hB
  clear hA1 hB
  have e1 : ((lo : Int) == 0) = false := by rw [beq_eq_false_iff_ne]; omega
  have e2 : ¬ ((lo : Int) > g) := by omega
  have e3 : ((l.length : Int) != 2 * (lo : Int) + 2 * (g : Int)) = false := by rw [bne_eq_false_iff_eq]; omega
  have hlH := hid hlen
  clear hlen
  go_enter Try.func20, Try.ntmps20
  go_wp2_with (go_at_call 27; refine (new_calls _ h1H.out hn).mono ?_; rintro _ w2 ⟨_, rfl, b, v, rfl, M⟩; (have M2 := hid M); clear M)
  go_loopw [9, 10, 34] (fun o av i wr => ∃ (k a : Nat) (bad : Bool) (A : Option Addr) (c : Nat) (x : Int), k ≤ g ∧ i = .int .u16 k ∧ o = .slice A k c ∧ av = .int .u16 x ∧ 0 ≤ x ∧ x < 65536 ∧ Hid (0 < k → x = n2 l (4 * min (k - 1) (lo - 1))) ∧ Hid (RdAt (2 * lo + 2 * g) l (2 * min k lo + 2 * k) a bad) ∧ Hid (Own w wr (rdE b v l a bad ++ [.row 31 2 (.slice A k c) k (mtC (pms l lo k))]))) (fun _ _ i _ => g - (intOf i).toNat)
  case atStart => exact ⟨0, 0, false, none, 0, 0, Nat.zero_le _, rfl, rfl, rfl, by omega, by omega, hid (fun h => by omega), hid (RdAt.start _ hBH.out), hid (Own.front (L1 := [_]) (L2 := []) (X := rdE _ _ _ _ _) (by simpa [pms, mtC] using M2.out.nil_row 31 2))⟩
  case round =>
    clear M2
    obtain ⟨k, a, bad, A, c, x, hk, rfl, rfl, rfl, x0, x1, hx, R, MH⟩ := hrel
    by_cases hlt : k < g
    · by_cases hkl : k < lo
      · have hkI : (k : Int) < (lo : Int) := by omega
        have hmin : 2 * min k lo + 2 * k = 4 * k := by omega
        rw [hmin] at R
        clear hmin
        go_wp2_with (first
          | (go_at_call 28; refine (rdU16_at R.out (by omega) MH.out).mono ?_; rintro _ w5 ⟨_, rfl, z, a', b', rfl, z0, z1, hz, R', M⟩; (have M5 := hid M); replace hz := hid (hz hlH.out); replace R' := hid R'; clear M)
          | (go_at_call 32; refine (rdI16_at R'.out (by omega) M5.out).mono ?_; rintro _ w6 ⟨_, rfl, y, a'', b'', rfl, y0, y1, hy, R'', M⟩; (have M6 := hid (M.perm List.perm_append_comm)); replace hy := hid (hy hlH.out); replace R'' := hid R''; clear M M5)
          | (at_builtin; refine wpList_append_Own rfl (.tmp 42) (.tmp 47) _ rfl sized_metric' rfl rfl (L1 := [.blk w6.heap.size 31 #[.int .u16 z, .int .i16 y]]) (L2 := rdE b v l a'' b'') (M6.out.alloc _ _) (SliceAt.built (M6.out.alloc _ _) (.head _) 2 1 rfl (by unfold maxLen; omega)) (by intro u hu; simp at hu; rcases hu with rfl | rfl <;> rfl) (by unfold maxLen; omega) (by omega) ?_; intro v' w' M'; obtain ⟨A7, c7, rfl⟩ := M'.tail.form (.head _); (have M7 := hid (M'.tail.perm (List.perm_append_comm (l₁ := [_])))); clear M'))
        have hpm := hid (show pm l lo k = (z, y) by
          unfold pm
          rw [show min k (lo - 1) = k by omega, if_pos hkl, ← hz.out, ← hy.out])
        go_roundw
        case rel => exact ⟨k + 1, a'', b'', A7, c7, z, by omega, by go_num, rfl, rfl, z0, z1, hid (fun _ => by rw [hz.out, show min (k + 1 - 1) (lo - 1) = k by omega]), hid (by have := R''.out; rwa [show 4 * k + 2 + 2 = 2 * min (k + 1) lo + 2 * (k + 1) by omega] at this), by rw [pms_succ, hpm.out, mtC_append]; exact M7⟩
        case measure => simp [intOf] <;> omega
      · have hkI : ¬ (k : Int) < (lo : Int) := by omega
        have hx' := hx.out (by omega)
        have hmin : 2 * min k lo + 2 * k = 4 * lo + 2 * (k - lo) := by omega
        rw [hmin] at R
        clear hmin
        replace hx' := hid hx'
        go_wp2_with (first
          | (go_at_call 32; refine (rdI16_at R.out (by omega) MH.out).mono ?_; rintro _ w6 ⟨_, rfl, y, a'', b'', rfl, y0, y1, hy, R'', M⟩; (have M6 := hid (M.perm List.perm_append_comm)); replace hy := hid (hy hlH.out); replace R'' := hid R''; clear M)
          | (at_builtin; refine wpList_append_Own rfl (.tmp 42) (.tmp 47) _ rfl sized_metric' rfl rfl (L1 := [.blk w6.heap.size 31 #[.int .u16 x, .int .i16 y]]) (L2 := rdE b v l a'' b'') (M6.out.alloc _ _) (SliceAt.built (M6.out.alloc _ _) (.head _) 2 1 rfl (by unfold maxLen; omega)) (by intro u hu; simp at hu; rcases hu with rfl | rfl <;> rfl) (by unfold maxLen; omega) (by omega) ?_; intro v' w' M'; obtain ⟨A7, c7, rfl⟩ := M'.tail.form (.head _); (have M7 := hid (M'.tail.perm (List.perm_append_comm (l₁ := [_])))); clear M'))
        have hpm := hid (show pm l lo k = (x, y) by
          unfold pm
          rw [if_neg hkl, ← hy.out, hx'.out, show min k (lo - 1) = min (k - 1) (lo - 1) by omega])
        go_roundw
        case rel => exact ⟨k + 1, a'', b'', A7, c7, x, by omega, by go_num, rfl, rfl, x0, x1, hid (fun _ => by rw [hx'.out, show min (k + 1 - 1) (lo - 1) = min (k - 1) (lo - 1) by omega]), hid (by have := R''.out; rwa [show 4 * lo + 2 * (k - lo) + 2 = 2 * min (k + 1) lo + 2 * (k + 1) by omega] at this), by rw [pms_succ, hpm.out, mtC_append]; exact M7⟩
        case measure => simp [intOf] <;> omega
    · obtain rfl : k = g := by omega
      go_wp2
      go_ret2
      exact .mk ⟨_, rfl, (MH.out.perm List.perm_append_comm).head1⟩
theorem hmParse_arg (w : World) {V : Value} {n c : Nat} {A : Option Addr} {lo g : Nat} (l1 : lo < 65536) (g1 : g < 65536) (h : lo = 0 ∨ lo > g) :
    Calls Try.prog 20 #[.slice A n c, .int .u16 lo, .int .u16 g] w (Ret fun r w' => r = .tuple #[.slice none 0 0, .int .i64 1] ∧ Below w.heap.size w w') := by
  by_cases h0 : lo = 0
  · subst h0
    go_enter Try.func20, Try.ntmps20
    go_wp2
    go_ret2
    exact .mk ⟨rfl, Below.refl _ _⟩
  · have e1 : ((lo : Int) == 0) = false := by rw [beq_eq_false_iff_ne]; omega
    have e2 : (lo : Int) > g := by omega
    clear h
    go_enter Try.func20, Try.ntmps20
    go_wp2
    go_ret2
    exact .mk ⟨rfl, Below.refl _ _⟩
theorem hmParse_form (w : World) {n c : Nat} {A : Option Addr} {lo g : Nat} (l0 : 1 ≤ lo) (l1 : lo ≤ g) (g1 : g < 65536) (h : n ≠ 2 * lo + 2 * g) :
    Calls Try.prog 20 #[.slice A n c, .int .u16 lo, .int .u16 g] w (Ret fun r w' => r = .tuple #[.slice none 0 0, .int .i64 2] ∧ Below w.heap.size w w') := by
  have e1 : ((lo : Int) == 0) = false := by rw [beq_eq_false_iff_ne]; omega
  have e2 : ¬ ((lo : Int) > g) := by omega
  have e3 : ((n : Int) != 2 * (lo : Int) + 2 * (g : Int)) = true := by rw [bne_iff_ne]; omega
  clear h
  go_enter Try.func20, Try.ntmps20
  go_wp2
  go_ret2
  exact .mk ⟨rfl, Below.refl _ _⟩
end Go.Proofs.Ytpfgcadlgabaeaa
