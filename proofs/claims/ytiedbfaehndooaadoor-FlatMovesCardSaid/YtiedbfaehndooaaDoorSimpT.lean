/- Package simple: ends, flags, places of a reader. -/
import Derived.Test.YtiedbfaehndooaaDoorSimpS
import Derived.Test.YtiedbfaehndooaaDoorBaseM
namespace Go.Proofs.YtiedbfaehndooaaDoor
open Go Go.RowKit
set_option linter.unusedVariables false
set_option linter.unusedSimpArgs false
set_option maxRecDepth 100000

section
variable {W0 w : World} {b k : Nat} {l : List Int} {L : List Ent}
theorem RS.change {f sh sa : Int} (f0 : 0 ≤ f) (f1 : f < 256) (hw : Way sh sa) (h : RS W0 w b l k L) :
    Calls Tryd.prog 76 #[.pointer (some ⟨b, 0, none⟩), .int .u8 f, .int .u8 sh, .int .u8 sa] w (Ret fun r w' =>
      r = .int .i64 (nbV l k f sh sa) ∧ RS W0 w' b l (k + (chW f sh sa).toNat) L) := by
  obtain ⟨v, a, bad, h1, h2, h3, M⟩ := h
  refine (change_calls f0 f1 hw h1 h1.le M).mono ?_
  rintro _ w' ⟨r, e, h4, M'⟩
  have hc : chW f sh sa = ((chW f sh sa).toNat : Int) := by unfold chW; split <;> (try split) <;> rfl
  rw [hc] at M'
  refine ⟨r, e, ?_, RS.next (m := (chW f sh sa).toNat) h1 h2 h3 M'⟩
  rw [h4]
  unfold chN nbV
  rw [rs_n1 h2 h3, rs_n2 h2 h3]
theorem nbV_bound {l : List Int} (hB : Bytes l) (k : Nat) (f sh sa : Int) : -32768 ≤ nbV l k f sh sa ∧ nbV l k f sh sa < 32768 := by
  have h1 := hB.get k
  have h2 := n2_bound hB k
  unfold nbV sgn
  split
  · split <;> omega
  · split
    · omega
    · split <;> omega
/-- What ends are told. -/
def EndsP (W0 : World) (b : Nat) (l : List Int) (k N : Nat) (L : List Ent) (r : Value) (w' : World) : Prop :=
  (riseB (u16s l k N) N = true ∧ (N = 0 ∨ k + 2 * N ≤ l.length) ∧ ∃ v, r = .tuple #[v, .int .i64 (nP (u16s l k N) N), .bool true] ∧ RS W0 w' b l (k + 2 * N) (.row 34 1 v N (ints .u16 (u16s l k N)) :: L)) ∨
  (¬ (riseB (u16s l k N) N = true ∧ k + 2 * N ≤ l.length) ∧ r = .tuple #[.slice none 0 0, .int .i64 0, .bool false] ∧ ∃ k', RS W0 w' b l k' L)
theorem u16s_succ (l : List Int) (k i : Nat) : u16s l k (i + 1) = u16s l k i ++ [n2 l (k + 2 * i)] := by simp [u16s, List.range_succ]
theorem nP_u16s (l : List Int) (k N : Nat) : ∀ i, i ≤ N → nP (u16s l k N) i = nP (u16s l k i) i
  | 0, _ => rfl
  | i + 1, h => by show (u16s l k N).getD i 0 + 1 = (u16s l k (i + 1)).getD i 0 + 1; rw [u16s_get _ _ _ _ (by omega), u16s_get _ _ _ _ (by omega)]
set_option maxHeartbeats 4000000 in
theorem ends_calls {n : Int} (n0 : -32768 ≤ n) (n1 : n < 32768) {N : Nat} (hN : n.toNat = N) (h : RS W0 w b l k L) :
    Calls Tryd.prog 59 #[.pointer (some ⟨b, 0, none⟩), .int .i64 n] w (Ret fun r w' => EndsP W0 b l k N L r w') := by
  have hB := hid h.bytes
  have M0 := hid (RS.nil_row h 34 1)
  clear h
  go_enter Tryd.func59, Tryd.ntmps59
  go_wp2
  go_loopw [7, 8, 11] (fun o la i wr => ∃ (j : Nat) (A : Option Addr) (c : Nat), j ≤ N ∧ i = .int .i64 j ∧ o = .slice A j c ∧ la = .int .i64 (nP (u16s l k N) j) ∧ Hid (riseB (u16s l k N) j = true) ∧ Hid (j = 0 ∨ k + 2 * j ≤ l.length) ∧ Hid (RS W0 wr b l (k + 2 * j) (.row 34 1 (.slice A j c) j (ints .u16 (u16s l k j)) :: L))) (fun _ _ i _ => N - (intOf i).toNat)
  case atStart => exact ⟨0, none, 0, Nat.zero_le _, rfl, rfl, rfl, hid (decide_eq_true fun i hi => by omega), hid (.inl rfl), by simpa [u16s, ints] using M0⟩
  case round =>
    obtain ⟨j, A, c, hj, rfl, rfl, rfl, hr, hd, MH⟩ := hrel
    have hpb := hid (show 0 ≤ nP (u16s l k N) j ∧ nP (u16s l k N) j ≤ 65536 from by
      cases j with
      | zero => exact ⟨Int.le_refl _, by show (0 : Int) ≤ _; omega⟩
      | succ j =>
        have := n2_bound hB.out (k + 2 * j)
        show 0 ≤ (u16s l k N).getD j 0 + 1 ∧ (u16s l k N).getD j 0 + 1 ≤ 65536
        rw [u16s_get _ _ _ _ (by omega)]; omega)
    obtain ⟨p, hp⟩ : ∃ p, nP (u16s l k N) j = p := ⟨_, rfl⟩
    rw [hp] at hpb ⊢
    obtain ⟨p0, p1⟩ := hpb.out
    replace hp := hid hp
    by_cases hlt : j < N
    · have hlt2 : (j : Int) < n := by omega
      obtain ⟨y0, y1⟩ := n2_bound hB.out (k + 2 * j)
      have hy := hid (show (u16s l k N).getD j 0 = n2 l (k + 2 * j) from u16s_get _ _ _ _ hlt)
      have hU := hid (u16s_succ l k j)
      have h16 := hid (RS.U16 MH.out)
      generalize n2 l (k + 2 * j) = y at *
      have hrs := hid (show ¬ y < p → riseB (u16s l k N) (j + 1) = true from fun hge => by rw [riseB_succ, hr.out, hp.out, hy.out]; simp; omega)
      have hno1 := hid (show l.length < k + 2 * j + 2 → ¬ (riseB (u16s l k N) N = true ∧ k + 2 * N ≤ l.length) from fun h f => by have := f.2; omega)
      have hno2 := hid (show y < p → ¬ (riseB (u16s l k N) N = true ∧ k + 2 * N ≤ l.length) from fun h f => by
        have := of_decide_eq_true f.1 j hlt
        rw [hy.out, hp.out] at this; omega)
      have hnx := hid (show nP (u16s l k N) (j + 1) = y + 1 from by rw [← hy.out]; rfl)
      by_cases hlen : l.length < k + 2 * j + 2
      · go_wp2_with (first
          | (go_at_call 53; refine h16.out.mono ?_; rintro _ w5 ⟨_, rfl, rfl, M⟩; (have M5 := hid M); clear M)
          | (go_at_call 54; refine (RS.Bad M5.out).mono ?_; rintro _ _ ⟨_, rfl, rfl, rfl⟩))
        go_ret3
        exact .mk (.inr ⟨hno1.out hlen, rfl, _, M5.out.perm_tail⟩)
      · by_cases q1 : y < p
        · go_wp2_with (first
            | (go_at_call 53; refine h16.out.mono ?_; rintro _ w5 ⟨_, rfl, rfl, M⟩; (have M5 := hid M); clear M)
            | (go_at_call 54; refine (RS.Bad M5.out).mono ?_; rintro _ _ ⟨_, rfl, rfl, rfl⟩))
          go_ret3
          exact .mk (.inr ⟨hno2.out q1, rfl, _, M5.out.perm_tail⟩)
        · go_wp2_with (first
            | (go_at_call 53; refine h16.out.mono ?_; rintro _ w5 ⟨_, rfl, rfl, M⟩; (have M5 := hid M); clear M)
            | (go_at_call 54; refine (RS.Bad M5.out).mono ?_; rintro _ _ ⟨_, rfl, rfl, rfl⟩; obtain ⟨v6, a6, b6, M6, e1, e2, e3⟩ := M5.out.opened; (have e1 := hid e1); (have e2 := hid e2); (have e3 := hid e3); (have M6 := hid M6))
            | (at_builtin; refine wpList_append_Own rfl (.tmp 23) (.tmp 25) _ rfl sized_u16 rfl rfl (L1 := [.blk w5.heap.size 34 #[.int .u16 y]]) (L2 := L ++ rdE b v6 l a6 b6) (M6.out.alloc _ _) (SliceAt.built (M6.out.alloc _ _) (.head _) 1 1 rfl (by unfold maxLen; omega)) (ints_one .u16 [y]) (by unfold maxLen; omega) (by omega) ?_; intro v' w' M'; obtain ⟨A7, c7, rfl⟩ := M'.tail.form (.head _); (have M7 := hid (RS.shut (L := .row _ 1 _ _ _ :: L) M'.tail e1.out e2.out e3.out)); clear M'))
          go_roundw
          case rel => exact ⟨j + 1, A7, c7, by omega, by go_num, rfl, by rw [hnx.out], hrs.out q1, hid (.inr (by omega)), by rw [hU.out, ints_append]; exact M7⟩
          case measure => simp [intOf] <;> omega
    · obtain rfl : j = N := by omega
      have hge : ¬ ((j : Int) < n) := by omega
      go_wp2
      go_ret3
      exact .mk (.inl ⟨hr.out, hd.out, _, by rw [hp.out]; rfl, MH.out⟩)
end
end Go.Proofs.YtiedbfaehndooaaDoor
