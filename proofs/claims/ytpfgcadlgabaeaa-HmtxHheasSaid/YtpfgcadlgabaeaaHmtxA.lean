/- Package hmtx: how many are told whole. -/
import Derived.Test.YtpfgcadlgabaeaaRead
import Derived.Test.YtpfgcadlgabaeaaRowSet
import Derived.Test.YtpfgcadlgabaeaaHeld
import Derived.Deep.RegionWith
import Derived.Deep.DeepCutAuto
import Derived.Deep.RegionHeld3
namespace Go.Proofs.Ytpfgcadlgabaeaa
open Go Go.RowKit
set_option linter.unusedVariables false
set_option linter.unusedSimpArgs false
set_option maxRecDepth 100000

/-- The cells of metrics: two each. -/
def mtC (ms : List (Int × Int)) : List Value := ms.flatMap fun m => [.int .u16 m.1, .int .i16 m.2]
def adv (ms : List (Int × Int)) (i : Nat) : Int := (ms.getD i (0, 0)).1
def lft (ms : List (Int × Int)) (i : Nat) : Int := (ms.getD i (0, 0)).2
theorem mtC_length (ms : List (Int × Int)) : (mtC ms).length = ms.length * 2 := by
  unfold mtC
  induction ms with
  | nil => rfl
  | cons m ms ih => rw [List.flatMap_cons, List.length_append, ih]; simp; omega
theorem mtC_get (ms : List (Int × Int)) : ∀ i, i < ms.length → (mtC ms)[i * 2]? = some (.int .u16 (adv ms i)) ∧ (mtC ms)[i * 2 + 1]? = some (.int .i16 (lft ms i)) := by
  induction ms with
  | nil => intro i h; simp at h
  | cons m ms ih =>
    intro i h
    cases i with
    | zero => exact ⟨rfl, rfl⟩
    | succ i =>
      have := ih i (by simpa using h)
      rw [Nat.succ_mul]
      exact this
theorem mtC_append (a b : List (Int × Int)) : mtC (a ++ b) = mtC a ++ mtC b := List.flatMap_append
theorem mtC_take (ms : List (Int × Int)) (k : Nat) : mtC (ms.take k) = (mtC ms).take (k * 2) := by
  induction ms generalizing k with
  | nil => simp [mtC]
  | cons m ms ih =>
    cases k with
    | zero => simp [mtC]
    | succ k =>
      rw [List.take_succ_cons, Nat.succ_mul]
      show [_, _] ++ mtC (ms.take k) = ([_, _] ++ mtC ms).take (k * 2 + 2)
      rw [ih]; rfl
theorem mtC_one (ms : List (Int × Int)) : ∀ u ∈ mtC ms, u.oneCell' = true := by
  intro u hu
  obtain ⟨m, -, hu⟩ := List.mem_flatMap.1 hu
  simp only [List.mem_cons, List.not_mem_nil, or_false] at hu
  rcases hu with rfl | rfl <;> rfl
/-- How many are told whole. -/
def lonN (ms : List (Int × Int)) : Nat → Nat
  | 0 => 0
  | 1 => 1
  | n + 2 => if adv ms (n + 1) = adv ms n then lonN ms (n + 1) else n + 2
theorem lonN_le (ms : List (Int × Int)) : ∀ n, lonN ms n ≤ n
  | 0 => Nat.le_refl _
  | 1 => Nat.le_refl _
  | n + 2 => by unfold lonN; split; exact Nat.le_trans (lonN_le ms (n + 1)) (by omega); omega

set_option maxHeartbeats 2000000 in
theorem long_calls (w : World) {V : Value} {ms : List (Int × Int)} (h1 : SliceAt w w.heap.size 2 V ms.length (mtC ms)) (hn : ms.length ≤ 65535) :
    Calls Try.prog 10 #[V] w (Ret fun r w' => r = .int .u16 (lonN ms ms.length : Nat) ∧ Below w.heap.size w w') := by
  obtain ⟨A1, c1, rfl, hc1, hm1, hA1, hr1⟩ := h1
  unfold maxLen at hm1
  have hr1H := hid hr1
  have hget := hid (mtC_get ms)
  clear hr1 hA1
  generalize hN : ms.length = N at *
  clear hN
  go_enter Try.func10, Try.ntmps10
  go_wp2
  go_loopw [3] (fun nv wr => ∃ k : Nat, k ≤ N ∧ nv = .int .i64 k ∧ Hid (lonN ms k = lonN ms N) ∧ Hid (Own w wr [])) (fun nv _ => (intOf nv).toNat)
  case atStart => exact ⟨N, Nat.le_refl _, rfl, hid rfl, hid (Own.start w)⟩
  case round =>
    obtain ⟨k, hk, rfl, hlo, MH⟩ := hrel
    rcases (show k = 0 ∨ k = 1 ∨ ∃ j, k = j + 2 from by
      match k with
      | 0 => exact .inl rfl
      | 1 => exact .inr (.inl rfl)
      | j + 2 => exact .inr (.inr ⟨j, rfl⟩)) with rfl | rfl | ⟨j, rfl⟩
    · have hz := hid (show lonN ms N = 0 from hlo.out.symm)
      go_upto_region 2 with fail
      go_quiet (fail)
      go_wp2
      go_ret
      exact .mk ⟨by rw [hz.out]; rfl, (MH.out.drewN _).below⟩
    · have hz := hid (show lonN ms N = 1 from hlo.out.symm)
      go_upto_region 2 with fail
      go_quiet (fail)
      go_wp2
      go_ret
      exact .mk ⟨by rw [hz.out]; rfl, (MH.out.drewN _).below⟩
    · obtain ⟨a1, rfl, k1⟩ := (hr1H.out.keep (w' := wr) fun k hk _ => MH.out.below.block k hk).cell (hget.out j (by omega)).1
      obtain ⟨a1', he, k2⟩ := (hr1H.out.keep (w' := wr) fun k hk _ => MH.out.below.block k hk).cell (hget.out (j + 1) (by omega)).1
      injection he with he
      subst he
      obtain ⟨x, hx⟩ : ∃ x, adv ms j = x := ⟨_, rfl⟩
      obtain ⟨y, hy⟩ : ∃ y, adv ms (j + 1) = y := ⟨_, rfl⟩
      rw [hx] at k1
      rw [hy] at k2
      replace hx := hid hx
      replace hy := hid hy
      have w1 : IntKind.i64.wrap ((j : Int) + 2 - 1) = ((j + 1 : Nat) : Int) := by rw [show (j : Int) + 2 - 1 = ((j + 1 : Nat) : Int) by omega]; exact IntWalk.i64_in _ (by omega)
      have w2 : IntKind.i64.wrap ((j : Int) + 2 - 2) = (j : Int) := by rw [show (j : Int) + 2 - 2 = (j : Int) by omega]; exact IntWalk.i64_in _ (by omega)
      have g1 : (1 : Int) < (j : Int) + 2 := by omega
      have g2 : j + 1 < N := by omega
      have g3 : j < N := by omega
      have g4 : (j : Int) + 1 < N := by omega
      have g5 : (j : Int) < N := by omega
      have w3 : IntKind.i64.wrap (j : Int) = (j : Int) := IntWalk.i64_in _ (by omega)
      have g6 : ((j : Int) + 1).toNat = j + 1 := by omega
      have g7 : 0 ≤ (j : Int) + 1 := by omega
      have hstep := hid (show lonN ms (j + 2) = if y = x then lonN ms (j + 1) else j + 2 from by rw [← hy.out, ← hx.out]; rfl)
      rcases Bool.eq_false_or_eq_true (y == x) with e | e
      · have hxy := hid (show lonN ms (j + 1) = lonN ms N by rw [← hlo.out, hstep.out, if_pos (by simpa using e)])
        go_upto_region 2 with fail
        go_quiet (fail)
        go_wp2
        go_roundw
        case rel => exact ⟨j + 1, by omega, by go_num, hxy, hid (MH.out.drewN _)⟩
        case measure => simp [intOf] <;> omega
      · have hxy := hid (show lonN ms N = j + 2 by rw [← hlo.out, hstep.out, if_neg (by simpa using e)])
        go_upto_region 2 with fail
        go_quiet (fail)
        go_wp2
        go_ret
        exact .mk ⟨by rw [hxy.out]; rfl, (MH.out.drewN _).below⟩
end Go.Proofs.Ytpfgcadlgabaeaa
