/- Two slices of the document's metrics that are the same. -/
import Derived.Test.YtpfgcadlgabaeaaHmtxD
import Derived.Test.YtpfgcadlgabaeaaEq
namespace Go.Proofs.Ytpfgcadlgabaeaa
open Go Go.RowKit
set_option linter.unusedVariables false
set_option linter.unusedSimpArgs false
set_option maxRecDepth 100000

theorem rmet_eq (x y : Int) (w : World) : (Op.equalIn 10000 58 (.agg #[.int .i64 x, .int .i64 y]) (.agg #[.int .i64 x, .int .i64 y])).run Try.prog w = .ok true w := by
  have ii : (Try.prog.info? 3).map (·.size) = some 1 := by kernel_rfl
  have h1 : (part 3 #[.int .i64 x, .int .i64 y] 0).run Try.prog w = .ok (.int .i64 x) w := run_part_one Try.underlying3 ii rfl w
  have h2 : (part 3 #[.int .i64 x, .int .i64 y] 1).run Try.prog w = .ok (.int .i64 y) w := run_part_one Try.underlying3 ii rfl w
  have h3 := int_self (P := Try.prog) Try.underlying3 9998 x w
  have h4 := int_self (P := Try.prog) Try.underlying3 9998 y w
  rw [show (10000 : Nat) = 9999 + 1 from rfl, run_equalIn_struct (P := Try.prog) w 9999 58 _ _ (by kernel_rfl) (by kernel_rfl)]
  simp [Program.fieldsOf, Try.underlying58, Op.eqFields, Sem.run_bind, h1, h2, h3, h4]
theorem rmC_get (ms : List (Int × Int)) : ∀ i, i < ms.length → (rmC ms)[i * 2]? = some (.int .i64 (adv ms i)) ∧ (rmC ms)[i * 2 + 1]? = some (.int .i64 (lft ms i)) := by
  induction ms with
  | nil => intro i h; simp at h
  | cons m ms ih =>
    intro i h
    cases i with
    | zero => exact ⟨rfl, rfl⟩
    | succ i =>
      have := ih i (by simpa using h)
      rw [Nat.succ_mul]
      exact this

set_option maxHeartbeats 2000000 in
theorem eqRefs_calls (w : World) {V1 V2 : Value} {n : Nat} {xs : List (Int × Int)} (hx : xs.length = n) (h1 : SliceAt w w.heap.size 2 V1 n (rmC xs)) (h2 : SliceAt w w.heap.size 2 V2 n (rmC xs)) :
    Calls Try.prog 23 #[V1, V2] w (Ret fun r w' => r = .bool true ∧ Below w.heap.size w w') := by
  obtain ⟨A1, c1, rfl, hc1, hm1, hA1, hr1⟩ := h1
  obtain ⟨A2, c2, rfl, hc2, hm2, hA2, hr2⟩ := h2
  unfold maxLen at hm1 hm2
  have hr1H := hid hr1
  have hr2H := hid hr2
  have hget := hid (fun k (hk : k < n) => rmC_get xs k (hx ▸ hk))
  clear hr1 hA1 hr2 hA2 hx
  go_enter Try.func23, Try.ntmps23
  go_wp2
  go_loopw [13] (fun i wr => ∃ k : Nat, k ≤ n ∧ i = .int .i64 k ∧ Hid (Own w wr [])) (fun i _ => n - (intOf i).toNat)
  case atStart => exact ⟨0, Nat.zero_le _, rfl, hid (Own.start w)⟩
  case round =>
    obtain ⟨k, hk, rfl, hb⟩ := hrel
    by_cases hlt : k < n
    · obtain ⟨a1, rfl, k1⟩ := (hr1H.out.keep (w' := wr) fun k hk _ => hb.out.below.block k hk).cell (hget.out k hlt).1
      obtain ⟨a1', he, k2⟩ := (hr1H.out.keep (w' := wr) fun k hk _ => hb.out.below.block k hk).cell_at (m := k * 2) (j := 1) (by omega) (hget.out k hlt).2
      injection he with he
      subst he
      obtain ⟨a2, rfl, k3⟩ := (hr2H.out.keep (w' := wr) fun k hk _ => hb.out.below.block k hk).cell (hget.out k hlt).1
      obtain ⟨a2', he, k4⟩ := (hr2H.out.keep (w' := wr) fun k hk _ => hb.out.below.block k hk).cell_at (m := k * 2) (j := 1) (by omega) (hget.out k hlt).2
      injection he with he
      subst he
      have heq := rmet_eq (adv xs k) (lft xs k)
      generalize adv xs k = x at *
      generalize lft xs k = y at *
      go_upto_region 6 with fail
      go_quiet (fail)
      go_wp2_with fail
      go_roundw
      case rel => exact ⟨k + 1, by omega, by go_num, hid (hb.out.drewN _)⟩
      case measure => simp [intOf] <;> omega
    · obtain rfl : k = n := by omega
      go_wp2
      go_ret
      exact .mk ⟨rfl, hb.out.below⟩
theorem refParse_no (w : World) {n c : Nat} {A : Option Addr} {lo g : Nat} (l1 : lo < 65536) (g1 : g < 65536) (h : n ≠ 2 * lo + 2 * g) :
    Calls Try.prog 22 #[.slice A n c, .int .i64 lo, .int .i64 g] w (Ret fun r w' => r = .tuple #[.slice none 0 0, .bool false] ∧ Below w.heap.size w w') := by
  have e3 : ((n : Int) != 2 * (lo : Int) + 2 * (g : Int)) = true := by rw [bne_iff_ne]; omega
  clear h
  go_enter Try.func22, Try.ntmps22
  go_wp2
  go_ret2
  exact .mk ⟨rfl, Below.refl _ _⟩
end Go.Proofs.Ytpfgcadlgabaeaa
