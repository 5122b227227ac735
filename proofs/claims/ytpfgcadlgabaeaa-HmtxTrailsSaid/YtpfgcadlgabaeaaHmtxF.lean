/- Metrics that are written are read again: plain words. And two slices of metrics that are the same. -/
import Derived.Test.YtpfgcadlgabaeaaHmtxE
import Derived.Test.YtpfgcadlgabaeaaLaw07B
import Derived.Test.YtpfgcadlgabaeaaLaw07C
namespace Go.Proofs.Ytpfgcadlgabaeaa
open Go Go.RowKit
set_option linter.unusedVariables false
set_option linter.unusedSimpArgs false
set_option maxRecDepth 100000

theorem hmK_split (ms : List (Int × Int)) (lon k : Nat) : ∀ N, k ≤ N → ∃ s, hmK ms lon N = hmK ms lon k ++ s
  | 0, h => ⟨[], by rw [show k = 0 by omega]; simp⟩
  | N + 1, h => by
    by_cases e : k = N + 1
    · exact ⟨[], by rw [e]; simp⟩
    · obtain ⟨s, hs⟩ := hmK_split ms lon k N (by omega)
      exact ⟨s ++ hmE ms lon N, by rw [hmK_succ, hs, List.append_assoc]⟩
theorem hmK_at (ms : List (Int × Int)) (lon : Nat) {k N : Nat} (h : k < N) : ∃ s, hmK ms lon N = hmK ms lon k ++ (hmE ms lon k ++ s) := by
  obtain ⟨s, hs⟩ := hmK_split ms lon (k + 1) N h
  exact ⟨s, by rw [hs, hmK_succ, List.append_assoc]⟩
theorem hmE_bytes (ms : List (Int × Int)) (lon k : Nat) : Bytes (hmE ms lon k) := by
  unfold hmE
  split
  · exact (bytes_b2 _).append (bytes_b2 _)
  · exact bytes_nil.append (bytes_b2 _)
theorem hmK_bytes (ms : List (Int × Int)) (lon : Nat) : ∀ N, Bytes (hmK ms lon N)
  | 0 => bytes_nil
  | N + 1 => by rw [hmK_succ]; exact (hmK_bytes ms lon N).append (hmE_bytes ms lon N)
theorem met_eta (ms : List (Int × Int)) {i : Nat} (h : i < ms.length) : ms[i] = (adv ms i, lft ms i) := by simp [adv, lft, List.getD, h]
theorem hm_read {ms : List (Int × Int)} (hM : Mets ms) {lon N : Nat} (hN : ms.length = N) (h1 : 1 ≤ lon) (h2 : lon ≤ N) (hs : ∀ i, lon - 1 ≤ i → i < N → adv ms i = adv ms (lon - 1)) : pms (hmK ms lon N) lon N = ms := by
  have ha : ∀ k, k < lon → n2 (hmK ms lon N) (4 * k) = adv ms k ∧ n2 (hmK ms lon N) (4 * k + 2) = lft ms k % 65536 := by
    intro k hk
    obtain ⟨s, e⟩ := hmK_at ms lon (k := k) (N := N) (by omega)
    have hl := hmK_length ms (lon := lon) k
    have ea : hmE ms lon k = b2 (adv ms k) ++ b2 (lft ms k % 65536) := by unfold hmE; rw [if_pos hk]
    have b1 := hM.adv k (by omega)
    rw [e, ea]
    refine ⟨?_, ?_⟩
    · rw [List.append_assoc]; exact n2_app (by omega) b1.1 b1.2
    · rw [List.append_assoc, ← List.append_assoc]; exact n2_app (by rw [List.length_append, b2_length]; omega) (by omega) (by omega)
  have hb : ∀ k, lon ≤ k → k < N → n2 (hmK ms lon N) (4 * lon + 2 * (k - lon)) = lft ms k % 65536 := by
    intro k hk hkN
    obtain ⟨s, e⟩ := hmK_at ms lon (k := k) (N := N) (by omega)
    have hl := hmK_length ms (lon := lon) k
    have ea : hmE ms lon k = b2 (lft ms k % 65536) := by unfold hmE; rw [if_neg (by omega)]; rfl
    rw [e, ea]
    exact n2_app (by omega) (by omega) (by omega)
  apply List.ext_getElem
  · rw [pms_length, hN]
  · intro i q1 q2
    rw [met_eta ms q2]
    have hi : i < N := by omega
    have e1 : (pms (hmK ms lon N) lon N)[i] = pm (hmK ms lon N) lon i := by simp [pms]
    have b2' := hM.lft i q2
    rw [e1]
    unfold pm
    by_cases hk : i < lon
    · rw [if_pos hk, show min i (lon - 1) = i by omega, (ha i hk).1, (ha i hk).2, sgn_mod b2'.1 b2'.2]
    · rw [if_neg hk, show min i (lon - 1) = lon - 1 by omega, (ha (lon - 1) (by omega)).1, hb i (by omega) hi, sgn_mod b2'.1 b2'.2, hs i (by omega) hi]
theorem lon_same (ms : List (Int × Int)) {N : Nat} (h : 1 ≤ N) : 1 ≤ lonN ms N ∧ ∀ i, lonN ms N - 1 ≤ i → i < N → adv ms i = adv ms (lonN ms N - 1) := by
  obtain ⟨j, h1, h2, h3, -⟩ := lon_spec ms N h
  rw [h1]
  exact ⟨by omega, fun i hi hn => h3 i (by omega) hn⟩
/-- No number that is less will do. -/
theorem lon_least (ms : List (Int × Int)) {N n : Nat} (hn : n + 1 < lonN ms N) : ∃ i, n ≤ i ∧ i < N ∧ adv ms i ≠ adv ms n := by
  have hN : 1 ≤ N := by have := lonN_le ms N; omega
  obtain ⟨j, h1, h2, h3, h4⟩ := lon_spec ms N hN
  rw [h1] at hn
  rcases h4 with rfl | ⟨i, rfl, h4⟩
  · omega
  · by_cases e : adv ms i = adv ms n
    · exact ⟨i + 1, by omega, h2, fun h => h4 (by rw [e, ← h])⟩
    · exact ⟨i, by omega, by omega, e⟩
theorem lonN_congr (a b : List (Int × Int)) : ∀ n, (∀ i, i < n → adv a i = adv b i) → lonN a n = lonN b n
  | 0, _ => rfl
  | 1, _ => rfl
  | n + 2, h => by unfold lonN; rw [h (n + 1) (by omega), h n (by omega), lonN_congr a b (n + 1) fun i hi => h i (by omega)]
theorem lonN_step (a : List (Int × Int)) (m : Nat) (e : adv a (m + 1) = adv a m) : lonN a (m + 2) = lonN a (m + 1) := by rw [lonN, if_pos e]
theorem lonN_trail (a : List (Int × Int)) (n : Nat) (h0 : 1 ≤ n) : ∀ k, (∀ i, n ≤ i → i < n + k → adv a i = adv a (n - 1)) → lonN a (n + k) = lonN a n
  | 0, _ => rfl
  | k + 1, h => by
    have e : adv a (n + k) = adv a (n + k - 1) := by
      rw [h (n + k) (by omega) (by omega)]
      by_cases hk : k = 0
      · rw [hk]; rfl
      · exact (h (n + k - 1) (by omega) (by omega)).symm
    obtain ⟨m, hm⟩ : ∃ m, n + k = m + 1 := ⟨n + k - 1, by omega⟩
    rw [hm] at e
    rw [show n + (k + 1) = m + 2 by omega, lonN_step a m e, ← hm]
    exact lonN_trail a n h0 k fun i hi hk => h i hi (by omega)

theorem met_eq (x y : Int) (w : World) : (Op.equalIn 10000 31 (.agg #[.int .u16 x, .int .i16 y]) (.agg #[.int .u16 x, .int .i16 y])).run Try.prog w = .ok true w := by
  have i1 : (Try.prog.info? 27).map (·.size) = some 1 := by kernel_rfl
  have i2 : (Try.prog.info? 29).map (·.size) = some 1 := by kernel_rfl
  have h1 : (part 27 #[.int .u16 x, .int .i16 y] 0).run Try.prog w = .ok (.int .u16 x) w := run_part_one Try.underlying27 i1 rfl w
  have h2 : (part 29 #[.int .u16 x, .int .i16 y] 1).run Try.prog w = .ok (.int .i16 y) w := run_part_one Try.underlying29 i2 rfl w
  have h3 := int_self (P := Try.prog) Try.underlying27 9998 x w
  have h4 := int_self (P := Try.prog) Try.underlying29 9998 y w
  rw [show (10000 : Nat) = 9999 + 1 from rfl, run_equalIn_struct (P := Try.prog) w 9999 31 _ _ (by kernel_rfl) (by kernel_rfl)]
  simp [Program.fieldsOf, Try.underlying31, Op.eqFields, Sem.run_bind, h1, h2, h3, h4]
set_option maxHeartbeats 2000000 in
theorem eqMets_calls (w : World) {V1 V2 : Value} {n : Nat} {xs : List (Int × Int)} (hx : xs.length = n) (h1 : SliceAt w w.heap.size 2 V1 n (mtC xs)) (h2 : SliceAt w w.heap.size 2 V2 n (mtC xs)) :
    Calls Try.prog 21 #[V1, V2] w (Ret fun r w' => r = .bool true ∧ Below w.heap.size w w') := by
  obtain ⟨A1, c1, rfl, hc1, hm1, hA1, hr1⟩ := h1
  obtain ⟨A2, c2, rfl, hc2, hm2, hA2, hr2⟩ := h2
  unfold maxLen at hm1 hm2
  have hr1H := hid hr1
  have hr2H := hid hr2
  have hget := hid (fun k (hk : k < n) => mtC_get xs k (hx ▸ hk))
  clear hr1 hA1 hr2 hA2 hx
  go_enter Try.func21, Try.ntmps21
  go_wp2
  go_loopw [13] (fun i wr => ∃ k : Nat, k ≤ n ∧ i = .int .i64 k ∧ Hid (Own w wr [])) (fun i _ => n - (intOf i).toNat)
  case atStart => exact ⟨0, Nat.zero_le _, rfl, hid (Own.start w)⟩
  case round =>
    obtain ⟨k, hk, rfl, hb⟩ := hrel
    by_cases hlt : k < n
    · obtain ⟨a1, rfl, k1⟩ := (hr1H.out.keep (w' := wr) fun k hk _ => hb.out.below.block k hk).cell (hget.out k hlt).1
      obtain ⟨a1', he, k2⟩ := (hr1H.out.keep (w' := wr) fun k hk _ => hb.out.below.block k hk).cell_at (m := k * 2) (j := 1) (by omega) (hget.out k hlt).2
      injection he with he
      subst he
      obtain ⟨a2, rfl, k3⟩ := (hr2H.out.keep (w' := wr) fun k hk _ => hb.out.below.block k hk).cell (hget.out k hlt).1
      obtain ⟨a2', he, k4⟩ := (hr2H.out.keep (w' := wr) fun k hk _ => hb.out.below.block k hk).cell_at (m := k * 2) (j := 1) (by omega) (hget.out k hlt).2
      injection he with he
      subst he
      have heq := met_eq (adv xs k) (lft xs k)
      generalize adv xs k = x at *
      generalize lft xs k = y at *
      go_upto_region 6 with fail
      go_quiet (fail)
      go_wp2_with fail
      go_roundw
      case rel => exact ⟨k + 1, by omega, by go_num, hid (hb.out.drewN _)⟩
      case measure => simp [intOf] <;> omega
    · obtain rfl : k = n := by omega
      go_wp2
      go_ret
      exact .mk ⟨rfl, hb.out.below⟩
end Go.Proofs.Ytpfgcadlgabaeaa
