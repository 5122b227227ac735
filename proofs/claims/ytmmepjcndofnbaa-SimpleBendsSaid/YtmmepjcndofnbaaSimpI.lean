/- Package simple: two outlines that are the same. -/
import Derived.Test.YtmmepjcndofnbaaSimpH
import Derived.Test.YtmmepjcndofnbaaEq
import Derived.Shelf.Bytes.SlEqualAll
namespace Go.Proofs.Ytmmepjcndofnbaa
open Go Go.RowKit
set_option linter.unusedVariables false
set_option linter.unusedSimpArgs false
set_option maxRecDepth 100000

set_option maxHeartbeats 2000000 in
theorem eqU16s_calls (w : World) {V1 V2 : Value} {n : Nat} {xs : List Int} (hx : xs.length = n) (h1 : SliceAt w w.heap.size 1 V1 n (ints .u16 xs)) (h2 : SliceAt w w.heap.size 1 V2 n (ints .u16 xs)) :
    Calls Try.prog 32 #[V1, V2] w (Ret fun r w' => r = .bool true ∧ Below w.heap.size w w') := by
  obtain ⟨A1, c1, rfl, hc1, hm1, hA1, hr1⟩ := h1
  obtain ⟨A2, c2, rfl, hc2, hm2, hA2, hr2⟩ := h2
  unfold maxLen at hm1 hm2
  have hr1H := hid hr1
  have hr2H := hid hr2
  have hxH := hid hx
  clear hr1 hA1 hr2 hA2 hx
  go_enter Try.func32, Try.ntmps32
  go_wp2
  go_loopw [13] (fun i wr => ∃ k : Nat, k ≤ n ∧ i = .int .i64 k ∧ Hid (Own w wr [])) (fun i _ => n - (intOf i).toNat)
  case atStart => exact ⟨0, Nat.zero_le _, rfl, hid (Own.start w)⟩
  case round =>
    obtain ⟨k, hk, rfl, hb⟩ := hrel
    by_cases hlt : k < n
    · obtain ⟨a1, rfl, k1⟩ := (hr1H.out.keep (w' := wr) fun k hk _ => hb.out.below.block k hk).cell (ints_get .u16 xs k (by rw [hxH.out]; exact hlt))
      obtain ⟨a2, rfl, k2⟩ := (hr2H.out.keep (w' := wr) fun k hk _ => hb.out.below.block k hk).cell (ints_get .u16 xs k (by rw [hxH.out]; exact hlt))
      generalize xs.getD k 0 = x at *
      go_upto_region 6 with fail
      go_quiet (fail)
      go_wp2_with fail
      go_roundw
      case rel => exact ⟨k + 1, by omega, by go_num, hid (hb.out.drewN _)⟩
      case measure => simp [intOf] <;> omega
    · obtain rfl : k = n := by omega
      go_wp2
      go_ret
      exact .mk ⟨rfl, hb.out.below⟩

theorem bool_self {P : Program} {e : TypeId} (he : P.underlying e = some .bool) (d : Nat) (a : Bool) (w : World) : (Op.equalIn (d + 1) e (.bool a) (.bool a)).run P w = .ok true w := by
  simp [Op.equalIn, run_underlying he, Sem.run_bind]
theorem spot_eq (x y : Int) (on : Bool) (w : World) : (Op.equalIn 10000 37 (.agg #[.int .i16 x, .int .i16 y, .bool on]) (.agg #[.int .i16 x, .int .i16 y, .bool on])).run Try.prog w = .ok true w := by
  have i2 : (Try.prog.info? 25).map (·.size) = some 1 := by kernel_rfl
  have h1 : (part 25 #[.int .i16 x, .int .i16 y, .bool on] 0).run Try.prog w = .ok (.int .i16 x) w := run_part_one Try.underlying25 i2 rfl w
  have h2 : (part 25 #[.int .i16 x, .int .i16 y, .bool on] 1).run Try.prog w = .ok (.int .i16 y) w := run_part_one Try.underlying25 i2 rfl w
  have h5 : (part 4 #[.int .i16 x, .int .i16 y, .bool on] 2).run Try.prog w = .ok (.bool on) w := by kernel_rfl
  have h3 := int_self (P := Try.prog) Try.underlying25 9998 x w
  have h4 := int_self (P := Try.prog) Try.underlying25 9998 y w
  have h6 := bool_self (P := Try.prog) Try.underlying4 9998 on w
  rw [show (10000 : Nat) = 9999 + 1 from rfl, run_equalIn_struct (P := Try.prog) w 9999 37 _ _ (by kernel_rfl) (by kernel_rfl)]
  simp [Program.fieldsOf, Try.underlying37, Op.eqFields, Sem.run_bind, h1, h2, h3, h4, h5, h6]
set_option maxHeartbeats 2000000 in
theorem eqSpots_calls (w : World) {V1 V2 : Value} {n : Nat} {xs : List (Int × Int × Bool)} (hx : xs.length = n) (h1 : SliceAt w w.heap.size 3 V1 n (spC xs)) (h2 : SliceAt w w.heap.size 3 V2 n (spC xs)) :
    Calls Try.prog 34 #[V1, V2] w (Ret fun r w' => r = .bool true ∧ Below w.heap.size w w') := by
  obtain ⟨A1, c1, rfl, hc1, hm1, hA1, hr1⟩ := h1
  obtain ⟨A2, c2, rfl, hc2, hm2, hA2, hr2⟩ := h2
  unfold maxLen at hm1 hm2
  have hS1 := hid (fun ad (e : A1 = some ad) w' hb i hi => spot_at (w' := w') (i := i) hx (e ▸ hr1) hb hi)
  have hS2 := hid (fun ad (e : A2 = some ad) w' hb i hi => spot_at (w' := w') (i := i) hx (e ▸ hr2) hb hi)
  have hs1 := hid (fun (h : 0 < n) => show ∃ ad, A1 = some ad by obtain ⟨ad, e, -⟩ := hr1.2 h; exact ⟨ad, e⟩)
  have hs2 := hid (fun (h : 0 < n) => show ∃ ad, A2 = some ad by obtain ⟨ad, e, -⟩ := hr2.2 h; exact ⟨ad, e⟩)
  clear hr1 hA1 hr2 hA2 hx
  go_enter Try.func34, Try.ntmps34
  go_wp2
  go_loopw [13] (fun i wr => ∃ k : Nat, k ≤ n ∧ i = .int .i64 k ∧ Hid (Own w wr [])) (fun i _ => n - (intOf i).toNat)
  case atStart => exact ⟨0, Nat.zero_le _, rfl, hid (Own.start w)⟩
  case round =>
    obtain ⟨k, hk, rfl, hb⟩ := hrel
    by_cases hlt : k < n
    · obtain ⟨a1, rfl⟩ := hs1.out (by omega)
      obtain ⟨a2, rfl⟩ := hs2.out (by omega)
      obtain ⟨k1, k2, k3⟩ := hS1.out a1 rfl wr hb.out.below k hlt
      obtain ⟨l1, l2, l3⟩ := hS2.out a2 rfl wr hb.out.below k hlt
      have heq := spot_eq (pX xs k) (pY xs k) (pO xs k)
      generalize pX xs k = x at *
      generalize pY xs k = y at *
      generalize pO xs k = on at *
      go_upto_region 6 with fail
      go_quiet (fail)
      go_wp2_with fail
      go_roundw
      case rel => exact ⟨k + 1, by omega, by go_num, hid (hb.out.drewN _)⟩
      case measure => simp [intOf] <;> omega
    · obtain rfl : k = n := by omega
      go_wp2
      go_ret
      exact .mk ⟨rfl, hb.out.below⟩

theorem SliceAt.str {w : World} {V : Value} {l : List Int} (h : BytesAt w V l) (src e dst : TypeId) {P : Program}
    (hs : P.underlying src = some (.slice e)) (he : P.underlying e = some (.int .u8)) (hd : P.underlying dst = some .string) : (convert src dst V).run P w = .ok (.string (strOfNums l)) w := by
  obtain ⟨A, c, rfl, -, -, -, hr⟩ := h
  refine Go.Lib.BytesIn.convert (xs := l) ?_ rfl c src e dst hs he hd
  intro hn
  obtain ⟨ad, rfl, -, hc⟩ := hr.2 hn
  exact Go.Lib.BytesIn.of_cells (fun i hi => hc i _ (ints_get .u8 l i hi)) hn
set_option maxHeartbeats 1000000 in
theorem bytesEq_calls (w : World) {V1 V2 : Value} {l : List Int} (h1 : BytesAt w V1 l) (h2 : BytesAt w V2 l) :
    Calls Try.prog 33 #[V1, V2] w (Ret fun r w' => r = .bool true ∧ Below w.heap.size w w') := by
  have c1 := hid (h1.str 23 5 9 Try.underlying23 Try.underlying5 Try.underlying9)
  have c2 := hid (h2.str 23 5 9 Try.underlying23 Try.underlying5 Try.underlying9)
  clear h1 h2
  generalize strOfNums l = s at *
  replace c1 := c1.out
  replace c2 := c2.out
  go_enter Try.func33, Try.ntmps33
  go_wp2
  go_ret
  exact .mk ⟨rfl, Below.refl _ _⟩
end Go.Proofs.Ytmmepjcndofnbaa
