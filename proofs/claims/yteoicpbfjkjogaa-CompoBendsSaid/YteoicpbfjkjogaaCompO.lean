/- Layer 13: two glyphs that are the same. -/
import Derived.Test.YteoicpbfjkjogaaCompM
import Derived.Test.YteoicpbfjkjogaaEq
import Derived.Shelf.Bytes.SlEqualAll
namespace Go.Proofs.Yteoicpbfjkjogaa
open Go Go.RowKit
set_option linter.unusedVariables false
set_option linter.unusedSimpArgs false
set_option maxRecDepth 100000

theorem mat_self (a b c d : Int) (w : World) : (Op.equalIn 9999 32 (.agg #[.int .i16 a, .int .i16 b, .int .i16 c, .int .i16 d]) (.agg #[.int .i16 a, .int .i16 b, .int .i16 c, .int .i16 d])).run Try.prog w = .ok true w := by
  have i2 : (Try.prog.info? 25).map (·.size) = some 1 := by kernel_rfl
  have p0 : (part 25 #[.int .i16 a, .int .i16 b, .int .i16 c, .int .i16 d] 0).run Try.prog w = .ok (.int .i16 a) w := run_part_one Try.underlying25 i2 rfl w
  have p1 : (part 25 #[.int .i16 a, .int .i16 b, .int .i16 c, .int .i16 d] 1).run Try.prog w = .ok (.int .i16 b) w := run_part_one Try.underlying25 i2 rfl w
  have p2 : (part 25 #[.int .i16 a, .int .i16 b, .int .i16 c, .int .i16 d] 2).run Try.prog w = .ok (.int .i16 c) w := run_part_one Try.underlying25 i2 rfl w
  have p3 : (part 25 #[.int .i16 a, .int .i16 b, .int .i16 c, .int .i16 d] 3).run Try.prog w = .ok (.int .i16 d) w := run_part_one Try.underlying25 i2 rfl w
  have h0 := int_self (P := Try.prog) Try.underlying25 9997 a w
  have h1 := int_self (P := Try.prog) Try.underlying25 9997 b w
  have h2 := int_self (P := Try.prog) Try.underlying25 9997 c w
  have h3 := int_self (P := Try.prog) Try.underlying25 9997 d w
  rw [show (9999 : Nat) = 9998 + 1 from rfl, run_equalIn_struct (P := Try.prog) w 9998 32 _ _ (by kernel_rfl) (by kernel_rfl)]
  simp [Program.fieldsOf, Try.underlying32, Op.eqFields, Sem.run_bind, p0, p1, p2, p3, h0, h1, h2, h3]
theorem part_eq (p : Pt) (w : World) : (Op.equalIn 10000 35 (.agg (ptA p)) (.agg (ptA p))).run Try.prog w = .ok true w := by
  obtain ⟨f, g, x, y, a, b, c, d⟩ := p
  have i2 : (Try.prog.info? 25).map (·.size) = some 1 := by kernel_rfl
  have i3 : (Try.prog.info? 30).map (·.size) = some 1 := by kernel_rfl
  have p0 : (part 30 #[.int .u16 f, .int .u16 g, .int .i16 x, .int .i16 y, .int .i16 a, .int .i16 b, .int .i16 c, .int .i16 d] 0).run Try.prog w = .ok (.int .u16 f) w := run_part_one Try.underlying30 i3 rfl w
  have p1 : (part 30 #[.int .u16 f, .int .u16 g, .int .i16 x, .int .i16 y, .int .i16 a, .int .i16 b, .int .i16 c, .int .i16 d] 1).run Try.prog w = .ok (.int .u16 g) w := run_part_one Try.underlying30 i3 rfl w
  have p2 : (part 25 #[.int .u16 f, .int .u16 g, .int .i16 x, .int .i16 y, .int .i16 a, .int .i16 b, .int .i16 c, .int .i16 d] 2).run Try.prog w = .ok (.int .i16 x) w := run_part_one Try.underlying25 i2 rfl w
  have p3 : (part 25 #[.int .u16 f, .int .u16 g, .int .i16 x, .int .i16 y, .int .i16 a, .int .i16 b, .int .i16 c, .int .i16 d] 3).run Try.prog w = .ok (.int .i16 y) w := run_part_one Try.underlying25 i2 rfl w
  have p4 : (part 32 #[.int .u16 f, .int .u16 g, .int .i16 x, .int .i16 y, .int .i16 a, .int .i16 b, .int .i16 c, .int .i16 d] 4).run Try.prog w = .ok (.agg #[.int .i16 a, .int .i16 b, .int .i16 c, .int .i16 d]) w := by kernel_rfl
  have h0 := int_self (P := Try.prog) Try.underlying30 9998 f w
  have h1 := int_self (P := Try.prog) Try.underlying30 9998 g w
  have h2 := int_self (P := Try.prog) Try.underlying25 9998 x w
  have h3 := int_self (P := Try.prog) Try.underlying25 9998 y w
  have h4 := mat_self a b c d w
  rw [show (10000 : Nat) = 9999 + 1 from rfl, run_equalIn_struct (P := Try.prog) w 9999 35 _ _ (by kernel_rfl) (by kernel_rfl)]
  simp [Program.fieldsOf, Try.underlying35, Op.eqFields, Sem.run_bind, p0, p1, p2, p3, p4, h0, h1, h2, h3, h4]
set_option maxHeartbeats 2000000 in
theorem eqParts_calls (w : World) {V1 V2 : Value} {n : Nat} {xs : List Pt} (hx : xs.length = n) (h1 : SliceAt w w.heap.size 8 V1 n (ptC xs)) (h2 : SliceAt w w.heap.size 8 V2 n (ptC xs)) :
    Calls Try.prog 37 #[V1, V2] w (Ret fun r w' => r = .bool true ∧ Below w.heap.size w w') := by
  obtain ⟨A1, c1, rfl, hc1, hm1, hA1, hr1⟩ := h1
  obtain ⟨A2, c2, rfl, hc2, hm2, hA2, hr2⟩ := h2
  unfold maxLen at hm1 hm2
  have hS1 := hid (fun ad (e : A1 = some ad) w' hb i hi => part_at (w' := w') (i := i) hx (e ▸ hr1) hb hi)
  have hS2 := hid (fun ad (e : A2 = some ad) w' hb i hi => part_at (w' := w') (i := i) hx (e ▸ hr2) hb hi)
  have hs1 := hid (fun (h : 0 < n) => show ∃ ad, A1 = some ad by obtain ⟨ad, e, -⟩ := hr1.2 h; exact ⟨ad, e⟩)
  have hs2 := hid (fun (h : 0 < n) => show ∃ ad, A2 = some ad by obtain ⟨ad, e, -⟩ := hr2.2 h; exact ⟨ad, e⟩)
  clear hr1 hA1 hr2 hA2 hx
  go_enter Try.func37, Try.ntmps37
  go_wp2
  go_loopw [13] (fun i wr => ∃ k : Nat, k ≤ n ∧ i = .int .i64 k ∧ Hid (Own w wr [])) (fun i _ => n - (intOf i).toNat)
  case atStart => exact ⟨0, Nat.zero_le _, rfl, hid (Own.start w)⟩
  case round =>
    obtain ⟨k, hk, rfl, hb⟩ := hrel
    by_cases hlt : k < n
    · obtain ⟨a1, rfl⟩ := hs1.out (by omega)
      obtain ⟨a2, rfl⟩ := hs2.out (by omega)
      obtain ⟨k0, k1, k2, k3, k4, k5, k6, k7⟩ := hS1.out a1 rfl wr hb.out.below k hlt
      obtain ⟨l0, l1, l2, l3, l4, l5, l6, l7⟩ := hS2.out a2 rfl wr hb.out.below k hlt
      have heq := part_eq (pAt xs k)
      generalize pAt xs k = p at *
      obtain ⟨f, g, x, y, a, b, c, d⟩ := p
      go_upto_region 6 with fail
      go_quiet (fail)
      go_wp2_with fail
      go_roundw
      case rel => exact ⟨k + 1, by omega, by go_num, hid (hb.out.drewN _)⟩
      case measure => simp [intOf] <;> omega
    · obtain rfl : k = n := by omega
      go_wp2
      go_ret
      exact .mk ⟨rfl, hb.out.below⟩
theorem SliceAt.str {w : World} {V : Value} {l : List Int} (h : BytesAt w V l) (src e dst : TypeId) {P : Program}
    (hs : P.underlying src = some (.slice e)) (he : P.underlying e = some (.int .u8)) (hd : P.underlying dst = some .string) : (convert src dst V).run P w = .ok (.string (strOfNums l)) w := by
  obtain ⟨A, c, rfl, -, -, -, hr⟩ := h
  refine Go.Lib.BytesIn.convert (xs := l) ?_ rfl c src e dst hs he hd
  intro hn
  obtain ⟨ad, rfl, -, hc⟩ := hr.2 hn
  exact Go.Lib.BytesIn.of_cells (fun i hi => hc i _ (ints_get .u8 l i hi)) hn
set_option maxHeartbeats 1000000 in
theorem bytesEq_calls (w : World) {V1 V2 : Value} {l : List Int} (h1 : BytesAt w V1 l) (h2 : BytesAt w V2 l) :
    Calls Try.prog 38 #[V1, V2] w (Ret fun r w' => r = .bool true ∧ Below w.heap.size w w') := by
  have c1 := hid (h1.str 22 5 9 Try.underlying22 Try.underlying5 Try.underlying9)
  have c2 := hid (h2.str 22 5 9 Try.underlying22 Try.underlying5 Try.underlying9)
  clear h1 h2
  generalize strOfNums l = s at *
  replace c1 := c1.out
  replace c2 := c2.out
  go_enter Try.func38, Try.ntmps38
  go_wp2
  go_ret
  exact .mk ⟨rfl, Below.refl _ _⟩
end Go.Proofs.Yteoicpbfjkjogaa
