/- Layer 14: contours that are the same; FlatMoves in plain words. -/
import Derived.Test.YtiedbfaehndooaaDoorFlatM
import Derived.Test.YtiedbfaehndooaaDoorSimpG
import Derived.Test.YtiedbfaehndooaaDoorSimpI
namespace Go.Proofs.YtiedbfaehndooaaDoor
open Go Go.RowKit
set_option linter.unusedVariables false
set_option linter.unusedSimpArgs false
set_option maxRecDepth 1000000

theorem dpt_below {w w' : World} {ad : Addr} {ps : List (Int × Int × Bool)} {n : Nat} (hn : ps.length = n) (hr : Reads w w.heap.size 3 (some ad) n (dpC ps)) (hb : Below w.heap.size w w') {i : Nat} (hi : i < n) :
    w'.cell? (ad.add (i * 3)) = some (.int .i64 (pX ps i)) ∧ w'.cell? ⟨(ad.add (i * 3)).block, (ad.add (i * 3)).off + 1, none⟩ = some (.int .i64 (pY ps i)) ∧ w'.cell? ⟨(ad.add (i * 3)).block, (ad.add (i * 3)).off + 2, none⟩ = some (.bool (pO ps i)) :=
  dpt_at hn (hr.keep (w' := w') fun k hk _ => hb.block k hk) hi
theorem dpt_eq (x y : Int) (on : Bool) (w : World) : (Op.equalIn 10000 30 (.agg #[.int .i64 x, .int .i64 y, .bool on]) (.agg #[.int .i64 x, .int .i64 y, .bool on])).run Tryd.prog w = .ok true w := by
  have i2 : (Tryd.prog.info? 3).map (·.size) = some 1 := by kernel_rfl
  have h1 : (part 3 #[.int .i64 x, .int .i64 y, .bool on] 0).run Tryd.prog w = .ok (.int .i64 x) w := run_part_one Tryd.underlying3 i2 rfl w
  have h2 : (part 3 #[.int .i64 x, .int .i64 y, .bool on] 1).run Tryd.prog w = .ok (.int .i64 y) w := run_part_one Tryd.underlying3 i2 rfl w
  have h5 : (part 4 #[.int .i64 x, .int .i64 y, .bool on] 2).run Tryd.prog w = .ok (.bool on) w := by kernel_rfl
  have h3 := int_self (P := Tryd.prog) Tryd.underlying3 9998 x w
  have h4 := int_self (P := Tryd.prog) Tryd.underlying3 9998 y w
  have h6 := bool_self (P := Tryd.prog) Tryd.underlying4 9998 on w
  rw [show (10000 : Nat) = 9999 + 1 from rfl, run_equalIn_struct (P := Tryd.prog) w 9999 30 _ _ (by kernel_rfl) (by kernel_rfl)]
  simp [Program.fieldsOf, Tryd.underlying30, Op.eqFields, Sem.run_bind, h1, h2, h3, h4, h5, h6]
set_option maxHeartbeats 2000000 in
theorem eqPts_calls (w : World) {V1 V2 : Value} {n : Nat} {xs : List (Int × Int × Bool)} (hx : xs.length = n) (h1 : SliceAt w w.heap.size 3 V1 n (dpC xs)) (h2 : SliceAt w w.heap.size 3 V2 n (dpC xs)) :
    Calls Tryd.prog 34 #[V1, V2] w (Ret fun r w' => r = .bool true ∧ Below w.heap.size w w') := by
  obtain ⟨A1, c1, rfl, hc1, hm1, hA1, hr1⟩ := h1
  obtain ⟨A2, c2, rfl, hc2, hm2, hA2, hr2⟩ := h2
  unfold maxLen at hm1 hm2
  have hS1 := hid (fun ad (e : A1 = some ad) w' hb i hi => dpt_below (w' := w') (i := i) hx (e ▸ hr1) hb hi)
  have hS2 := hid (fun ad (e : A2 = some ad) w' hb i hi => dpt_below (w' := w') (i := i) hx (e ▸ hr2) hb hi)
  have hs1 := hid (fun (h : 0 < n) => show ∃ ad, A1 = some ad by obtain ⟨ad, e, -⟩ := hr1.2 h; exact ⟨ad, e⟩)
  have hs2 := hid (fun (h : 0 < n) => show ∃ ad, A2 = some ad by obtain ⟨ad, e, -⟩ := hr2.2 h; exact ⟨ad, e⟩)
  clear hr1 hA1 hr2 hA2 hx
  go_enter Tryd.func34, Tryd.ntmps34
  go_wp2
  go_loopw [13] (fun i wr => ∃ k : Nat, k ≤ n ∧ i = .int .i64 k ∧ Hid (Own w wr [])) (fun i _ => n - (intOf i).toNat)
  case atStart => exact ⟨0, Nat.zero_le _, rfl, hid (Own.start w)⟩
  case round =>
    obtain ⟨k, hk, rfl, hb⟩ := hrel
    by_cases hlt : k < n
    · obtain ⟨a1, rfl⟩ := hs1.out (by omega)
      obtain ⟨a2, rfl⟩ := hs2.out (by omega)
      obtain ⟨k1, k2, k3⟩ := hS1.out a1 rfl wr hb.out.below k hlt
      obtain ⟨l1, l2, l3⟩ := hS2.out a2 rfl wr hb.out.below k hlt
      have heq := dpt_eq (pX xs k) (pY xs k) (pO xs k)
      generalize pX xs k = x at *
      generalize pY xs k = y at *
      generalize pO xs k = on at *
      go_upto_region 6 with fail
      go_quiet (fail)
      go_wp2_with fail
      go_roundw
      case rel => exact ⟨k + 1, by omega, by go_num, hid (hb.out.drewN _)⟩
      case measure => simp [intOf] <;> omega
    · obtain rfl : k = n := by omega
      go_wp2
      go_ret
      exact .mk ⟨rfl, hb.out.below⟩

theorem same1_calls (w : World) {V : Value} {n : Nat} {xs : List (Int × Int × Bool)} (hx : xs.length = n) (h1 : SliceAt w w.heap.size 3 V n (dpC xs)) :
    Calls Tryd.prog 33 #[V, V] w (Ret fun r w' => r = .bool true ∧ Below w.heap.size w w') := by
  have hE := hid (eqPts_calls w hx h1 h1)
  obtain ⟨A, c, rfl, -⟩ := h1
  go_enter Tryd.func33, Tryd.ntmps33
  go_wp2_with (go_at_call 34; (with_reducible refine hE.out.mono ?_); rintro _ w2 ⟨_, rfl, rfl, hb⟩; (have hbH := hid hb); clear hb)
  go_ret
  exact .mk ⟨rfl, hbH.out⟩
abbrev EQF : Value := .func (.func 33) #[] #[]
set_option maxHeartbeats 4000000 in
theorem eqf_one (w : World) {ad : Addr} {c : Nat} {V : Value} {n : Nat} {xs : List (Int × Int × Bool)} (hx : xs.length = n) (hR : SliceAt w w.heap.size 1 (.slice (some ad) 1 c) 1 [V]) (h1 : SliceAt w w.heap.size 3 V n (dpC xs)) :
    Calls Tryd.prog 32 #[.slice (some ad) 1 c, .slice (some ad) 1 c, EQF] w (Ret fun r w' => r = .bool true ∧ Below w.heap.size w w') := by
  have hS := hid (fun w1 (h : Below w.heap.size w w1) => same1_calls w1 hx (h1.below h))
  have hc := hid (fun w1 (h : Below w.heap.size w w1) => show w1.cell? ad = some V from by
    obtain ⟨A', c', he, -, -, -, hr⟩ := hR.below h
    injection he with e1 e2 e3
    subst e1
    obtain ⟨ad', e, h2⟩ := hr.cell (j := 0) (u := V) rfl
    injection e with e
    subst e
    simpa [Addr.add] using h2)
  obtain ⟨B, k, rfl, -⟩ := h1
  clear hR
  have hc0 := hc.out w (Below.refl _ _)
  go_enter Tryd.func32, Tryd.ntmps32
  go_wp2_with fail
  clear hc0
  go_loopw [17] (fun i wr => ∃ k : Nat, k ≤ 1 ∧ i = .int .i64 k ∧ Hid (Own w wr [])) (fun i _ => 1 - (intOf i).toNat)
  case atStart => exact ⟨0, Nat.zero_le _, rfl, hid (Own.start w)⟩
  case round =>
    obtain ⟨j, hj, rfl, hb⟩ := hrel
    by_cases hlt : j = 0
    · subst hlt
      have hc1 := hc.out wr hb.out.below
      have hS1 := hid (hS.out wr hb.out.below)
      go_wp2_with (go_at_call 33; (with_reducible refine hS1.out.mono ?_); rintro _ w2 ⟨_, rfl, rfl, hb2⟩; (have M2 := hid (hb.out.keep hb2)); clear hb2)
      go_roundw
      case rel => exact ⟨1, by omega, by go_num, M2⟩
      case measure => simp [intOf] <;> omega
    · obtain rfl : j = 1 := by omega
      clear hlt
      go_wp2_with fail
      go_ret
      exact .mk ⟨rfl, hb.out.below⟩
theorem eqf_nil (w : World) {ad : Addr} {c : Nat} : Calls Tryd.prog 32 #[.slice (some ad) 1 c, .slice none 0 0, EQF] w (Ret fun r w' => r = .bool false ∧ Below w.heap.size w w') := by
  go_enter Tryd.func32, Tryd.ntmps32
  go_wp2_with fail
  go_ret
  exact .mk ⟨rfl, Below.refl _ _⟩
theorem fsame_one (w : World) {ad : Addr} {c : Nat} {V : Value} {n : Nat} {xs : List (Int × Int × Bool)} (hx : xs.length = n) (hR : SliceAt w w.heap.size 1 (.slice (some ad) 1 c) 1 [V]) (h1 : SliceAt w w.heap.size 3 V n (dpC xs)) :
    Calls Tryd.prog 18 #[.slice (some ad) 1 c, .slice (some ad) 1 c] w (Ret fun r w' => r = .bool true ∧ Below w.heap.size w w') := by
  have hE := hid (eqf_one w hx hR h1)
  go_enter Tryd.func18, Tryd.ntmps18
  go_wp2_with (go_at_call 32; refine hE.out.mono ?_; rintro _ w2 ⟨_, rfl, rfl, hb⟩; (have hbH := hid hb); clear hb)
  go_ret
  exact .mk ⟨rfl, hbH.out⟩
theorem fsame_nil (w : World) {ad : Addr} {c : Nat} : Calls Tryd.prog 18 #[.slice (some ad) 1 c, .slice none 0 0] w (Ret fun r w' => r = .bool false ∧ Below w.heap.size w w') := by
  have hE := hid (eqf_nil w (ad := ad) (c := c))
  go_enter Tryd.func18, Tryd.ntmps18
  go_wp2_with (go_at_call 32; refine hE.out.mono ?_; rintro _ w2 ⟨_, rfl, rfl, hb⟩; (have hbH := hid hb); clear hb)
  go_ret
  exact .mk ⟨rfl, hbH.out⟩
end Go.Proofs.YtiedbfaehndooaaDoor
