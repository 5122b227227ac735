/- Package head: which bytes the document has right; two heads are alike just if they are the same. -/
import Derived.Test.YtigcbficlohbmaaDec05
import Derived.Test.YtigcbficlohbmaaHeadE
namespace Go.Proofs.Ytigcbficlohbmaa
open Go Go.RowKit
set_option linter.unusedVariables false
set_option linter.unusedSimpArgs false
set_option maxRecDepth 100000

theorem right_cases {l : List Int} (h0 : l.length = 54) :
    (n4 l 0 == 65536) = false ∧ hdOk l = false ∨ (n4 l 0 == 65536) = true ∧ ((n4 l 12 == 1594834165) = false ∧ hdOk l = false ∨ (n4 l 12 == 1594834165) = true ∧ (decide (n2 l 18 ≥ 16) = false ∧ hdOk l = false ∨ decide (n2 l 18 ≥ 16) = true ∧ (decide (n2 l 18 ≤ 16384) = false ∧ hdOk l = false ∨ decide (n2 l 18 ≤ 16384) = true ∧ (decide (n2 l 50 ≤ 1) = false ∧ hdOk l = false ∨ decide (n2 l 50 ≤ 1) = true ∧ ((n2 l 52 == 0) = hdOk l))))) := by
  have e : hdOk l = (n4 l 0 == 65536 && (n4 l 12 == 1594834165 && (decide (n2 l 50 ≤ 1) && (n2 l 52 == 0 && (decide (n2 l 18 ≥ 16) && decide (n2 l 18 ≤ 16384)))))) := by unfold hdOk; rw [h0]; rfl
  rw [e]
  generalize (n4 l 0 == 65536) = a
  generalize (n4 l 12 == 1594834165) = b
  generalize decide (n2 l 18 ≥ 16) = c
  generalize decide (n2 l 18 ≤ 16384) = d
  generalize decide (n2 l 50 ≤ 1) = f
  generalize (n2 l 52 == 0) = g
  cases a <;> cases b <;> cases c <;> cases d <;> cases f <;> cases g <;> simp

set_option maxHeartbeats 4000000 in
theorem hdRight_calls (w : World) {v : Value} {l : List Int} (hB : Bytes l) (h1 : BytesAt w v l) :
    Calls Try.prog 20 #[v] w (Ret fun r w' => r = .bool (hdOk l) ∧ Below w.heap.size w w') := by
  have hN1 := hid (fun w1 (h : Below w.heap.size w w1) => show Calls Try.prog 33 #[v, .int .i64 0] w1 _ from N4_calls w1 0 (by omega) hB (h1.below h))
  have hN2 := hid (fun w1 (h : Below w.heap.size w w1) => show Calls Try.prog 33 #[v, .int .i64 12] w1 _ from N4_calls w1 12 (by omega) hB (h1.below h))
  have hN3 := hid (fun w1 (h : Below w.heap.size w w1) => show Calls Try.prog 34 #[v, .int .i64 18] w1 _ from N2_calls w1 18 (by omega) hB (h1.below h))
  have hN4 := hid (fun w1 (h : Below w.heap.size w w1) => show Calls Try.prog 34 #[v, .int .i64 50] w1 _ from N2_calls w1 50 (by omega) hB (h1.below h))
  have hN5 := hid (fun w1 (h : Below w.heap.size w w1) => show Calls Try.prog 34 #[v, .int .i64 52] w1 _ from N2_calls w1 52 (by omega) hB (h1.below h))
  obtain ⟨A1, c1, rfl, hc1, hm1, hA1, hr1⟩ := h1
  unfold maxLen at hm1
  clear hr1 hA1 hB
  have hw0 := hid (Below.refl w.heap.size w)
  by_cases h54 : l.length = 54
  · have g0 : ((l.length : Int) != 54) = false := by rw [bne_eq_false_iff_eq]; omega
    have hq := right_cases h54
    generalize hdOk l = ok at *
    generalize decide (0 + 4 ≤ l.length) = d1 at *
    generalize decide (12 + 4 ≤ l.length) = d2 at *
    generalize decide (18 + 2 ≤ l.length) = d3 at *
    generalize decide (50 + 2 ≤ l.length) = d4 at *
    generalize decide (52 + 2 ≤ l.length) = d5 at *
    clear h54
    rcases hq with ⟨q1, q⟩ | ⟨q1, ⟨q2, q⟩ | ⟨q2, ⟨q3, q⟩ | ⟨q3, ⟨q4, q⟩ | ⟨q4, ⟨q5, q⟩ | ⟨q5, q⟩⟩⟩⟩⟩
    all_goals
      subst q
      go_enter Try.func20, Try.ntmps20
      go_wp2_with (first
        | (go_at_call 33; (with_reducible refine (hN1.out _ hw0.out).mono ?_); rintro _ w1 ⟨_, rfl, rfl, hw1⟩; (have hw1H := hid hw1); clear hw1)
        | (go_at_call 33; (with_reducible refine (hN2.out _ hw1H.out).mono ?_); rintro _ w2 ⟨_, rfl, rfl, hw2⟩; (have hw2H := hid (hw1H.out.trans (hw2.mono hw1H.out.size))); clear hw2)
        | (go_at_call 34; (with_reducible refine (hN3.out _ hw2H.out).mono ?_); rintro _ w3 ⟨_, rfl, rfl, hw3⟩; (have hw3H := hid (hw2H.out.trans (hw3.mono hw2H.out.size))); clear hw3)
        | (go_at_call 34; (with_reducible refine (hN4.out _ hw3H.out).mono ?_); rintro _ w4 ⟨_, rfl, rfl, hw4⟩; (have hw4H := hid (hw3H.out.trans (hw4.mono hw3H.out.size))); clear hw4)
        | (go_at_call 34; (with_reducible refine (hN5.out _ hw4H.out).mono ?_); rintro _ w5 ⟨_, rfl, rfl, hw5⟩; (have hw5H := hid (hw4H.out.trans (hw5.mono hw4H.out.size))); clear hw5))
      go_ret
      exact .mk ⟨rfl, hw5H.out⟩
  · have g0 : ((l.length : Int) != 54) = true := by rw [bne_iff_ne]; omega
    have q := (show hdOk l = false by
      have : (l.length == 54) = false := by simpa using h54
      unfold hdOk; rw [this]; rfl)
    clear h54 hN1 hN2 hN3 hN4 hN5
    generalize hdOk l = ok at *
    subst q
    go_enter Try.func20, Try.ntmps20
    go_wp2_with fail
    go_ret
    exact .mk ⟨rfl, hw0.out⟩

def hdEq (a b : Hd) : Bool := a.rv == b.rv && (a.adj == b.adj && (a.fl == b.fl && (a.un == b.un && (a.cr == b.cr && (a.md == b.md && (a.box == b.box && (a.st == b.st && (a.lo == b.lo && (a.hi == b.hi && a.lg == b.lg)))))))))
theorem hdEq_iff {a b : Hd} : hdEq a b = true ↔ a = b := by
  unfold hdEq
  simp only [Bool.and_eq_true, beq_iff_eq]
  constructor
  · rintro ⟨h1, h2, h3, h4, h5, h6, h7, h8, h9, h10, h11⟩
    have h7 : [a.b0, a.b1, a.b2, a.b3] = [b.b0, b.b1, b.b2, b.b3] := h7
    simp only [List.cons.injEq, and_true] at h7
    obtain ⟨g1, g2, g3, g4⟩ := h7
    cases a; cases b
    simp only at h1 h2 h3 h4 h5 h6 h8 h9 h10 h11 g1 g2 g3 g4
    subst h1 h2 h3 h4 h5 h6 h8 h9 h10 h11 g1 g2 g3 g4
    rfl
  · rintro rfl; simp
theorem head_eq (a b : Hd) (w : World) : (Op.equalIn 10000 29 (.agg (hdC a).toArray) (.agg (hdC b).toArray)).run Try.prog w = .ok (hdEq a b) w := by
  have pt : ∀ (h : Hd) {e : TypeId} {k : IntKind} (he : Try.prog.underlying e = some (.int k)) (hi : (Try.prog.info? e).map (·.size) = some 1) (i : Nat) (x : Int), (hdC h)[i]? = some (.int k x) → (part e (hdC h).toArray i).run Try.prog w = .ok (.int k x) w := fun h e k he hi i x hg => run_part_one he hi (by simpa using hg) w
  have u32i : (Try.prog.info? 24).map (·.size) = some 1 := by kernel_rfl
  have u16i : (Try.prog.info? 22).map (·.size) = some 1 := by kernel_rfl
  have u64i : (Try.prog.info? 25).map (·.size) = some 1 := by kernel_rfl
  have i16i := i16_info
  have pb : ∀ (h : Hd), (part 27 (hdC h).toArray 6).run Try.prog w = .ok (.agg (ints .i16 h.box).toArray) w := fun h => run_part_agg agg_box rfl (show 6 + 4 ≤ 14 by omega) w
  have pl : ∀ (h : Hd), (part 4 (hdC h).toArray 13).run Try.prog w = .ok (.bool h.lg) w := fun h => by
    have : (isAgg 4).run Try.prog w = .ok false w := by
      unfold isAgg
      rw [Sem.run_bind, run_underlying Try.underlying4 w]
      rfl
    simp [part, this, Sem.run_bind, hdC]
  have q32 := fun x y => int_eq (P := Try.prog) Try.underlying24 9998 x y w
  have q16 := fun x y => int_eq (P := Try.prog) Try.underlying22 9998 x y w
  have q64 := fun x y => int_eq (P := Try.prog) Try.underlying25 9998 x y w
  have qi := fun x y => int_eq (P := Try.prog) Try.underlying26 9998 x y w
  have qb := bool_eq (P := Try.prog) Try.underlying4 9998 a.lg b.lg w
  have qx := box_eq a b 9997 w
  have e : hdEq a b = (a.rv == b.rv && (a.adj == b.adj && (a.fl == b.fl && (a.un == b.un && (a.cr == b.cr && (a.md == b.md && (a.box == b.box && (a.st == b.st && (a.lo == b.lo && (a.hi == b.hi && a.lg == b.lg)))))))))) := rfl
  rw [show (10000 : Nat) = 9999 + 1 from rfl, run_equalIn_struct (P := Try.prog) w 9999 29 _ _ (by kernel_rfl) (by kernel_rfl)]
  rw [e]
  simp only [Program.fieldsOf, Try.underlying29]
  simp only [String.reduceNe, String.reduceEq, ne_eq, not_false_eq_true, if_true, Bool.not_true, Bool.false_eq_true, if_false, Bool.true_and, Op.eqFields, Sem.run_bind, pt a Try.underlying24 u32i 0 a.rv rfl, pt b Try.underlying24 u32i 0 b.rv rfl, Result.andThen_ok, q32]
  cases (a.rv == b.rv)
  · simp
  simp only [String.reduceNe, String.reduceEq, ne_eq, not_false_eq_true, if_true, Bool.not_true, Bool.false_eq_true, if_false, Bool.true_and, Op.eqFields, Sem.run_bind, pt a Try.underlying24 u32i 1 a.adj rfl, pt b Try.underlying24 u32i 1 b.adj rfl, Result.andThen_ok, q32]
  cases (a.adj == b.adj)
  · simp
  simp only [String.reduceNe, String.reduceEq, ne_eq, not_false_eq_true, if_true, Bool.not_true, Bool.false_eq_true, if_false, Bool.true_and, Op.eqFields, Sem.run_bind, pt a Try.underlying22 u16i 2 a.fl rfl, pt b Try.underlying22 u16i 2 b.fl rfl, Result.andThen_ok, q16]
  cases (a.fl == b.fl)
  · simp
  simp only [String.reduceNe, String.reduceEq, ne_eq, not_false_eq_true, if_true, Bool.not_true, Bool.false_eq_true, if_false, Bool.true_and, Op.eqFields, Sem.run_bind, pt a Try.underlying22 u16i 3 a.un rfl, pt b Try.underlying22 u16i 3 b.un rfl, Result.andThen_ok, q16]
  cases (a.un == b.un)
  · simp
  simp only [String.reduceNe, String.reduceEq, ne_eq, not_false_eq_true, if_true, Bool.not_true, Bool.false_eq_true, if_false, Bool.true_and, Op.eqFields, Sem.run_bind, pt a Try.underlying25 u64i 4 a.cr rfl, pt b Try.underlying25 u64i 4 b.cr rfl, Result.andThen_ok, q64]
  cases (a.cr == b.cr)
  · simp
  simp only [String.reduceNe, String.reduceEq, ne_eq, not_false_eq_true, if_true, Bool.not_true, Bool.false_eq_true, if_false, Bool.true_and, Op.eqFields, Sem.run_bind, pt a Try.underlying25 u64i 5 a.md rfl, pt b Try.underlying25 u64i 5 b.md rfl, Result.andThen_ok, q64]
  cases (a.md == b.md)
  · simp
  simp only [String.reduceNe, String.reduceEq, ne_eq, not_false_eq_true, if_true, Bool.not_true, Bool.false_eq_true, if_false, Bool.true_and, Op.eqFields, Sem.run_bind, pb, Result.andThen_ok, qx]
  cases (a.box == b.box)
  · simp
  simp only [String.reduceNe, String.reduceEq, ne_eq, not_false_eq_true, if_true, Bool.not_true, Bool.false_eq_true, if_false, Bool.true_and, Op.eqFields, Sem.run_bind, pt a Try.underlying22 u16i 10 a.st rfl, pt b Try.underlying22 u16i 10 b.st rfl, Result.andThen_ok, q16]
  cases (a.st == b.st)
  · simp
  simp only [String.reduceNe, String.reduceEq, ne_eq, not_false_eq_true, if_true, Bool.not_true, Bool.false_eq_true, if_false, Bool.true_and, Op.eqFields, Sem.run_bind, pt a Try.underlying22 u16i 11 a.lo rfl, pt b Try.underlying22 u16i 11 b.lo rfl, Result.andThen_ok, q16]
  cases (a.lo == b.lo)
  · simp
  simp only [String.reduceNe, String.reduceEq, ne_eq, not_false_eq_true, if_true, Bool.not_true, Bool.false_eq_true, if_false, Bool.true_and, Op.eqFields, Sem.run_bind, pt a Try.underlying26 i16i 12 a.hi rfl, pt b Try.underlying26 i16i 12 b.hi rfl, Result.andThen_ok, qi]
  cases (a.hi == b.hi)
  · simp
  simp only [String.reduceNe, String.reduceEq, ne_eq, not_false_eq_true, if_true, Bool.not_true, Bool.false_eq_true, if_false, Bool.true_and, Op.eqFields, Sem.run_bind, pl, Result.andThen_ok, qb]
  cases (a.lg == b.lg) <;> simp
theorem head_same (h : Hd) (w : World) : (Op.equalIn 10000 29 (.agg (hdC h).toArray) (.agg (hdC h).toArray)).run Try.prog w = .ok true w := by rw [head_eq, hdEq_iff.2 rfl]
end Go.Proofs.Ytigcbficlohbmaa
