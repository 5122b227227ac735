/- Layer 5: a table head as an argument; what its bytes are read as; two heads, alike or not. -/
import Derived.Test.YtigcbficlohbmaaOpen
import Derived.Test.YtigcbficlohbmaaEq
import Derived.Test.YtigcbficlohbmaaHeadC
namespace Go.Proofs.Ytigcbficlohbmaa
open Go Go.RowKit
set_option linter.unusedVariables false
set_option linter.unusedSimpArgs false
set_option maxRecDepth 100000

theorem n2_skip (p q : List Int) {k : Nat} (h : p.length ≤ k) : n2 (p ++ q) k = n2 q (k - p.length) := by
  have e0 : (p ++ q).getD k 0 = q.getD (k - p.length) 0 := by simp [List.getD, List.getElem?_append_right h]
  have e1 : (p ++ q).getD (k + 1) 0 = q.getD (k - p.length + 1) 0 := by
    simp [List.getD, List.getElem?_append_right (show p.length ≤ k + 1 by omega), show k + 1 - p.length = k - p.length + 1 by omega]
  unfold n2
  rw [List.length_append, e0, e1]
  by_cases c : k - p.length + 2 ≤ q.length
  · rw [if_pos c, if_pos (by omega)]
  · rw [if_neg c, if_neg (by omega)]
theorem n4_skip (p q : List Int) {k : Nat} (h : p.length ≤ k) : n4 (p ++ q) k = n4 q (k - p.length) := by
  unfold n4
  rw [List.length_append, n2_skip p q h, n2_skip p q (show p.length ≤ k + 2 by omega), show k + 2 - p.length = k - p.length + 2 by omega]
  by_cases c : k - p.length + 4 ≤ q.length
  · rw [if_pos c, if_pos (by omega)]
  · rw [if_neg c, if_neg (by omega)]
theorem n2_b2 (a : Int) (q : List Int) {k : Nat} (h : 2 ≤ k) : n2 (b2 a ++ q) k = n2 q (k - 2) := n2_skip (b2 a) q h
theorem n2_b4 (a : Int) (q : List Int) {k : Nat} (h : 4 ≤ k) : n2 (b4 a ++ q) k = n2 q (k - 4) := n2_skip (b4 a) q h
theorem n4_b2 (a : Int) (q : List Int) {k : Nat} (h : 2 ≤ k) : n4 (b2 a ++ q) k = n4 q (k - 2) := n4_skip (b2 a) q h
theorem n4_b4 (a : Int) (q : List Int) {k : Nat} (h : 4 ≤ k) : n4 (b4 a ++ q) k = n4 q (k - 4) := n4_skip (b4 a) q h
theorem n4_hd {x : Int} {s : List Int} (h0 : 0 ≤ x) (h1 : x < 4294967296) : n4 (b4 x ++ s) 0 = x := n4_app (p := []) rfl h0 h1
theorem n2_hd {x : Int} {s : List Int} (h0 : 0 ≤ x) (h1 : x < 65536) : n2 (b2 x ++ s) 0 = x := n2_app (p := []) rfl h0 h1
theorem hdB_flat (h : Hd) : hdB h = b4 65536 ++ (b4 h.rv ++ (b4 h.adj ++ (b4 1594834165 ++ (b2 h.fl ++ (b2 h.un ++ (b4 (h.cr / 4294967296 % 4294967296) ++ (b4 (h.cr % 4294967296) ++ (b4 (h.md / 4294967296 % 4294967296) ++ (b4 (h.md % 4294967296) ++ (b2 (h.b0 % 65536) ++ (b2 (h.b1 % 65536) ++ (b2 (h.b2 % 65536) ++ (b2 (h.b3 % 65536) ++ (b2 h.st ++ (b2 h.lo ++ (b2 (h.hi % 65536) ++ (b2 (lgI h.lg) ++ (b2 0 ++ [])))))))))))))))))) := by
  simp only [hdB, hdB3, hdB2, hdB1, b8, s2, Hd.box, List.flatMap_cons, List.flatMap_nil, List.append_assoc, List.nil_append, List.append_nil]
theorem hdB_n4_0 (h : Hd) : n4 (hdB h) 0 = 65536 := by rw [hdB_flat]; exact n4_hd (by omega) (by omega)
theorem hdB_n4_12 (h : Hd) : n4 (hdB h) 12 = 1594834165 := by rw [hdB_flat, n4_b4 _ _ (by omega), n4_b4 _ _ (by omega), n4_b4 _ _ (by omega)]; exact n4_hd (by omega) (by omega)
theorem lgI_bd (b : Bool) : 0 ≤ lgI b ∧ lgI b ≤ 1 := by cases b <;> decide
theorem hd_u32 (h : Hd) (O : h.ok) : n4 (hdB h) 4 = h.rv ∧ n4 (hdB h) 8 = h.adj := by
  rw [hdB_flat]
  refine ⟨?_, ?_⟩
  · rw [n4_b4 _ _ (by omega)]; exact n4_hd O.rv.1 O.rv.2
  · rw [n4_b4 _ _ (by omega), n4_b4 _ _ (by omega)]; exact n4_hd O.adj.1 O.adj.2
theorem hd_u64 (h : Hd) : n4 (hdB h) 20 = h.cr / 4294967296 % 4294967296 ∧ n4 (hdB h) 24 = h.cr % 4294967296 ∧ n4 (hdB h) 28 = h.md / 4294967296 % 4294967296 ∧ n4 (hdB h) 32 = h.md % 4294967296 := by
  rw [hdB_flat]
  refine ⟨?_, ?_, ?_, ?_⟩ <;> simp only [n4_b4, n4_b2, Nat.reduceLeDiff, Nat.reduceSub] <;> exact n4_hd (by omega) (by omega)
theorem hd_u16 (h : Hd) (O : h.ok) : n2 (hdB h) 16 = h.fl ∧ n2 (hdB h) 18 = h.un ∧ n2 (hdB h) 44 = h.st ∧ n2 (hdB h) 46 = h.lo ∧ n2 (hdB h) 50 = lgI h.lg ∧ n2 (hdB h) 52 = 0 := by
  rw [hdB_flat]
  have := lgI_bd h.lg
  refine ⟨?_, ?_, ?_, ?_, ?_, ?_⟩ <;> simp only [n2_b4, n2_b2, Nat.reduceLeDiff, Nat.reduceSub]
  · exact n2_hd O.fl.1 O.fl.2
  · exact n2_hd O.un.1 O.un.2
  · exact n2_hd O.st.1 O.st.2
  · exact n2_hd O.lo.1 O.lo.2
  · exact n2_hd (by omega) (by omega)
  · exact n2_hd (by omega) (by omega)
theorem hd_i16 (h : Hd) : n2 (hdB h) 36 = h.b0 % 65536 ∧ n2 (hdB h) 38 = h.b1 % 65536 ∧ n2 (hdB h) 40 = h.b2 % 65536 ∧ n2 (hdB h) 42 = h.b3 % 65536 ∧ n2 (hdB h) 48 = h.hi % 65536 := by
  rw [hdB_flat]
  refine ⟨?_, ?_, ?_, ?_, ?_⟩ <;> simp only [n2_b4, n2_b2, Nat.reduceLeDiff, Nat.reduceSub] <;> exact n2_hd (by omega) (by omega)
theorem hdOf_hdB {h : Hd} (O : h.ok) : hdOf (hdB h) = h := by
  obtain ⟨e1, e2⟩ := hd_u32 h O
  obtain ⟨e3, e4, g1, g2, g4, g5⟩ := hd_u16 h O
  obtain ⟨e5, e6, e7, e8⟩ := hd_u64 h
  obtain ⟨f0, f1, f2, f3, g3⟩ := hd_i16 h
  have c8 : n8 (hdB h) 20 = h.cr := by unfold n8; rw [e5, e6]; have := O.cr; omega
  have m8 : n8 (hdB h) 28 = h.md := by unfold n8; rw [e7, e8]; have := O.md; omega
  have lb : (lgI h.lg == 1) = h.lg := by cases h.lg <;> rfl
  unfold hdOf
  rw [e1, e2, e3, e4, c8, m8, f0, f1, f2, f3, g1, g2, g3, g4, lb, sgn_mod O.b0.1 O.b0.2, sgn_mod O.b1.1 O.b1.2, sgn_mod O.b2.1 O.b2.2, sgn_mod O.b3.1 O.b3.2, sgn_mod O.hi.1 O.hi.2]
theorem hdOk_hdB {h : Hd} (O : h.ok) : hdOk (hdB h) = h.right := by
  unfold hdOk
  obtain ⟨-, -, -, -, g4, g5⟩ := hd_u16 h O
  rw [hdB_length, hdB_n4_0, hdB_n4_12, g4, g5, hdOf_hdB O, decide_eq_true (lgI_bd h.lg).2]
  simp
theorem hdR_hdB {h : Hd} (O : h.ok) (hr : h.right = true) : hdR (hdB h) = h ∧ hdE (hdB h) = 0 := by
  have := hdOk_hdB O
  rw [hr] at this
  exact ⟨by unfold hdR; rw [if_pos this, hdOf_hdB O], by unfold hdE; rw [if_pos this]⟩

theorem take_join (l : List Int) (n m : Nat) : l.take n ++ (l.drop n).take m = l.take (n + m) := by rw [List.take_add]
theorem s2_sgn {n : Int} (h0 : 0 ≤ n) (h1 : n < 65536) : s2 (sgn n) = b2 n := by
  unfold s2 sgn
  split
  · rw [show (n - 65536) % 65536 = n by omega]
  · rw [Int.emod_eq_of_lt h0 h1]
theorem b8_n8 {l : List Int} (h : Bytes l) {a : Nat} (ha : a + 8 ≤ l.length) : b8 (n8 l a) = (l.drop a).take 8 := by
  have h1 := n4_bound h a
  have h2 := n4_bound h (a + 4)
  unfold b8 n8
  rw [show (4294967296 * n4 l a + n4 l (a + 4)) / 4294967296 % 4294967296 = n4 l a by omega, show (4294967296 * n4 l a + n4 l (a + 4)) % 4294967296 = n4 l (a + 4) by omega, b4_n4 h (by omega), b4_n4 h (by omega), ← List.drop_drop, take_join]
theorem hdOk_iff {l : List Int} : hdOk l = true ↔ l.length = 54 ∧ n4 l 0 = 65536 ∧ n4 l 12 = 1594834165 ∧ n2 l 50 ≤ 1 ∧ n2 l 52 = 0 ∧ (hdOf l).right = true := by
  unfold hdOk
  simp only [Bool.and_eq_true, beq_iff_eq, decide_eq_true_eq]
theorem hdOf_ok {l : List Int} (hB : Bytes l) : (hdOf l).ok := by
  have sg : ∀ k, -32768 ≤ sgn (n2 l k) ∧ sgn (n2 l k) < 32768 := fun k => by have := n2_bound hB k; unfold sgn; split <;> omega
  have e8 : ∀ k, 0 ≤ n8 l k ∧ n8 l k < 18446744073709551616 := fun k => by have := n4_bound hB k; have := n4_bound hB (k + 4); unfold n8; omega
  exact ⟨n4_bound hB _, n4_bound hB _, n2_bound hB _, n2_bound hB _, e8 _, e8 _, sg _, sg _, sg _, sg _, n2_bound hB _, n2_bound hB _, sg _⟩
theorem hdB_hdOf {l : List Int} (hB : Bytes l) (h : hdOk l = true) : hdB (hdOf l) = l := by
  obtain ⟨h1, h2, h3, h4, h5, -⟩ := hdOk_iff.1 h
  have hw := n2_bound hB 50
  have lg : lgI (n2 l 50 == 1) = n2 l 50 := by
    have : n2 l 50 = 0 ∨ n2 l 50 = 1 := by omega
    rcases this with e | e <;> rw [e] <;> rfl
  have e : hdB (hdOf l) = [] ++ b4 65536 ++ b4 (n4 l 4) ++ b4 (n4 l 8) ++ b4 1594834165 ++ b2 (n2 l 16) ++ b2 (n2 l 18) ++ b8 (n8 l 20) ++ b8 (n8 l 28) ++ (s2 (sgn (n2 l 36)) ++ (s2 (sgn (n2 l 38)) ++ (s2 (sgn (n2 l 40)) ++ (s2 (sgn (n2 l 42)) ++ [])))) ++ b2 (n2 l 44) ++ b2 (n2 l 46) ++ s2 (sgn (n2 l 48)) ++ b2 (lgI (n2 l 50 == 1)) ++ b2 0 := rfl
  rw [e, lg, ← h2, ← h3, ← h5, s2_sgn (n2_bound hB _).1 (n2_bound hB _).2, s2_sgn (n2_bound hB _).1 (n2_bound hB _).2, s2_sgn (n2_bound hB _).1 (n2_bound hB _).2, s2_sgn (n2_bound hB _).1 (n2_bound hB _).2, s2_sgn (n2_bound hB _).1 (n2_bound hB _).2]
  rw [b4_n4 hB (by omega), b4_n4 hB (by omega), b4_n4 hB (by omega), b4_n4 hB (by omega), b2_n2 hB (by omega), b2_n2 hB (by omega), b8_n8 hB (by omega), b8_n8 hB (by omega), b2_n2 hB (by omega), b2_n2 hB (by omega), b2_n2 hB (by omega), b2_n2 hB (by omega), b2_n2 hB (by omega), b2_n2 hB (by omega), b2_n2 hB (by omega), b2_n2 hB (by omega), b2_n2 hB (by omega)]
  simp only [List.append_nil, ← List.append_assoc]
  rw [show ([] : List Int) = l.take 0 from rfl]
  simp only [take_join, Nat.reduceAdd]
  exact List.take_of_length_le (by omega)
theorem hdR_of {l : List Int} (h : hdOk l = true) : hdR l = hdOf l ∧ hdE l = 0 ∧ (hdOf l).right = true :=
  ⟨if_pos h, if_pos h, (hdOk_iff.1 h).2.2.2.2.2⟩
theorem hdR_no {l : List Int} (h : hdOk l = false) : hdR l = hd0 ∧ hdE l = 2 := ⟨if_neg (by rw [h]; decide), if_neg (by rw [h]; decide)⟩
theorem hdB_inj {a b : Hd} (ha : a.ok) (hb : b.ok) (h : hdB a = hdB b) : a = b := by rw [← hdOf_hdB ha, h, hdOf_hdB hb]

theorem int_eq {P : Program} {e : TypeId} {k : IntKind} (he : P.underlying e = some (.int k)) (d : Nat) (a b : Int) (w : World) : (Op.equalIn (d + 1) e (.int k a) (.int k b)).run P w = .ok (a == b) w := by
  simp [Op.equalIn, run_underlying he, Sem.run_bind]
theorem bool_eq {P : Program} {e : TypeId} (he : P.underlying e = some .bool) (d : Nat) (a b : Bool) (w : World) : (Op.equalIn (d + 1) e (.bool a) (.bool b)).run P w = .ok (a == b) w := by
  simp [Op.equalIn, run_underlying he, Sem.run_bind]
theorem i16_info : (Try.prog.info? 26).map (·.size) = some 1 := by kernel_rfl
theorem box_eq (a b : Hd) (d : Nat) (w : World) : (Op.equalIn (d + 2) 27 (.agg (ints .i16 a.box).toArray) (.agg (ints .i16 b.box).toArray)).run Try.prog w = .ok (a.box == b.box) w := by
  have i16i := i16_info
  cases hq : Try.prog.info? 26 with
  | none => simp [hq] at i16i
  | some j =>
    have hs : Try.prog.cellsOf 26 = 1 := by simpa [hq, Program.cellsOf] using i16i
    rw [run_equalIn_array w (d + 1) _ _ Try.underlying27 hq, hs]
    have p : ∀ (h : Hd) (i : Nat) (x : Int), (ints .i16 h.box)[i]? = some (.int .i16 x) → (part 26 (ints .i16 h.box).toArray i).run Try.prog w = .ok (.int .i16 x) w := fun h i x hg => run_part_one Try.underlying26 i16i (by simpa using hg) w
    have q := fun x y => int_eq (P := Try.prog) Try.underlying26 d x y w
    rw [show List.range 4 = [0, 1, 2, 3] from rfl]
    have e : (a.box == b.box) = (a.b0 == b.b0 && (a.b1 == b.b1 && (a.b2 == b.b2 && a.b3 == b.b3))) := by
      show ([a.b0, a.b1, a.b2, a.b3] == [b.b0, b.b1, b.b2, b.b3]) = _
      simp [List.cons_beq_cons]
    rw [e]
    have ht : ¬ ((!true) = true) := by decide
    have hf : (!false) = true := rfl
    simp only [Op.eqItems, Nat.mul_one, Sem.run_bind, p a 0 a.b0 rfl, p b 0 b.b0 rfl, Result.andThen_ok, q]
    cases (a.b0 == b.b0)
    · simp
    simp only [Bool.not_true, Bool.false_eq_true, if_false, Bool.true_and, Op.eqItems, Nat.mul_one, Sem.run_bind, p a 1 a.b1 rfl, p b 1 b.b1 rfl, Result.andThen_ok, q]
    cases (a.b1 == b.b1)
    · simp
    simp only [Bool.not_true, Bool.false_eq_true, if_false, Bool.true_and, Op.eqItems, Nat.mul_one, Sem.run_bind, p a 2 a.b2 rfl, p b 2 b.b2 rfl, Result.andThen_ok, q]
    cases (a.b2 == b.b2)
    · simp
    simp only [Bool.not_true, Bool.false_eq_true, if_false, Bool.true_and, Op.eqItems, Nat.mul_one, Sem.run_bind, p a 3 a.b3 rfl, p b 3 b.b3 rfl, Result.andThen_ok, q]
    cases (a.b3 == b.b3) <;> simp
end Go.Proofs.Ytigcbficlohbmaa
