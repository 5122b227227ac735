/- Layer 7: HmtxParses. -/
import Derived.Test.YtpfgcadlgabaeaaHmtxE
namespace Go.Proofs.Ytpfgcadlgabaeaa
open Go Go.RowKit
set_option linter.unusedVariables false
set_option linter.unusedSimpArgs false
set_option maxRecDepth 10000

theorem sgn_bd {z : Int} (h0 : 0 ≤ z) (h1 : z < 65536) : -32768 ≤ sgn z ∧ sgn z < 32768 := by unfold sgn; split <;> omega
theorem pms_mets {l : List Int} (hB : Bytes l) (lo k : Nat) : Mets (pms l lo k) := by
  have e : ∀ i, i < (pms l lo k).length → (pms l lo k).getD i (0, 0) = pm l lo i := fun i hi => by
    rw [pms_length] at hi
    simp [pms, List.getD, hi]
  refine ⟨fun i hi => ?_, fun i hi => ?_⟩
  · unfold adv; rw [e i hi]; exact n2_bound hB _
  · unfold lft; rw [e i hi]; exact sgn_bd (n2_bound hB _).1 (n2_bound hB _).2

set_option maxHeartbeats 4000000 in
theorem hmtxParses_calls (w : World) {V : Value} {l0 : List Int} (h0 : BytesAt w V l0) (hB0 : Bytes l0) {lo' g' : Int} (a0 : 0 ≤ lo') (a1 : lo' < 65536) (b0 : 0 ≤ g') (b1 : g' < 65536) :
    Calls Try.prog 6 #[V, .int .u16 lo', .int .u16 g'] w (Ret fun r w' => r = .bool true ∧ Below w.heap.size w w') := by
  obtain ⟨lo, rfl⟩ : ∃ n : Nat, lo' = (n : Int) := ⟨lo'.toNat, by omega⟩
  obtain ⟨g, rfl⟩ : ∃ n : Nat, g' = (n : Int) := ⟨g'.toNat, by omega⟩
  have M0 := hid (Own.start w)
  have hB := hB0.take 100
  have hln : (l0.take 100).length ≤ 100 := by rw [List.length_take]; omega
  have hCut := hid (fun w1 (hb : Below w.heap.size w w1) => cut_calls w1 100 (by omega) (h0.below hb) (by omega))
  obtain ⟨A0, c0', rfl, hc0, hm0, -⟩ := h0
  unfold maxLen at hm0
  clear hB0
  generalize l0.take 100 = l at *
  by_cases harg : lo = 0 ∨ lo > g
  · have hP := hid (fun w A c => hmParse_arg (V := .bool true) (n := l.length) (A := A) (c := c) w (lo := lo) (g := g) (by omega) (by omega) harg)
    clear hB hln
    rcases harg with rfl | hgt
    · go_enter Try.func6, Try.ntmps6
      go_wp2_with (first
        | (go_at_call 8; refine (awake_calls _).mono ?_; rintro _ w2 ⟨_, rfl, rfl, hb⟩; (have M2 := hid (M0.out.keep hb)); clear hb)
        | (go_at_call 11; refine (hCut.out _ M2.out.below).mono ?_; rintro _ w3 ⟨_, rfl, M⟩; obtain ⟨A, c, rfl⟩ := M.form (.head _); (have M3 := hid (M2.out.lift M)); clear M)
        | (go_at_call 20; refine (hP.out _ _ _).mono ?_; rintro _ w4 ⟨_, rfl, rfl, hb⟩; (have M4 := hid (M3.out.keep hb)); clear hb))
      go_ret
      exact .mk ⟨rfl, M4.out.below⟩
    · by_cases hz : lo = 0
      · omega
      · have e1 : ((lo : Int) == 0) = false := by rw [beq_eq_false_iff_ne]; omega
        have e2 : (lo : Int) > g := by omega
        go_enter Try.func6, Try.ntmps6
        go_wp2_with (first
          | (go_at_call 8; refine (awake_calls _).mono ?_; rintro _ w2 ⟨_, rfl, rfl, hb⟩; (have M2 := hid (M0.out.keep hb)); clear hb)
          | (go_at_call 11; refine (hCut.out _ M2.out.below).mono ?_; rintro _ w3 ⟨_, rfl, M⟩; obtain ⟨A, c, rfl⟩ := M.form (.head _); (have M3 := hid (M2.out.lift M)); clear M)
          | (go_at_call 20; refine (hP.out _ _ _).mono ?_; rintro _ w4 ⟨_, rfl, rfl, hb⟩; (have M4 := hid (M3.out.keep hb)); clear hb))
        go_ret
        exact .mk ⟨rfl, M4.out.below⟩
  · have e1 : ((lo : Int) == 0) = false := by rw [beq_eq_false_iff_ne]; omega
    have e2 : ¬ ((lo : Int) > g) := by omega
    have n1 : lo < 65536 := by omega
    have n2 : g < 65536 := by omega
    have n3 : lo ≤ g := by omega
    have n4 : 1 ≤ lo := by omega
    clear a0 a1 b0 b1
    by_cases hf : l.length = 2 * lo + 2 * g
    · have hP := hid (fun w V (h : BytesAt w V l) => hmParse_yes w h hB (by omega) (lo := lo) (g := g) (by omega) (by omega) (by omega) hf)
      have hQ := hid (fun w V (h : BytesAt w V l) => refParse_yes w h hB (lo := lo) (g := g) (by omega) (by omega) (by omega) hf)
      have hms := pms_mets hB lo g
      have hpl := pms_length l lo g
      have hg : g ≤ 49 := by omega
      have ht : (pms l lo g).take 60 = pms l lo g := List.take_of_length_le (by omega)
      have hFw := hid (fun w V (h : SliceAt w w.heap.size 2 V g (mtC (pms l lo g))) => show Calls Try.prog 9 #[V] w (Ret fun r w' => ∃ v x, r = .tuple #[v, x] ∧ Own w w' [.row 31 2 v g (mtC (pms l lo g)), .row 58 2 x g (rmC (pms l lo g))]) from by
        have := few_calls w (ms := pms l lo g) (by rw [hpl]; exact h) hms
        rw [ht, hpl] at this
        exact this)
      replace hpl := hid hpl
      clear hB hln harg hf hms ht
      generalize pms l lo g = ms at *
      have f1 : (g : Int) ≤ 60 := by omega
      have f2 : (g : Int) < 60 := by omega
      have f3 : min (g : Int) 60 = g := by omega
      have f4 : g ≤ 60 := by omega
      have f5 : ¬ ((60 : Int) < g) := by omega
      go_enter Try.func6, Try.ntmps6
      go_wp2_with (first
        | (go_at_call 8; refine (awake_calls _).mono ?_; rintro _ w2 ⟨_, rfl, rfl, hb⟩; (have M2 := hid (M0.out.keep hb)); clear hb)
        | (go_at_call 11; refine (hCut.out _ M2.out.below).mono ?_; rintro _ w3 ⟨_, rfl, M⟩; obtain ⟨A, c, rfl⟩ := M.form (.head _); (have M3 := hid (M2.out.lift M)); clear M)
        | (go_at_call 20; refine (hP.out _ _ (M3.out.slice (e := 5) (.head _))).mono ?_; rintro _ w4 ⟨_, rfl, v4, rfl, M⟩; obtain ⟨A4, c4, rfl⟩ := M.form (.head _); (have M4 := hid (M3.out.lift M)); clear M)
        | (go_at_call 22; refine (hQ.out _ _ (M4.out.slice (e := 5) (v := .slice A l.length c) (xs := ints .u8 l) (n := l.length) (by simp))).mono ?_; rintro _ w5 ⟨_, rfl, v5, rfl, M⟩; obtain ⟨A5, c5, rfl⟩ := M.form (.head _); (obtain ⟨A9, c9, he, hc9, hm9, -, -⟩ := M.slice (e := 58) (sz := 2) (v := .slice A5 g c5) (n := g) (xs := rmC ms) (.head _)); (injection he with he1 he2 he3); subst he3; clear he1 he2; unfold maxLen at hm9; (have M5 := hid (M4.out.lift M)); clear M)
        | (go_at_call 9; refine (hFw.out _ _ (M5.out.slice (e := 31) (sz := 2) (v := .slice A4 g c4) (n := g) (xs := mtC ms) (by simp))).mono ?_; rintro _ w6 ⟨_, rfl, v6, x6, rfl, M⟩; obtain ⟨A6, c6, rfl⟩ := M.form (.head _); obtain ⟨A7, c7, rfl⟩ := M.form (.tail _ (.head _)); (have M6 := hid (M5.out.lift M)); clear M)
        | (go_at_call 23; refine (eqRefs_calls _ hpl.out (M6.out.slice (e := 58) (sz := 2) (v := .slice A7 g c7) (n := g) (xs := rmC ms) (by simp)) (M6.out.slice (e := 58) (sz := 2) (v := .slice A5 g c5) (n := g) (xs := rmC ms) (by simp))).mono ?_; rintro _ w7 ⟨_, rfl, rfl, hb⟩; (have M7 := hid (M6.out.keep hb)); clear hb))
      go_ret
      exact .mk ⟨rfl, M7.out.below⟩
    · have hP := hid (fun w A c => hmParse_form (n := l.length) (A := A) (c := c) w (lo := lo) (g := g) (by omega) (by omega) (by omega) hf)
      have hQ := hid (fun w A c => refParse_no (n := l.length) (A := A) (c := c) w (lo := lo) (g := g) (by omega) (by omega) hf)
      clear hB hln harg hf
      go_enter Try.func6, Try.ntmps6
      go_wp2_with (first
        | (go_at_call 8; refine (awake_calls _).mono ?_; rintro _ w2 ⟨_, rfl, rfl, hb⟩; (have M2 := hid (M0.out.keep hb)); clear hb)
        | (go_at_call 11; refine (hCut.out _ M2.out.below).mono ?_; rintro _ w3 ⟨_, rfl, M⟩; obtain ⟨A, c, rfl⟩ := M.form (.head _); (have M3 := hid (M2.out.lift M)); clear M)
        | (go_at_call 20; refine (hP.out _ _ _).mono ?_; rintro _ w4 ⟨_, rfl, rfl, hb⟩; (have M4 := hid (M3.out.keep hb)); clear hb)
        | (go_at_call 22; refine (hQ.out _ _ _).mono ?_; rintro _ w5 ⟨_, rfl, rfl, hb⟩; (have M5 := hid (M4.out.keep hb)); clear hb))
      go_ret
      exact .mk ⟨rfl, M5.out.below⟩
end Go.Proofs.Ytpfgcadlgabaeaa
