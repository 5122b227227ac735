/- Package simple: changes and flags are laid. -/
import Derived.Test.YtiedbfaehndooaaDoorSimpA
import Derived.Test.YtiedbfaehndooaaDoorBaseM
namespace Go.Proofs.YtiedbfaehndooaaDoor
open Go Go.RowKit
set_option linter.unusedVariables false
set_option linter.unusedSimpArgs false
set_option maxRecDepth 100000

abbrev or8 (a b : Int) : Int := bits .or .u8 a b
/-- A change's bytes, and its flags. -/
def layB (n : Int) : List Int := if n = 0 then [] else if 0 < n ∧ n ≤ 255 then [n] else if n < 0 ∧ -255 ≤ n then [-n] else b2 (n % 65536)
def layF (n sh sa : Int) : Int := if n = 0 then sa else if 0 < n ∧ n ≤ 255 then or8 sh sa else if n < 0 ∧ -255 ≤ n then sh else 0
theorem layB_length (n : Int) : (layB n).length ≤ 2 := by
  unfold layB; split
  · simp
  · split
    · simp
    · split <;> simp [b2_length]

section
variable {W0 w : World} {L1 L : List Ent} {b : Nat} {v : Value} {l : List Int}
set_option maxHeartbeats 1000000 in
theorem lay_calls {n : Int} (sh sa : Int) (h : I16 n) (hl : l.length + 2 ≤ 140737488355328) (M : Own W0 w (L1 ++ (wrE b v l ++ L))) :
    Calls Tryd.prog 27 #[.pointer (some ⟨b, 0, none⟩), .int .i64 n, .int .u8 sh, .int .u8 sa] w (Ret fun r w' => r = .int .u8 (layF n sh sa) ∧ ∃ v', Own W0 w' (L1 ++ (wrE b v' (l ++ layB n) ++ L))) := by
  obtain ⟨h0, h1⟩ := h
  have MH := hid M
  clear M
  rcases (by omega : n = 0 ∨ (0 < n ∧ n ≤ 255) ∨ 255 < n ∨ (n < 0 ∧ -255 ≤ n) ∨ n < -255) with rfl | ⟨q1, q2⟩ | q1 | ⟨q1, q2⟩ | q1
  · go_enter Tryd.func27, Tryd.ntmps27
    go_wp2
    go_ret
    exact .mk ⟨rfl, v, by have := MH.out; simpa [layB] using this⟩
  · have e1 := hid (show layF n sh sa = or8 sh sa by unfold layF; rw [if_neg (by omega), if_pos ⟨q1, q2⟩])
    have e2 := hid (show layB n = [n] by unfold layB; rw [if_neg (by omega), if_pos ⟨q1, q2⟩])
    have n0 : (n == 0) = false := by rw [beq_eq_false_iff_ne]; omega
    go_enter Tryd.func27, Tryd.ntmps27
    go_wp2_with (go_at_call 41; (with_reducible refine (wr_U8 (n := n) (by omega) (by omega) (by omega) MH.out).mono ?_); rintro _ w2 ⟨_, rfl, rfl, v2, M⟩; (have M2 := hid M); clear M)
    go_ret
    exact .mk ⟨by rw [e1.out]; rfl, v2, by rw [e2.out]; exact M2.out⟩
  · have e1 := hid (show layF n sh sa = 0 by unfold layF; rw [if_neg (by omega), if_neg (by omega), if_neg (by omega)])
    have e2 := hid (show layB n = b2 (n % 65536) by unfold layB; rw [if_neg (by omega), if_neg (by omega), if_neg (by omega)])
    have n0 : (n == 0) = false := by rw [beq_eq_false_iff_ne]; omega
    have n1 : ¬ n ≤ 255 := by omega
    have n2 : ¬ n < 0 := by omega
    go_enter Tryd.func27, Tryd.ntmps27
    go_wp2_with (go_at_call 23; (with_reducible refine (wr_I16 (n := n) (by omega) (by omega) (by omega) MH.out).mono ?_); rintro _ w2 ⟨_, rfl, rfl, v2, M⟩; (have M2 := hid M); clear M)
    go_ret
    exact .mk ⟨by rw [e1.out]; rfl, v2, by rw [e2.out]; exact M2.out⟩
  · have e1 := hid (show layF n sh sa = sh by unfold layF; rw [if_neg (by omega), if_neg (by omega), if_pos ⟨q1, q2⟩])
    have e2 := hid (show layB n = [-n] by unfold layB; rw [if_neg (by omega), if_neg (by omega), if_pos ⟨q1, q2⟩])
    have n0 : (n == 0) = false := by rw [beq_eq_false_iff_ne]; omega
    have n1 : ¬ n > 0 := by omega
    have n2 : n ≥ -255 := by omega
    go_enter Tryd.func27, Tryd.ntmps27
    go_wp2_with (go_at_call 41; (with_reducible refine (wr_U8 (n := -n) (by omega) (by omega) (by omega) MH.out).mono ?_); rintro _ w2 ⟨_, rfl, rfl, v2, M⟩; (have M2 := hid M); clear M)
    go_ret
    exact .mk ⟨by rw [e1.out]; rfl, v2, by rw [e2.out]; exact M2.out⟩
  · have e1 := hid (show layF n sh sa = 0 by unfold layF; rw [if_neg (by omega), if_neg (by omega), if_neg (by omega)])
    have e2 := hid (show layB n = b2 (n % 65536) by unfold layB; rw [if_neg (by omega), if_neg (by omega), if_neg (by omega)])
    have n0 : (n == 0) = false := by rw [beq_eq_false_iff_ne]; omega
    have n1 : ¬ n > 0 := by omega
    have n2 : ¬ n ≥ -255 := by omega
    have n3 : n < 0 := by omega
    go_enter Tryd.func27, Tryd.ntmps27
    go_wp2_with (go_at_call 23; (with_reducible refine (wr_I16 (n := n) (by omega) (by omega) (by omega) MH.out).mono ?_); rintro _ w2 ⟨_, rfl, rfl, v2, M⟩; (have M2 := hid M); clear M)
    go_ret
    exact .mk ⟨by rw [e1.out]; rfl, v2, by rw [e2.out]; exact M2.out⟩
end

/-! ## flags in a row -/
def runL (f : Int) : List Int → Nat
  | [] => 0
  | x :: l => if x = f then runL f l + 1 else 0
def rn : List Int → Nat
  | [] => 0
  | f :: t => 1 + min 255 (runL f t)
theorem runL_spec (f : Int) : ∀ t : List Int, runL f t ≤ t.length ∧ (∀ j, j < runL f t → t.getD j 0 = f) ∧ (runL f t < t.length → t.getD (runL f t) 0 ≠ f)
  | [] => ⟨Nat.le_refl _, fun j hj => absurd hj (by simp [runL]), fun h => absurd h (by simp [runL])⟩
  | x :: t => by
    obtain ⟨h1, h2, h3⟩ := runL_spec f t
    unfold runL
    split
    · rename_i hx
      refine ⟨by simp; omega, fun j hj => ?_, fun h => ?_⟩
      · cases j with
        | zero => simpa using hx
        | succ j => simpa using h2 j (by omega)
      · simpa using h3 (by simp at h; omega)
    · rename_i hx
      exact ⟨by simp, fun j hj => absurd hj (by omega), fun _ => by simpa using hx⟩
theorem rn_of {l : List Int} {i : Nat} (h0 : 1 ≤ i) (h1 : i ≤ l.length) (h2 : i ≤ 256) (h3 : ∀ j, j < i → l.getD j 0 = l.getD 0 0) (h4 : i = l.length ∨ i = 256 ∨ l.getD i 0 ≠ l.getD 0 0) : rn l = i := by
  match l, h1, h3, h4 with
  | [], h1, _, _ => simp at h1; omega
  | f :: t, h1, h3, h4 =>
    obtain ⟨s1, s2, s3⟩ := runL_spec f t
    have e : ∀ j, (f :: t).getD (j + 1) 0 = t.getD j 0 := fun j => by simp
    have e0 : (f :: t).getD 0 0 = f := rfl
    rw [e0] at h3 h4
    have hl : (f :: t).length = t.length + 1 := rfl
    rw [hl] at h1 h4
    obtain ⟨k, rfl⟩ : ∃ k, i = k + 1 := ⟨i - 1, by omega⟩
    have hk : k ≤ runL f t := by
      rcases Nat.lt_or_ge (runL f t) k with h | h
      · have a := h3 (runL f t + 1) (by omega)
        rw [e] at a
        exact absurd a (s3 (by omega))
      · exact h
    show 1 + min 255 (runL f t) = k + 1
    by_cases hr : k = runL f t
    · rw [← hr]; omega
    · by_cases h5 : k = 255
      · omega
      · rcases h4 with h4 | h4 | h4
        · omega
        · omega
        · rw [e] at h4
          exact absurd (s2 k (by omega)) h4
theorem rn_pos (f : Int) (t : List Int) : 1 ≤ rn (f :: t) := by show 1 ≤ 1 + _; omega
theorem rn_le : ∀ l : List Int, rn l ≤ l.length ∧ rn l ≤ 256
  | [] => ⟨Nat.le_refl _, by show 0 ≤ 256; omega⟩
  | f :: t => by
    have := (runL_spec f t).1
    refine ⟨?_, ?_⟩
    · show 1 + min 255 (runL f t) ≤ t.length + 1; omega
    · show 1 + min 255 (runL f t) ≤ 256; omega
def rowE (l : List Int) : List Int := if rn l > 1 then [or8 (l.getD 0 0) 8, (rn l : Int) - 1] else [l.getD 0 0]
def rowsF : Nat → List Int → List Int
  | 0, _ => []
  | _ + 1, [] => []
  | k + 1, f :: t => rowE (f :: t) ++ rowsF k ((f :: t).drop (rn (f :: t)))
def rowsB (l : List Int) : List Int := rowsF l.length l
theorem rowsF_fuel : ∀ (k : Nat) (l : List Int), l.length ≤ k → rowsF k l = rowsF l.length l
  | 0, [], _ => rfl
  | 0, _ :: _, h => by simp at h
  | _ + 1, [], _ => rfl
  | k + 1, f :: t, h => by
    have hp := rn_pos f t
    show rowE (f :: t) ++ rowsF k ((f :: t).drop (rn (f :: t))) = rowE (f :: t) ++ rowsF t.length ((f :: t).drop (rn (f :: t)))
    have hd : ((f :: t).drop (rn (f :: t))).length ≤ t.length := by rw [List.length_drop]; simp; omega
    simp at h
    rw [rowsF_fuel k _ (by omega), rowsF_fuel t.length _ hd]
theorem rowsB_cons {l : List Int} (h : 0 < l.length) : rowsB l = rowE l ++ rowsB (l.drop (rn l)) := by
  match l, h with
  | f :: t, _ =>
    have hp := rn_pos f t
    show rowE (f :: t) ++ rowsF t.length ((f :: t).drop (rn (f :: t))) = _
    rw [rowsF_fuel t.length _ (by rw [List.length_drop]; simp; omega)]; rfl
theorem rowE_length (l : List Int) : (rowE l).length ≤ 2 := by unfold rowE; split <;> simp

def sLen (v : Value) : Nat := match v with | .slice _ n _ => n | _ => 0
section
variable {W0 w : World} {L1 L : List Ent} {b : Nat} {v V : Value} {l0 l : List Int}
theorem or8_bd (a b : Int) : 0 ≤ or8 a b ∧ or8 a b < 256 := wf_u8 (wf_bits _ _ _ _)
theorem getD_drop' (l : List Int) (d i : Nat) : (l.drop d).getD i 0 = l.getD (d + i) 0 := by simp [List.getD, List.getElem?_drop]
/-- The row begins anew behind a run. -/
theorem rows_next {l l0 done : List Int} {d i n : Nat} (hr : rowsB l = done ++ rowsB (l.drop d)) (hd : done.length ≤ 2 * d) (hl : d < l.length) (hi : rn (l.drop d) = i) :
    rowsB l = (done ++ rowE (l.drop d)) ++ rowsB (l.drop (d + i)) ∧ (done ++ rowE (l.drop d)).length ≤ 2 * (d + i) := by
  have h1 : 0 < (l.drop d).length := by rw [List.length_drop]; omega
  have h2 : 1 ≤ i := by
    rw [← hi]
    match h : l.drop d, h1 with
    | f :: t, _ => exact rn_pos f t
  refine ⟨?_, ?_⟩
  · rw [hr, rowsB_cons h1, hi, List.drop_drop, List.append_assoc]
  · have := rowE_length (l.drop d)
    rw [List.length_append]; omega
theorem Reads.tail {w : World} {B : Nat} {ad : Addr} {n c i : Nat} {q : List Int} (h : Reads w B 1 (some ad) n (ints .u8 q)) (hi : i ≤ n) (hc : n ≤ c) : Reads w B 1 (if c = i then some ad else some (ad.add i)) (n - i) (ints .u8 (q.drop i)) := by
  have hl := h.1
  rw [ints_length] at hl
  have := h.cut (i := i) (j := n) (cap := c) hi (Nat.le_refl _) hc
  simp only [Nat.mul_one, Option.map_some] at this
  rw [List.take_of_length_le (by rw [List.length_drop, ints_length]; omega)] at this
  rw [show ints IntKind.u8 (q.drop i) = (ints .u8 q).drop i by simp [ints, List.map_drop]]
  exact this

set_option maxHeartbeats 8000000 in
theorem rows_calls {n : Nat} (hV : ∀ w' v' l', Own W0 w' (L1 ++ (wrE b v' l' ++ L)) → SliceAt w' w'.heap.size 1 V n (ints .u8 l)) (hn : l.length = n) (hl : l0.length + 2 * n ≤ 140737488355328) (hB : Bytes l) (M : Own W0 w (L1 ++ (wrE b v l0 ++ L))) :
    Calls Tryd.prog 28 #[.pointer (some ⟨b, 0, none⟩), V] w (Ret fun r w' => ∃ v', Own W0 w' (L1 ++ (wrE b v' (l0 ++ rowsB l) ++ L))) := by
  -- the bytes that are read lie in the world as it was
  obtain ⟨A, c, rfl, hc, hm, -, -⟩ := hV w _ _ M
  unfold maxLen at hm
  have hRd := hid (fun w' v' l' (M : Own W0 w' (L1 ++ (wrE b v' l' ++ L))) => show Reads w' w'.heap.size 1 A n (ints .u8 l) from by
    obtain ⟨A9, c9, he, -, -, -, hr⟩ := hV w' v' l' M
    injection he with he1 he2 he3
    subst he1
    exact hr)
  have MH := hid M
  have hBH := hid (fun k => hB.get k)
  have hl0 := hid hl
  have hnH := hid hn
  clear M hB hV hl hn
  go_enter Tryd.func28, Tryd.ntmps28
  go_wp2
  go_loopw [1] (fun s wr => ∃ (d n' c' : Nat) (A' : Option Addr) (v' : Value) (done : List Int), d + n' = n ∧ s = .slice A' n' c' ∧ n' ≤ c' ∧ c' ≤ 2 ^ 63 - 1 ∧ Hid (∀ w' B, Reads w' B 1 A n (ints .u8 l) → Reads w' B 1 A' n' (ints .u8 (l.drop d))) ∧ Hid (rowsB l = done ++ rowsB (l.drop d)) ∧ Hid (done.length ≤ 2 * d) ∧ Hid (Own W0 wr (L1 ++ (wrE b v' (l0 ++ done) ++ L)))) (fun s _ => sLen s)
  case atStart => exact ⟨0, n, c, A, v, [], by omega, rfl, hc, hm, hid (fun _ _ h => h), hid rfl, hid (Nat.zero_le _), hid (by rw [List.append_nil]; exact MH.out)⟩
  case round =>
    clear MH
    obtain ⟨d, n', c', A', v', done, hdn, rfl, hnc, hcm, hrd, hrows, hdl, MR⟩ := hrel
    by_cases h0 : n' = 0
    · subst h0
      have he := hid (show rowsB l = done by rw [hrows.out, List.drop_of_length_le (by rw [hnH.out]; omega)]; simp [rowsB, rowsF])
      go_wp2
      go_end0
      exact .mk ⟨v', by rw [he.out]; exact MR.out⟩
    · have hll := hid (show (l.drop d).length = n' by rw [List.length_drop, hnH.out]; omega)
      obtain ⟨ad, rfl⟩ : ∃ ad, A' = some ad := by obtain ⟨ad, e, -⟩ := (hrd.out _ _ (hRd.out _ _ _ MR.out)).2 (by omega); exact ⟨ad, e⟩
      have hcell := hid (fun w' v' l' (M : Own W0 w' (L1 ++ (wrE b v' l' ++ L))) i (hi : i < n') => show w'.cell? (ad.add i) = some (.int .u8 ((l.drop d).getD i 0)) from by
        obtain ⟨a0, he, q0⟩ := (hrd.out _ _ (hRd.out _ _ _ M)).cell (ints_get .u8 (l.drop d) i (by rw [hll.out]; exact hi))
        injection he with he; subst he
        exact q0)
      obtain ⟨y, hy⟩ : ∃ y, (l.drop d).getD 0 0 = y := ⟨_, rfl⟩
      have hyb : 0 ≤ y ∧ y < 256 := by rw [← hy, getD_drop']; exact hBH.out _
      replace hy := hid hy
      have gn : (n' : Int) > 0 := by omega
      go_wp2_with fail
      go_loopw [4] (fun s4 wr => ∃ i : Nat, 1 ≤ i ∧ i ≤ n' ∧ i ≤ 256 ∧ s4 = .int .i64 i ∧ Hid (∀ j, j < i → (l.drop d).getD j 0 = (l.drop d).getD 0 0) ∧ Hid (Own W0 wr (L1 ++ (wrE b v' (l0 ++ done) ++ L)))) (fun s4 _ => 256 - (intOf s4).toNat)
      case atStart => exact ⟨1, by omega, by omega, by omega, rfl, hid (fun j hj => by rw [show j = 0 by omega]), MR⟩
      case round =>
        clear MR
        obtain ⟨i, hi1, hin, hi256, rfl, hsame, MI⟩ := hrel
        have cy := hcell.out _ _ _ MI.out 0 (by omega)
        rw [add_0, hy.out] at cy
        by_cases hlt : i < n'
        · by_cases h255 : i ≤ 255
          · have cx := hcell.out _ _ _ MI.out i hlt
            have hst := hid (fun (h : (l.drop d).getD i 0 = y) j (hj : j < i + 1) => show (l.drop d).getD j 0 = (l.drop d).getD 0 0 from by
              by_cases e : j = i
              · rw [e, h, hy.out]
              · exact hsame.out j (by omega))
            obtain ⟨x, hx⟩ : ∃ x, (l.drop d).getD i 0 = x := ⟨_, rfl⟩
            rw [hx] at cx hst
            have g1 : (i : Int) < n' := by omega
            have g2 : (i : Int) ≤ 255 := by omega
            replace hx := hid hx
            rcases Bool.eq_false_or_eq_true (x == y) with e | e
            · have hst2 := hid (hst.out (by simpa using e))
              go_upto_region 2 with fail
              go_quiet (fail)
              go_wp2_with fail
              go_roundw
              case rel => exact ⟨i + 1, by omega, by omega, by omega, by go_num, hst2, hid (MI.out.drewN _)⟩
              case measure => simp [intOf] <;> omega
            · have hne2 := hid (show (l.drop d).getD i 0 ≠ (l.drop d).getD 0 0 from by rw [hx.out, hy.out]; simpa using e)
              -- the run has i bytes
              have hrn := hid (rn_of (l := l.drop d) hi1 (by rw [hll.out]; omega) (by omega) hsame.out (.inr (.inr hne2.out)))
              have hnx := hid (rows_next (l0 := l0) (n := n) hrows.out hdl.out (by rw [hnH.out]; omega) hrn.out)
              have hrE := hid (show rowE (l.drop d) = if i > 1 then [or8 y 8, (i : Int) - 1] else [y] by unfold rowE; rw [hrn.out, hy.out])
              have hlen := hid (show (l0 ++ done).length + 2 ≤ 140737488355328 by have := hdl.out; have := hl0.out; rw [List.length_append]; omega)
              obtain ⟨o0, o1⟩ := or8_bd y 8
              have gi1 : (i : Int) ≤ n' := by omega
              have gi2 : i ≤ n' := by omega
              have gi3 : i ≤ c' := by omega
              have gi4 : (i : Int) ≤ c' := by omega
              by_cases hi2 : i > 1
              · have gi : (i : Int) > 1 := by omega
                rw [if_pos hi2] at hrE
                by_cases hci : c' = i
                · go_upto_region 2 with fail
                  go_quiet (fail)
                  go_wp2_with (first
                    | (go_at_call 41; (with_reducible refine (wr_U8 (n := or8 y 8) o0 o1 (by have := hlen.out; omega) (MI.out.drewN _)).mono ?_); rintro _ w5 ⟨_, rfl, rfl, v5, M⟩; ((have cyM := hcell.out _ _ _ M 0 (by omega))); ((rw [add_0, hy.out] at cyM)); (have M5 := hid M); clear M)
                    | (go_at_call 41; (with_reducible refine (wr_U8 (n := (i : Int) - 1) (by omega) (by omega) (by have := hlen.out; simp only [List.length_append, List.length_cons, List.length_nil]; simp only [List.length_append] at this; omega) M5.out).mono ?_); rintro _ w6 ⟨_, rfl, rfl, v6, M⟩; (have M6 := hid M); clear M))
                  go_roundw
                  case rel =>
                    refine ⟨d + i, n' - i, 0, _, _, done ++ rowE (l.drop d), by omega, rfl, by omega, by omega, hid (fun w' B h => ?_), hid hnx.out.1, hid hnx.out.2, hid (by rw [hrE.out, ← List.append_assoc]; first | exact M6.out | simpa using M6.out)⟩
                    have h2 := (hrd.out w' B h).tail (i := i) (c := c') gi2 hnc
                    rw [if_pos hci, List.drop_drop] at h2
                    exact h2
                  case measure => simp [sLen] <;> omega
                · go_upto_region 2 with fail
                  go_quiet (fail)
                  go_wp2_with (first
                    | (go_at_call 41; (with_reducible refine (wr_U8 (n := or8 y 8) o0 o1 (by have := hlen.out; omega) (MI.out.drewN _)).mono ?_); rintro _ w5 ⟨_, rfl, rfl, v5, M⟩; ((have cyM := hcell.out _ _ _ M 0 (by omega))); ((rw [add_0, hy.out] at cyM)); (have M5 := hid M); clear M)
                    | (go_at_call 41; (with_reducible refine (wr_U8 (n := (i : Int) - 1) (by omega) (by omega) (by have := hlen.out; simp only [List.length_append, List.length_cons, List.length_nil]; simp only [List.length_append] at this; omega) M5.out).mono ?_); rintro _ w6 ⟨_, rfl, rfl, v6, M⟩; (have M6 := hid M); clear M))
                  go_roundw
                  case rel =>
                    refine ⟨d + i, n' - i, c' - i, _, _, done ++ rowE (l.drop d), by omega, rfl, by omega, by omega, hid (fun w' B h => ?_), hid hnx.out.1, hid hnx.out.2, hid (by rw [hrE.out, ← List.append_assoc]; first | exact M6.out | simpa using M6.out)⟩
                    have h2 := (hrd.out w' B h).tail (i := i) (c := c') gi2 hnc
                    rw [if_neg hci, List.drop_drop] at h2
                    exact h2
                  case measure => simp [sLen] <;> omega
              · have gi : ¬ (i : Int) > 1 := by omega
                rw [if_neg hi2] at hrE
                by_cases hci : c' = i
                · go_upto_region 2 with fail
                  go_quiet (fail)
                  go_wp2_with (go_at_call 41; (with_reducible refine (wr_U8 (n := y) hyb.1 hyb.2 (by have := hlen.out; omega) (MI.out.drewN _)).mono ?_); rintro _ w5 ⟨_, rfl, rfl, v5, M⟩; (have M5 := hid M); clear M)
                  go_roundw
                  case rel =>
                    refine ⟨d + i, n' - i, 0, _, _, done ++ rowE (l.drop d), by omega, rfl, by omega, by omega, hid (fun w' B h => ?_), hid hnx.out.1, hid hnx.out.2, hid (by rw [hrE.out, ← List.append_assoc]; first | exact M5.out | simpa using M5.out)⟩
                    have h2 := (hrd.out w' B h).tail (i := i) (c := c') gi2 hnc
                    rw [if_pos hci, List.drop_drop] at h2
                    exact h2
                  case measure => simp [sLen] <;> omega
                · go_upto_region 2 with fail
                  go_quiet (fail)
                  go_wp2_with (go_at_call 41; (with_reducible refine (wr_U8 (n := y) hyb.1 hyb.2 (by have := hlen.out; omega) (MI.out.drewN _)).mono ?_); rintro _ w5 ⟨_, rfl, rfl, v5, M⟩; (have M5 := hid M); clear M)
                  go_roundw
                  case rel =>
                    refine ⟨d + i, n' - i, c' - i, _, _, done ++ rowE (l.drop d), by omega, rfl, by omega, by omega, hid (fun w' B h => ?_), hid hnx.out.1, hid hnx.out.2, hid (by rw [hrE.out, ← List.append_assoc]; first | exact M5.out | simpa using M5.out)⟩
                    have h2 := (hrd.out w' B h).tail (i := i) (c := c') gi2 hnc
                    rw [if_neg hci, List.drop_drop] at h2
                    exact h2
                  case measure => simp [sLen] <;> omega
          · have g1 : (i : Int) < n' := by omega
            have g2 : ¬ (i : Int) ≤ 255 := by omega
            -- the run has i bytes
            have hrn := hid (rn_of (l := l.drop d) hi1 (by rw [hll.out]; omega) (by omega) hsame.out (.inr (.inl (by omega))))
            have hnx := hid (rows_next (l0 := l0) (n := n) hrows.out hdl.out (by rw [hnH.out]; omega) hrn.out)
            have hrE := hid (show rowE (l.drop d) = if i > 1 then [or8 y 8, (i : Int) - 1] else [y] by unfold rowE; rw [hrn.out, hy.out])
            have hlen := hid (show (l0 ++ done).length + 2 ≤ 140737488355328 by have := hdl.out; have := hl0.out; rw [List.length_append]; omega)
            obtain ⟨o0, o1⟩ := or8_bd y 8
            have gi1 : (i : Int) ≤ n' := by omega
            have gi2 : i ≤ n' := by omega
            have gi3 : i ≤ c' := by omega
            have gi4 : (i : Int) ≤ c' := by omega
            by_cases hi2 : i > 1
            · have gi : (i : Int) > 1 := by omega
              rw [if_pos hi2] at hrE
              by_cases hci : c' = i
              · go_upto_region 2 with fail
                go_quiet (fail)
                go_wp2_with (first
                  | (go_at_call 41; (with_reducible refine (wr_U8 (n := or8 y 8) o0 o1 (by have := hlen.out; omega) (MI.out.drewN _)).mono ?_); rintro _ w5 ⟨_, rfl, rfl, v5, M⟩; ((have cyM := hcell.out _ _ _ M 0 (by omega))); ((rw [add_0, hy.out] at cyM)); (have M5 := hid M); clear M)
                  | (go_at_call 41; (with_reducible refine (wr_U8 (n := (i : Int) - 1) (by omega) (by omega) (by have := hlen.out; simp only [List.length_append, List.length_cons, List.length_nil]; simp only [List.length_append] at this; omega) M5.out).mono ?_); rintro _ w6 ⟨_, rfl, rfl, v6, M⟩; (have M6 := hid M); clear M))
                go_roundw
                case rel =>
                  refine ⟨d + i, n' - i, 0, _, _, done ++ rowE (l.drop d), by omega, rfl, by omega, by omega, hid (fun w' B h => ?_), hid hnx.out.1, hid hnx.out.2, hid (by rw [hrE.out, ← List.append_assoc]; first | exact M6.out | simpa using M6.out)⟩
                  have h2 := (hrd.out w' B h).tail (i := i) (c := c') gi2 hnc
                  rw [if_pos hci, List.drop_drop] at h2
                  exact h2
                case measure => simp [sLen] <;> omega
              · go_upto_region 2 with fail
                go_quiet (fail)
                go_wp2_with (first
                  | (go_at_call 41; (with_reducible refine (wr_U8 (n := or8 y 8) o0 o1 (by have := hlen.out; omega) (MI.out.drewN _)).mono ?_); rintro _ w5 ⟨_, rfl, rfl, v5, M⟩; ((have cyM := hcell.out _ _ _ M 0 (by omega))); ((rw [add_0, hy.out] at cyM)); (have M5 := hid M); clear M)
                  | (go_at_call 41; (with_reducible refine (wr_U8 (n := (i : Int) - 1) (by omega) (by omega) (by have := hlen.out; simp only [List.length_append, List.length_cons, List.length_nil]; simp only [List.length_append] at this; omega) M5.out).mono ?_); rintro _ w6 ⟨_, rfl, rfl, v6, M⟩; (have M6 := hid M); clear M))
                go_roundw
                case rel =>
                  refine ⟨d + i, n' - i, c' - i, _, _, done ++ rowE (l.drop d), by omega, rfl, by omega, by omega, hid (fun w' B h => ?_), hid hnx.out.1, hid hnx.out.2, hid (by rw [hrE.out, ← List.append_assoc]; first | exact M6.out | simpa using M6.out)⟩
                  have h2 := (hrd.out w' B h).tail (i := i) (c := c') gi2 hnc
                  rw [if_neg hci, List.drop_drop] at h2
                  exact h2
                case measure => simp [sLen] <;> omega
            · have gi : ¬ (i : Int) > 1 := by omega
              rw [if_neg hi2] at hrE
              by_cases hci : c' = i
              · go_upto_region 2 with fail
                go_quiet (fail)
                go_wp2_with (go_at_call 41; (with_reducible refine (wr_U8 (n := y) hyb.1 hyb.2 (by have := hlen.out; omega) (MI.out.drewN _)).mono ?_); rintro _ w5 ⟨_, rfl, rfl, v5, M⟩; (have M5 := hid M); clear M)
                go_roundw
                case rel =>
                  refine ⟨d + i, n' - i, 0, _, _, done ++ rowE (l.drop d), by omega, rfl, by omega, by omega, hid (fun w' B h => ?_), hid hnx.out.1, hid hnx.out.2, hid (by rw [hrE.out, ← List.append_assoc]; first | exact M5.out | simpa using M5.out)⟩
                  have h2 := (hrd.out w' B h).tail (i := i) (c := c') gi2 hnc
                  rw [if_pos hci, List.drop_drop] at h2
                  exact h2
                case measure => simp [sLen] <;> omega
              · go_upto_region 2 with fail
                go_quiet (fail)
                go_wp2_with (go_at_call 41; (with_reducible refine (wr_U8 (n := y) hyb.1 hyb.2 (by have := hlen.out; omega) (MI.out.drewN _)).mono ?_); rintro _ w5 ⟨_, rfl, rfl, v5, M⟩; (have M5 := hid M); clear M)
                go_roundw
                case rel =>
                  refine ⟨d + i, n' - i, c' - i, _, _, done ++ rowE (l.drop d), by omega, rfl, by omega, by omega, hid (fun w' B h => ?_), hid hnx.out.1, hid hnx.out.2, hid (by rw [hrE.out, ← List.append_assoc]; first | exact M5.out | simpa using M5.out)⟩
                  have h2 := (hrd.out w' B h).tail (i := i) (c := c') gi2 hnc
                  rw [if_neg hci, List.drop_drop] at h2
                  exact h2
                case measure => simp [sLen] <;> omega
        · have g1 : ¬ (i : Int) < n' := by omega
          -- the run has i bytes
          have hrn := hid (rn_of (l := l.drop d) hi1 (by rw [hll.out]; omega) (by omega) hsame.out (.inl (by rw [hll.out]; omega)))
          have hnx := hid (rows_next (l0 := l0) (n := n) hrows.out hdl.out (by rw [hnH.out]; omega) hrn.out)
          have hrE := hid (show rowE (l.drop d) = if i > 1 then [or8 y 8, (i : Int) - 1] else [y] by unfold rowE; rw [hrn.out, hy.out])
          have hlen := hid (show (l0 ++ done).length + 2 ≤ 140737488355328 by have := hdl.out; have := hl0.out; rw [List.length_append]; omega)
          obtain ⟨o0, o1⟩ := or8_bd y 8
          have gi1 : (i : Int) ≤ n' := by omega
          have gi2 : i ≤ n' := by omega
          have gi3 : i ≤ c' := by omega
          have gi4 : (i : Int) ≤ c' := by omega
          by_cases hi2 : i > 1
          · have gi : (i : Int) > 1 := by omega
            rw [if_pos hi2] at hrE
            by_cases hci : c' = i
            · go_upto_region 2 with fail
              go_quiet (fail)
              go_wp2_with (first
                | (go_at_call 41; (with_reducible refine (wr_U8 (n := or8 y 8) o0 o1 (by have := hlen.out; omega) (MI.out.drewN _)).mono ?_); rintro _ w5 ⟨_, rfl, rfl, v5, M⟩; ((have cyM := hcell.out _ _ _ M 0 (by omega))); ((rw [add_0, hy.out] at cyM)); (have M5 := hid M); clear M)
                | (go_at_call 41; (with_reducible refine (wr_U8 (n := (i : Int) - 1) (by omega) (by omega) (by have := hlen.out; simp only [List.length_append, List.length_cons, List.length_nil]; simp only [List.length_append] at this; omega) M5.out).mono ?_); rintro _ w6 ⟨_, rfl, rfl, v6, M⟩; (have M6 := hid M); clear M))
              go_roundw
              case rel =>
                refine ⟨d + i, n' - i, 0, _, _, done ++ rowE (l.drop d), by omega, rfl, by omega, by omega, hid (fun w' B h => ?_), hid hnx.out.1, hid hnx.out.2, hid (by rw [hrE.out, ← List.append_assoc]; first | exact M6.out | simpa using M6.out)⟩
                have h2 := (hrd.out w' B h).tail (i := i) (c := c') gi2 hnc
                rw [if_pos hci, List.drop_drop] at h2
                exact h2
              case measure => simp [sLen] <;> omega
            · go_upto_region 2 with fail
              go_quiet (fail)
              go_wp2_with (first
                | (go_at_call 41; (with_reducible refine (wr_U8 (n := or8 y 8) o0 o1 (by have := hlen.out; omega) (MI.out.drewN _)).mono ?_); rintro _ w5 ⟨_, rfl, rfl, v5, M⟩; ((have cyM := hcell.out _ _ _ M 0 (by omega))); ((rw [add_0, hy.out] at cyM)); (have M5 := hid M); clear M)
                | (go_at_call 41; (with_reducible refine (wr_U8 (n := (i : Int) - 1) (by omega) (by omega) (by have := hlen.out; simp only [List.length_append, List.length_cons, List.length_nil]; simp only [List.length_append] at this; omega) M5.out).mono ?_); rintro _ w6 ⟨_, rfl, rfl, v6, M⟩; (have M6 := hid M); clear M))
              go_roundw
              case rel =>
                refine ⟨d + i, n' - i, c' - i, _, _, done ++ rowE (l.drop d), by omega, rfl, by omega, by omega, hid (fun w' B h => ?_), hid hnx.out.1, hid hnx.out.2, hid (by rw [hrE.out, ← List.append_assoc]; first | exact M6.out | simpa using M6.out)⟩
                have h2 := (hrd.out w' B h).tail (i := i) (c := c') gi2 hnc
                rw [if_neg hci, List.drop_drop] at h2
                exact h2
              case measure => simp [sLen] <;> omega
          · have gi : ¬ (i : Int) > 1 := by omega
            rw [if_neg hi2] at hrE
            by_cases hci : c' = i
            · go_upto_region 2 with fail
              go_quiet (fail)
              go_wp2_with (go_at_call 41; (with_reducible refine (wr_U8 (n := y) hyb.1 hyb.2 (by have := hlen.out; omega) (MI.out.drewN _)).mono ?_); rintro _ w5 ⟨_, rfl, rfl, v5, M⟩; (have M5 := hid M); clear M)
              go_roundw
              case rel =>
                refine ⟨d + i, n' - i, 0, _, _, done ++ rowE (l.drop d), by omega, rfl, by omega, by omega, hid (fun w' B h => ?_), hid hnx.out.1, hid hnx.out.2, hid (by rw [hrE.out, ← List.append_assoc]; first | exact M5.out | simpa using M5.out)⟩
                have h2 := (hrd.out w' B h).tail (i := i) (c := c') gi2 hnc
                rw [if_pos hci, List.drop_drop] at h2
                exact h2
              case measure => simp [sLen] <;> omega
            · go_upto_region 2 with fail
              go_quiet (fail)
              go_wp2_with (go_at_call 41; (with_reducible refine (wr_U8 (n := y) hyb.1 hyb.2 (by have := hlen.out; omega) (MI.out.drewN _)).mono ?_); rintro _ w5 ⟨_, rfl, rfl, v5, M⟩; (have M5 := hid M); clear M)
              go_roundw
              case rel =>
                refine ⟨d + i, n' - i, c' - i, _, _, done ++ rowE (l.drop d), by omega, rfl, by omega, by omega, hid (fun w' B h => ?_), hid hnx.out.1, hid hnx.out.2, hid (by rw [hrE.out, ← List.append_assoc]; first | exact M5.out | simpa using M5.out)⟩
                have h2 := (hrd.out w' B h).tail (i := i) (c := c') gi2 hnc
                rw [if_neg hci, List.drop_drop] at h2
                exact h2
              case measure => simp [sLen] <;> omega
end
end Go.Proofs.YtiedbfaehndooaaDoor
