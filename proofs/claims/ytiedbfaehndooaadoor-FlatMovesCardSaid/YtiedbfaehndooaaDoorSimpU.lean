/- Package simple: flags and places of a reader. -/
import Derived.Test.YtiedbfaehndooaaDoorSimpT
namespace Go.Proofs.YtiedbfaehndooaaDoor
open Go Go.RowKit
set_option linter.unusedVariables false
set_option linter.unusedSimpArgs false
set_option maxRecDepth 100000

theorem and8_8 : ∀ n : Nat, n < 256 → bits .and .u8 n 8 = (if bitB n 8 then 8 else 0) ∧ bits .and .u8 n 128 = (if (n : Int) > 127 then 128 else 0) ∧ bits .and .u8 n 1 = (if bitB n 1 then 1 else 0) := by decide +kernel
theorem and_flag {x : Int} (h0 : 0 ≤ x) (h1 : x < 256) : bits .and .u8 x 8 = (if bitB x 8 then 8 else 0) ∧ bits .and .u8 x 128 = (if x > 127 then 128 else 0) ∧ bits .and .u8 x 1 = (if bitB x 1 then 1 else 0) := by
  obtain ⟨n, rfl⟩ : ∃ n : Nat, x = n := ⟨x.toNat, by omega⟩
  exact and8_8 n (by omega)
section
variable {W0 w : World} {b k : Nat} {l : List Int} {L : List Ent}
/-- What flags are told. -/
def FlagsP (W0 : World) (b : Nat) (l : List Int) (k n : Nat) (L : List Ent) (r : Value) (w' : World) : Prop :=
  (∃ fl e v, flS l k n = some (fl, e) ∧ Bytes fl ∧ fl.length = n ∧ r = .tuple #[v, .bool true] ∧ RS W0 w' b l e (.row 5 1 v n (ints .u8 fl) :: L)) ∨
  (flS l k n = none ∧ r = .tuple #[.slice none 0 0, .bool false] ∧ ∃ k', RS W0 w' b l k' L)
def FlRel (W0 : World) (b : Nat) (l : List Int) (k n : Nat) (L : List Ent) (m : Nat) (A : Option Addr) (c : Nat) (wr : World) : Prop :=
  ∃ done p, done.length = m ∧ Bytes done ∧ flS l k n = (flS l p (n - m)).map (fun r => (done ++ r.1, r.2)) ∧ RS W0 wr b l p (.row 5 1 (.slice A m c) m (ints .u8 done) :: L)
theorem bytes_rep {f : Int} (h0 : 0 ≤ f) (h1 : f < 256) (n : Nat) : Bytes (List.replicate n f) := fun x hx => by rw [(List.mem_replicate.1 hx).2]; exact ⟨h0, h1⟩
set_option maxHeartbeats 4000000 in
theorem flags_calls {n : Nat} (hn : n ≤ 65536) (h : RS W0 w b l k L) :
    Calls Tryd.prog 60 #[.pointer (some ⟨b, 0, none⟩), .int .i64 n] w (Ret fun r w' => FlagsP W0 b l k n L r w') := by
  have hB := hid h.bytes
  have M0 := hid (RS.nil_row h 5 1)
  clear h
  go_enter Tryd.func60, Tryd.ntmps60
  go_wp2
  go_loopw [6] (fun o wr => ∃ (m : Nat) (A : Option Addr) (c : Nat), o = .slice A m c ∧ m ≤ n ∧ Hid (FlRel W0 b l k n L m A c wr)) (fun o _ => n - sLen o)
  case atStart => exact ⟨0, none, 0, rfl, Nat.zero_le _, hid ⟨[], k, rfl, bytes_nil, by cases flS l k (n - 0) with | none => simp_all | some r => simp_all, M0.out⟩⟩
  case round =>
    obtain ⟨m, A, c, rfl, hm, hR⟩ := hrel
    obtain ⟨done, p, hdl, hdB, hfl, hM⟩ := hR.out
    replace hdl := hid hdl
    replace hdB := hid hdB
    replace hfl := hid hfl
    have MH := hid hM
    clear hR hM
    by_cases hlt : m < n
    · obtain ⟨x0, x1⟩ := hB.out.get p
      obtain ⟨y0, y1⟩ := hB.out.get (p + 1)
      obtain ⟨a8, a128, -⟩ := and_flag x0 x1
      have hE := hid (show fWid l p = if bitB (l.getD p 0) 8 then 2 else 1 from rfl)
      have hK := hid (show fRep l p = if bitB (l.getD p 0) 8 then 1 + (l.getD (p + 1) 0).toNat else 1 from rfl)
      have hOk := hid (show flOk l p (n - m) = decide (p + fWid l p ≤ l.length ∧ l.getD p 0 ≤ 127 ∧ fRep l p ≤ n - m) from rfl)
      have hS := hid (flS_pos l p (left := n - m) (by omega))
      have hU1 := hid (RS.U8 MH.out)
      have hU2 := hid (fun w (h : RS W0 w b l (p + 1) (.row 5 1 (.slice A m c) m (ints .u8 done) :: L)) => RS.U8 h)
      generalize hx : l.getD p 0 = x at *
      generalize hy : l.getD (p + 1) 0 = y at *
      generalize fWid l p = E at *
      generalize fRep l p = K at *
      generalize flOk l p (n - m) = ok at *
      replace hx := hid hx
      replace hy := hid hy
      obtain ⟨q, rfl⟩ : ∃ q : Nat, y = q := ⟨y.toNat, by omega⟩
      have hnone := hid (show ok = false → flS l k n = none from fun h => by rw [hfl.out, hS.out, h]; rfl)
      have hcont := hid (show ok = true → flS l k n = (flS l (p + E) (n - (m + K))).map (fun r => ((done ++ List.replicate K x) ++ r.1, r.2)) from fun h => by
        rw [hfl.out, hS.out, h, if_pos rfl, Option.map_map, Nat.sub_sub]
        congr 1; funext r; simp)
      cases b8 : bitB x 8
      · rw [b8] at a8
        simp only [Bool.false_eq_true, if_false] at a8
        obtain rfl : E = 1 := by rw [hE.out, b8]; rfl
        obtain rfl : K = 1 := by rw [hK.out, b8]; rfl
        by_cases q1 : l.length < p + 1
        · have hno := hid (hnone.out (by rw [hOk.out]; exact decide_eq_false (by omega)))
          go_wp2_with (first
            | (go_at_call 65; (with_reducible refine hU1.out.mono ?_); rintro _ w5 ⟨_, rfl, rfl, M⟩; (have M5 := hid M); clear M)
            | (go_at_call 54; refine (RS.Bad M5.out).mono ?_; rintro _ _ ⟨_, rfl, rfl, rfl⟩))
          go_ret2
          exact .mk (.inr ⟨hno.out, rfl, _, M5.out.perm_tail⟩)
        · by_cases q2 : x > 127
          · have hno := hid (hnone.out (by rw [hOk.out]; exact decide_eq_false (by omega)))
            rw [if_pos q2] at a128
            go_wp2_with (first
              | (go_at_call 65; (with_reducible refine hU1.out.mono ?_); rintro _ w5 ⟨_, rfl, rfl, M⟩; (have M5 := hid M); clear M)
              | (go_at_call 54; refine (RS.Bad M5.out).mono ?_; rintro _ _ ⟨_, rfl, rfl, rfl⟩))
            go_ret2
            exact .mk (.inr ⟨hno.out, rfl, _, M5.out.perm_tail⟩)
          · rw [if_neg q2] at a128
            have q3 : ¬ ((1 : Int) > (n : Int) - m) := by omega
            · have hok := hid (show ok = true by rw [hOk.out]; exact decide_eq_true (by omega))
              go_wp2_with (first
                | (go_at_call 65; (with_reducible refine hU1.out.mono ?_); rintro _ w5 ⟨_, rfl, rfl, M⟩; (have M5 := hid M); clear M)
                | (go_at_call 54; refine (RS.Bad M5.out).mono ?_; rintro _ _ ⟨_, rfl, rfl, rfl⟩; obtain ⟨v6, a6, b6, M6, e1, e2, e3⟩ := M5.out.opened; (have e1 := hid e1); (have e2 := hid e2); (have e3 := hid e3); (have M6 := hid M6))
                | (go_at_call 75; (have hC := repeat_calls _ (f := x) (SliceAt.built (M6.out.alloc 5 #[.int .u8 x]) (.head _) 1 1 rfl (by unfold maxLen; omega)) 1 (by omega) (by omega)); (refine hC.mono ?_); clear hC; rintro _ w7 ⟨v7, rfl, hs7, hb7⟩; (have M7 := hid ((M6.out.alloc _ _).keep hb7)); (have hs7 := hid hs7); clear hb7)
                | (at_builtin; refine wpList_append_Own rfl (.tmp 38) (.tmp 42) _ rfl sized_u8 rfl rfl (L1 := [.blk _ 5 #[.int .u8 x]]) (L2 := L ++ rdE b v6 l a6 b6) M7.out hs7.out (ints_one .u8 _) (by unfold maxLen; omega) (by omega) ?_; intro v' w' M'; obtain ⟨A8, c8, rfl⟩ := M'.tail.form (.head _); (have M8 := hid (RS.shut (L := .row _ 1 _ _ _ :: L) M'.tail e1.out e2.out e3.out)); clear M'))
              go_roundw
              case rel => exact ⟨m + 1, A8, c8, rfl, by omega, hid ⟨done ++ List.replicate 1 x, p + 1, by rw [List.length_append, hdl.out, List.length_replicate], hdB.out.append (bytes_rep x0 x1 _), hcont.out hok.out, by rw [ints_append]; exact M8.out⟩⟩
              case measure => simp [sLen] <;> omega
      · rw [b8] at a8
        simp only [if_true] at a8
        obtain rfl : E = 2 := by rw [hE.out, b8]; rfl
        obtain rfl : K = 1 + q := by rw [hK.out, b8]; simp
        have wq : IntKind.i64.wrap (q : Int) = q := IntWalk.i64_in _ (by omega)
        have wq1 : IntKind.i64.wrap (1 + (q : Int)) = 1 + (q : Int) := IntWalk.i64_in _ (by omega)
        by_cases q1 : l.length < p + 2
        · have hno := hid (hnone.out (by rw [hOk.out]; exact decide_eq_false (by omega)))
          go_wp2_with (first
            | (go_at_call 65; (with_reducible refine hU1.out.mono ?_); rintro _ w5 ⟨_, rfl, rfl, M⟩; (have M5 := hid M); clear M)
            | (go_at_call 65; (with_reducible refine (hU2.out _ M5.out).mono ?_); rintro _ w4 ⟨_, rfl, rfl, M⟩; (have M4 := hid M); clear M)
            | (go_at_call 54; refine (RS.Bad M4.out).mono ?_; rintro _ _ ⟨_, rfl, rfl, rfl⟩))
          go_ret2
          exact .mk (.inr ⟨hno.out, rfl, _, M4.out.perm_tail⟩)
        · by_cases q2 : x > 127
          · have hno := hid (hnone.out (by rw [hOk.out]; exact decide_eq_false (by omega)))
            rw [if_pos q2] at a128
            go_wp2_with (first
              | (go_at_call 65; (with_reducible refine hU1.out.mono ?_); rintro _ w5 ⟨_, rfl, rfl, M⟩; (have M5 := hid M); clear M)
              | (go_at_call 65; (with_reducible refine (hU2.out _ M5.out).mono ?_); rintro _ w4 ⟨_, rfl, rfl, M⟩; (have M4 := hid M); clear M)
              | (go_at_call 54; refine (RS.Bad M4.out).mono ?_; rintro _ _ ⟨_, rfl, rfl, rfl⟩))
            go_ret2
            exact .mk (.inr ⟨hno.out, rfl, _, M4.out.perm_tail⟩)
          · rw [if_neg q2] at a128
            by_cases q3 : (1 : Int) + q > (n : Int) - m
            · have hno := hid (hnone.out (by rw [hOk.out]; exact decide_eq_false (by omega)))
              go_wp2_with (first
                | (go_at_call 65; (with_reducible refine hU1.out.mono ?_); rintro _ w5 ⟨_, rfl, rfl, M⟩; (have M5 := hid M); clear M)
                | (go_at_call 65; (with_reducible refine (hU2.out _ M5.out).mono ?_); rintro _ w4 ⟨_, rfl, rfl, M⟩; (have M4 := hid M); clear M)
                | (go_at_call 54; refine (RS.Bad M4.out).mono ?_; rintro _ _ ⟨_, rfl, rfl, rfl⟩))
              go_ret2
              exact .mk (.inr ⟨hno.out, rfl, _, M4.out.perm_tail⟩)
            · have hok := hid (show ok = true by rw [hOk.out]; exact decide_eq_true (by omega))
              go_wp2_with (first
                | (go_at_call 65; (with_reducible refine hU1.out.mono ?_); rintro _ w5 ⟨_, rfl, rfl, M⟩; (have M5 := hid M); clear M)
                | (go_at_call 65; (with_reducible refine (hU2.out _ M5.out).mono ?_); rintro _ w4 ⟨_, rfl, rfl, M⟩; (have M4 := hid M); clear M)
                | (go_at_call 54; refine (RS.Bad M4.out).mono ?_; rintro _ _ ⟨_, rfl, rfl, rfl⟩; obtain ⟨v6, a6, b6, M6, e1, e2, e3⟩ := M4.out.opened; (have e1 := hid e1); (have e2 := hid e2); (have e3 := hid e3); (have M6 := hid M6))
                | (go_at_call 75; (have hC := repeat_calls _ (f := x) (SliceAt.built (M6.out.alloc 5 #[.int .u8 x]) (.head _) 1 1 rfl (by unfold maxLen; omega)) (1 + q) (by omega) (by omega)); (rw [show ((1 + q : Nat) : Int) = 1 + (q : Int) by omega] at hC); (refine hC.mono ?_); clear hC; rintro _ w7 ⟨v7, rfl, hs7, hb7⟩; (have M7 := hid ((M6.out.alloc _ _).keep hb7)); (have hs7 := hid hs7); clear hb7)
                | (at_builtin; refine wpList_append_Own rfl (.tmp 38) (.tmp 42) _ rfl sized_u8 rfl rfl (L1 := [.blk _ 5 #[.int .u8 x]]) (L2 := L ++ rdE b v6 l a6 b6) M7.out hs7.out (ints_one .u8 _) (by unfold maxLen; omega) (by omega) ?_; intro v' w' M'; obtain ⟨A8, c8, rfl⟩ := M'.tail.form (.head _); (have M8 := hid (RS.shut (L := .row _ 1 _ _ _ :: L) M'.tail e1.out e2.out e3.out)); clear M'))
              go_roundw
              case rel => exact ⟨m + (1 + q), A8, c8, rfl, by omega, hid ⟨done ++ List.replicate (1 + q) x, p + 2, by rw [List.length_append, hdl.out, List.length_replicate], hdB.out.append (bytes_rep x0 x1 _), hcont.out hok.out, by rw [ints_append]; exact M8.out⟩⟩
              case measure => simp [sLen] <;> omega
    · obtain rfl : m = n := by omega
      go_wp2
      go_ret2
      exact .mk (.inl ⟨done, p, _, by rw [hfl.out, Nat.sub_self, flS_zero]; simp, hdB.out, hdl.out, rfl, MH.out⟩)
end
end Go.Proofs.YtiedbfaehndooaaDoor
