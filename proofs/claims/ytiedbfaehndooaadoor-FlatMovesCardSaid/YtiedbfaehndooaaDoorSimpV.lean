/- Package simple: places of a reader. -/
import Derived.Test.YtiedbfaehndooaaDoorSimpU
namespace Go.Proofs.YtiedbfaehndooaaDoor
open Go Go.RowKit
set_option linter.unusedVariables false
set_option linter.unusedSimpArgs false
set_option maxRecDepth 100000

theorem sized_i16 : Sized Tryd.prog 113 36 1 2 := .mk' Tryd.underlying113 (.int .i16 0) (by kernel_rfl)
theorem nbOk_at {l : List Int} {p : Nat} (h : p ≤ l.length) (f sh sa : Int) : nbOk l p f sh sa = decide (p + (chW f sh sa).toNat ≤ l.length) := by
  unfold nbOk chW
  by_cases h1 : bitB f sh = true
  · simp only [h1, if_true]
    exact decide_eq_decide.2 ⟨fun h => h, fun h => h⟩
  · by_cases h2 : bitB f sa = true
    · simp only [h1, h2, if_true, if_false]
      exact (decide_eq_true (by show p + 0 ≤ _; omega)).symm
    · simp only [h1, h2, if_false]
      exact decide_eq_decide.2 ⟨fun h => h, fun h => h⟩
section
variable {W0 w : World} {b k : Nat} {l : List Int} {L : List Ent}
/-- What places are told. -/
def PlacesP (W0 : World) (b : Nat) (l : List Int) (k : Nat) (fs : List Int) (sh sa : Int) (L : List Ent) (r : Value) (w' : World) : Prop :=
  ∃ v n xs ok k', r = .tuple #[v, .bool ok] ∧ xs.length = n ∧ RS W0 w' b l k' (.row 36 1 v n (ints .i16 xs) :: L) ∧ (l.length < k → l.length < k') ∧
    (k ≤ l.length → ok = (numK l sh sa fs k fs.length).isSome ∧ ∀ t, numK l sh sa fs k fs.length = some t → xs = t.1 ∧ k' = t.2.1)
def PlRel (W0 : World) (b : Nat) (l : List Int) (k : Nat) (fs : List Int) (sh sa : Int) (L : List Ent) (j : Nat) (A : Option Addr) (c : Nat) (x : Int) (wr : World) : Prop :=
  ∃ p xs, xs.length = j ∧ k ≤ p ∧ (k ≤ l.length → (p ≤ l.length → numK l sh sa fs k j = some (xs, p, x)) ∧ (l.length < p → numK l sh sa fs k j = none)) ∧ RS W0 wr b l p (.row 36 1 (.slice A j c) j (ints .i16 xs) :: L)
set_option maxHeartbeats 4000000 in
theorem places_calls {V : Value} {n : Nat} {fs : List Int} (hn : fs.length = n) (hf : Bytes fs) (hV : Ent.row 5 1 V n (ints .u8 fs) ∈ L) (hle : n ≤ 65536) {sh sa : Int} (hw : Way sh sa) (h : RS W0 w b l k L) :
    Calls Tryd.prog 61 #[.pointer (some ⟨b, 0, none⟩), V, .int .u8 sh, .int .u8 sa] w (Ret fun r w' => PlacesP W0 b l k fs sh sa L r w') := by
  have hB := hid h.bytes
  obtain ⟨Av, cv, rfl⟩ := h.beside.form hV
  have hwH := hid hw
  have hfH := hid hf
  have hnH := hid hn
  have hVH := hid hV
  have M0 := hid (RS.nil_row h 36 1)
  clear h hw hf hV
  go_enter Tryd.func61, Tryd.ntmps61
  go_wp2
  go_loopw [10, 11, 16] (fun o at_ i wr => ∃ (j : Nat) (A : Option Addr) (c : Nat) (x : Int), j ≤ n ∧ i = .int .i64 j ∧ o = .slice A j c ∧ at_ = .int .i64 x ∧ Hid (I16 x) ∧ Hid (PlRel W0 b l k fs sh sa L j A c x wr)) (fun _ _ i _ => n - (intOf i).toNat)
  case atStart => exact ⟨0, none, 0, 0, Nat.zero_le _, rfl, rfl, rfl, hid (by decide), hid ⟨k, [], rfl, Nat.le_refl _, fun h => ⟨fun _ => rfl, fun h' => absurd h' (by omega)⟩, M0.out⟩⟩
  case round =>
    obtain ⟨j, A, c, x, hj, rfl, rfl, rfl, hx, hR⟩ := hrel
    obtain ⟨x0, x1⟩ := hx.out
    obtain ⟨p, xs, hxl, hkp, hnum, hM⟩ := hR.out
    replace hxl := hid hxl
    replace hkp := hid hkp
    replace hnum := hid hnum
    have MH := hid hM
    clear hR hM
    by_cases hlt : j < n
    · obtain ⟨f0, f1⟩ := hfH.out.get j
      obtain ⟨v0, v1⟩ := nbV_bound hB.out p (fs.getD j 0) sh sa
      have hnS := hid (show numK l sh sa fs k (j + 1) = (numK l sh sa fs k j).bind (nStep l sh sa (fs.getD j 0)) from rfl)
      have hOkE := hid (fun h => nbOk_at (l := l) (p := p) h (fs.getD j 0) sh sa)
      have hcell := hid (MH.out.beside.tail.slice hVH.out)
      obtain ⟨Av', cv', hev, -, -, -, hrv⟩ := hcell.out
      (injection hev with e1 e2 e3); subst e1 e3
      obtain ⟨adv, rfl, hce⟩ := hrv.cell (ints_get .u8 fs j (by have := hnH.out; omega))
      clear e2 hrv hcell
      have hCh := hid (RS.change f0 f1 hwH.out MH.out)
      have hstep := hid (show ∀ v, nbV l p (fs.getD j 0) sh sa = v → (nStep l sh sa (fs.getD j 0) (xs, p, x)) = if nbOk l p (fs.getD j 0) sh sa && fitB (x + v) then some (xs ++ [x + v], p + (chW (fs.getD j 0) sh sa).toNat, x + v) else none from fun v hv => by unfold nStep; rw [hv])
      obtain ⟨v, hv⟩ : ∃ v, nbV l p (fs.getD j 0) sh sa = v := ⟨_, rfl⟩
      replace hstep := hid (hstep.out v hv)
      rw [hv] at v0 v1 hCh
      clear hv
      generalize (chW (fs.getD j 0) sh sa).toNat = d at *
      generalize nbOk l p (fs.getD j 0) sh sa = nok at *
      generalize nStep l sh sa (fs.getD j 0) = st at *
      generalize fs.getD j 0 = f at *
      have hwr : IntKind.i64.wrap (x + v) = x + v := IntWalk.i64_in _ (by omega)
      obtain ⟨z, hz⟩ : ∃ z, x + v = z := ⟨_, rfl⟩
      have hzb : -65536 ≤ z ∧ z < 65536 := by omega
      rw [hz] at hwr hstep
      cases q1 : fitB z
      · have hnone := hid (show k ≤ l.length → numK l sh sa fs k fs.length = none from fun hk => numK_none (k := j + 1) (by
          rw [hnS.out]
          by_cases hp : p ≤ l.length
          · rw [(hnum.out hk).1 hp, Option.bind_some, hstep.out, q1, Bool.and_false]; rfl
          · rw [(hnum.out hk).2 (by omega)]; rfl) _ (by have := hnH.out; omega))
        go_wp2_with (first
          | (go_at_call 76; refine hCh.out.mono ?_; rintro _ w5 ⟨_, rfl, rfl, M⟩; (have M5 := hid M); clear M)
          | (go_at_call 30; refine (fits_calls _ z).mono ?_; rintro _ _ ⟨_, rfl, rfl, rfl⟩))
        go_ret2
        exact .mk ⟨_, 0, [], false, p + d, rfl, rfl, M5.out.perm_tail.nil_row _ _, fun h => by have := hkp.out; omega, fun hk => ⟨by rw [hnone.out hk]; rfl, fun t ht => by rw [hnone.out hk] at ht; cases ht⟩⟩
      · have hfit : -32768 ≤ z ∧ z ≤ 32767 := by simpa [fitB] using q1
        have hw16 : IntKind.i16.wrap z = z := IntWalk.i16_in z hfit
        go_wp2_with (first
          | (go_at_call 76; refine hCh.out.mono ?_; rintro _ w5 ⟨_, rfl, rfl, M⟩; (have M5 := hid M); clear M)
          | (go_at_call 30; refine (fits_calls _ z).mono ?_; rintro _ _ ⟨_, rfl, rfl, rfl⟩; obtain ⟨v6, a6, b6, M6, e1, e2, e3⟩ := M5.out.opened; (have e1 := hid e1); (have e2 := hid e2); (have e3 := hid e3); (have M6 := hid M6))
          | (at_builtin; refine wpList_append_Own rfl (.tmp 30) (.tmp 33) _ rfl sized_i16 rfl rfl (L1 := [.blk w5.heap.size 36 #[.int .i16 z]]) (L2 := L ++ rdE b v6 l a6 b6) (M6.out.alloc _ _) (SliceAt.built (M6.out.alloc _ _) (.head _) 1 1 rfl (by unfold maxLen; omega)) (ints_one .i16 [z]) (by unfold maxLen; omega) (by omega) ?_; intro v' w' M'; obtain ⟨A7, c7, rfl⟩ := M'.tail.form (.head _); (have M7 := hid (RS.shut (L := .row _ 1 _ _ _ :: L) M'.tail e1.out e2.out e3.out)); clear M'))
        go_roundw
        case rel => exact ⟨j + 1, A7, c7, z, by omega, by go_num, rfl, rfl, hid ⟨by omega, by omega⟩, hid ⟨p + d, xs ++ [z], by rw [List.length_append, hxl.out]; rfl, by have := hkp.out; omega, fun hk => ⟨fun h1 => by
          rw [hnS.out, (hnum.out hk).1 (by omega), Option.bind_some, hstep.out, hOkE.out (by omega), q1, decide_eq_true h1]; rfl, fun h2 => by
          rw [hnS.out]
          by_cases hp : p ≤ l.length
          · rw [(hnum.out hk).1 hp, Option.bind_some, hstep.out, hOkE.out hp, decide_eq_false (by omega)]; rfl
          · rw [(hnum.out hk).2 (by omega)]; rfl⟩, by rw [ints_append]; exact M7.out⟩⟩
        case measure => simp [intOf] <;> omega
    · obtain rfl : j = n := by omega
      by_cases hp : l.length < p
      · go_wp2_with (go_at_call 54; refine (RS.Bad MH.out).mono ?_; rintro _ _ ⟨_, rfl, rfl, rfl⟩)
        go_ret2
        exact .mk ⟨_, j, xs, false, p, rfl, hxl.out, MH.out, fun h => hp, fun hk => ⟨by rw [hnH.out, (hnum.out hk).2 hp]; rfl, fun t ht => by rw [hnH.out, (hnum.out hk).2 hp] at ht; cases ht⟩⟩
      · go_wp2_with (go_at_call 54; refine (RS.Bad MH.out).mono ?_; rintro _ _ ⟨_, rfl, rfl, rfl⟩)
        go_ret2
        exact .mk ⟨_, j, xs, true, p, rfl, hxl.out, MH.out, fun h => by have := hkp.out; omega, fun hk => ⟨by rw [hnH.out, (hnum.out hk).1 (by omega)]; rfl, fun t ht => by rw [hnH.out, (hnum.out hk).1 (by omega)] at ht; injection ht with ht; subst ht; exact ⟨rfl, rfl⟩⟩⟩
end
end Go.Proofs.YtiedbfaehndooaaDoor
