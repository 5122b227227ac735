/- Layer 13: the bytes of a glyph that was read are those of which it was read. Plain law. -/
import Derived.Test.YteoicpbfjkjogaaCompU
namespace Go.Proofs.Yteoicpbfjkjogaa
open Go Go.RowKit
set_option linter.unusedVariables false
set_option linter.unusedSimpArgs false
set_option maxRecDepth 100000

def tk (l : List Int) (a k : Nat) : List Int := (l.drop a).take k
theorem tk_add (l : List Int) (a m k : Nat) : tk l a (m + k) = tk l a m ++ tk l (a + m) k := by
  unfold tk
  rw [List.take_add, List.drop_drop]
theorem tk_len {l : List Int} {a k : Nat} (h : a + k ≤ l.length) : (tk l a k).length = k := by
  unfold tk; rw [List.length_take, List.length_drop]; omega
theorem tk_2 {l : List Int} {a : Nat} (h : a + 2 ≤ l.length) : tk l a 2 = [l.getD a 0, l.getD (a + 1) 0] := by
  apply List.ext_getElem?
  intro i
  unfold tk
  rw [List.getElem?_take]
  rcases (show i = 0 ∨ i = 1 ∨ 2 ≤ i by omega) with rfl | rfl | hi
  · rw [if_pos (by omega), List.getElem?_drop]
    simp [List.getD, show a < l.length by omega]
  · rw [if_pos (by omega), List.getElem?_drop]
    simp [List.getD, show a + 1 < l.length by omega]
  · rw [if_neg (by omega), List.getElem?_eq_none (by simpa using hi)]
theorem b2_tk {l : List Int} (hB : Bytes l) {a : Nat} (h : a + 2 ≤ l.length) : b2 (n2 l a) = tk l a 2 := by
  rw [tk_2 h]
  unfold n2 b2
  rw [if_pos h]
  have h0 := hB.get a
  have h1 := hB.get (a + 1)
  generalize l.getD a 0 = x at *
  generalize l.getD (a + 1) 0 = y at *
  rw [show (256 * x + y) / 256 % 256 = x by omega, show (256 * x + y) % 256 = y by omega]
theorem s2_tk {l : List Int} (hB : Bytes l) {a : Nat} (h : a + 2 ≤ l.length) : s2 (sgn (n2 l a)) = tk l a 2 := by
  rw [← b2_tk hB h]
  unfold s2 sgn
  have := n2_bound hB a
  congr 1
  split <;> omega
theorem sg8_mod {x : Int} (x0 : 0 ≤ x) (x1 : x < 256) : sg8 x % 256 = x := by unfold sg8; split <;> omega
theorem has_less {f : Int} (f0 : 0 ≤ f) : hasB (f - 32 * b01 (hasB f 32)) 1 = hasB f 1 := by
  have e : f - 32 * b01 (hasB f 32) = f - 32 * (f / 32 % 2) := by rw [b01_has]
  rw [e]; unfold hasB; rw [show (f - 32 * (f / 32 % 2)) / 1 % 2 = f / 1 % 2 by omega]
/-- A part's bytes are those of which it was read. -/
theorem lay_back {l : List Int} (hB : Bytes l) {a : Nat} (h : a + wid (n2 l a) ≤ l.length) (hR : partB (ptAt l a) = true) : layP (ptAt l a) (!hasB (n2 l a) 32) = tk l a (wid (n2 l a)) := by
  obtain ⟨F0, F1⟩ := n2_bound hB a
  have hw := wid_pos (n2 l a)
  have hm : matB (ptAt l a) = true := by
    unfold partB at hR
    simp only [Bool.and_eq_true] at hR
    exact hR.2.2.1
  have hk : kd (ptAt l a).f = kd (n2 l a) := kd_less F0
  have h1 : hasB (ptAt l a).f 1 = hasB (n2 l a) 1 := has_less F0
  have hmp := mat_parts hm
  rw [hk] at hmp
  have hF : layF (ptAt l a).f (!hasB (n2 l a) 32) = n2 l a := by
    show (if (!hasB (n2 l a) 32) = true then n2 l a - 32 * b01 (hasB (n2 l a) 32) else n2 l a - 32 * b01 (hasB (n2 l a) 32) + 32) = n2 l a
    cases hasB (n2 l a) 32
    · simp [b01]
    · simp [b01]
  have hxy : xyB (ptAt l a) = tk l (a + 4) (2 * eachW (n2 l a)) := by
    unfold xyB eachW
    rw [h1]
    cases hb : hasB (n2 l a) 1
    · rw [if_neg (by simp), if_neg (by simp)]
      have e : wid (n2 l a) = 4 + 2 * 1 + 2 * kn (n2 l a) := by unfold wid eachW; rw [hb]; rfl
      rw [show 2 * 1 = 2 from rfl, tk_2 (by omega)]
      show [xAt l a (n2 l a) % 256, yAt l a (n2 l a) % 256] = _
      unfold xAt yAt
      rw [hb, if_neg (by simp), if_neg (by simp), sg8_mod (hB.get _).1 (hB.get _).2, sg8_mod (hB.get _).1 (hB.get _).2]
    · rw [if_pos rfl, if_pos rfl]
      have e : wid (n2 l a) = 4 + 2 * 2 + 2 * kn (n2 l a) := by unfold wid eachW; rw [hb]; rfl
      rw [show 2 * 2 = 2 + 2 from rfl, tk_add, ← s2_tk hB (by omega), ← s2_tk hB (by omega)]
      show s2 (xAt l a (n2 l a)) ++ s2 (yAt l a (n2 l a)) = _
      unfold xAt yAt
      rw [hb, if_pos rfl, if_pos rfl]
  have hmb : mB (ptAt l a) = tk l (a + 4 + 2 * eachW (n2 l a)) (2 * kn (n2 l a)) := by
    have hq : a + (4 + 2 * eachW (n2 l a)) = a + 4 + 2 * eachW (n2 l a) := by omega
    have e : wid (n2 l a) = 4 + 2 * eachW (n2 l a) + 2 * kn (n2 l a) := rfl
    unfold mB kn
    rw [hk]
    unfold kn at e
    show (if kd (n2 l a) = 4 then s2 (mtA l (a + (4 + 2 * eachW (n2 l a))) (n2 l a)) ++ (s2 (mtB l (a + (4 + 2 * eachW (n2 l a))) (n2 l a)) ++ (s2 (mtC l (a + (4 + 2 * eachW (n2 l a))) (n2 l a)) ++ s2 (mtD l (a + (4 + 2 * eachW (n2 l a))) (n2 l a)))) else if kd (n2 l a) = 2 then s2 (mtA l (a + (4 + 2 * eachW (n2 l a))) (n2 l a)) ++ s2 (mtD l (a + (4 + 2 * eachW (n2 l a))) (n2 l a)) else if kd (n2 l a) = 1 then s2 (mtA l (a + (4 + 2 * eachW (n2 l a))) (n2 l a)) else []) = _
    rw [hq]
    unfold mtA mtB mtC mtD
    generalize a + 4 + 2 * eachW (n2 l a) = q at *
    rcases hmp with h4 | ⟨h2, -⟩ | ⟨h1, -⟩ | ⟨h0, -⟩
    · rw [h4] at e ⊢
      rw [if_pos rfl, if_pos rfl, if_pos rfl, if_pos rfl, if_pos rfl, if_pos rfl] at *
      rw [show 2 * 4 = 2 + (2 + (2 + 2)) from rfl, tk_add, tk_add, tk_add, s2_tk hB (by omega), s2_tk hB (by omega), s2_tk hB (by omega), s2_tk hB (by omega)]
    · rw [h2] at e ⊢
      have e' : wid (n2 l a) = 4 + 2 * eachW (n2 l a) + 2 * 2 := e
      show s2 (sgn (n2 l q)) ++ s2 (sgn (n2 l (q + 2))) = tk l q (2 * 2)
      rw [show 2 * 2 = 2 + 2 from rfl, tk_add, s2_tk hB (by omega), s2_tk hB (by omega)]
    · rw [h1] at e ⊢
      have e' : wid (n2 l a) = 4 + 2 * eachW (n2 l a) + 2 * 1 := e
      show s2 (sgn (n2 l q)) = tk l q (2 * 1)
      rw [show 2 * 1 = 2 from rfl, s2_tk hB (by omega)]
    · rw [h0]
      show ([] : List Int) = tk l q (2 * 0)
      simp [tk]
  unfold layP
  rw [hF, hxy, hmb, b2_tk hB (by omega)]
  rw [show b2 (ptAt l a).g = tk l (a + 2) 2 from b2_tk hB (by omega)]
  rw [show wid (n2 l a) = 2 + (2 + (2 * eachW (n2 l a) + 2 * kn (n2 l a))) by unfold wid; omega, tk_add, tk_add, tk_add]
theorem pts_back {l : List Int} (hB : Bytes l) : ∀ (k a : Nat) (ps : List Pt) (e : Nat), ptsF k l a = some (ps, e) → (∀ i, i < ps.length → partB (pAt ps i) = true) →
    a ≤ e ∧ e ≤ l.length ∧ 1 ≤ ps.length ∧ (∀ p ∈ ps, p.Ok) ∧ (List.range ps.length).flatMap (fun i => layP (pAt ps i) (decide (i + 1 = ps.length))) = tk l a (e - a)
  | 0, a, ps, e, h, _ => by cases h
  | k + 1, a, ps, e, h, hR => by
    rw [ptsF_succ] at h
    by_cases hw : a + wid (n2 l a) ≤ l.length
    · rw [if_pos hw] at h
      by_cases h32 : hasB (n2 l a) 32 = true
      · rw [if_pos h32] at h
        obtain ⟨⟨ps', e'⟩, h1, h2⟩ := Option.map_eq_some_iff.1 h
        injection h2 with h2 h3
        subst h2 h3
        have hlb := lay_back hB hw (hR 0 (by simp))
        obtain ⟨i1, i2, i3, i4, i5⟩ := pts_back hB k _ ps' e' h1 (fun i hi => hR (i + 1) (by simpa using hi))
        refine ⟨by omega, i2, by simp, fun p hp => ?_, ?_⟩
        · rcases List.mem_cons.1 hp with rfl | hp
          · exact ptAt_ok hB a
          · exact i4 p hp
        · rw [h32] at hlb
          show (List.range (ps'.length + 1)).flatMap _ = _
          rw [List.range_succ_eq_map, List.flatMap_cons, List.flatMap_map]
          have e1 : layP (pAt (ptAt l a :: ps') 0) (decide (0 + 1 = (ptAt l a :: ps').length)) = tk l a (wid (n2 l a)) := by
            rw [← hlb, decide_eq_false (by simp; intro hc; subst hc; simp at i3)]
            rfl
          have e2 : (fun i => layP (pAt (ptAt l a :: ps') (i + 1)) (decide (i + 1 + 1 = (ptAt l a :: ps').length))) = fun i => layP (pAt ps' i) (decide (i + 1 = ps'.length)) := by
            funext i
            rw [show pAt (ptAt l a :: ps') (i + 1) = pAt ps' i from rfl]
            congr 1
            simp
          rw [e1]
          show tk l a (wid (n2 l a)) ++ (List.range ps'.length).flatMap (fun i => layP (pAt (ptAt l a :: ps') (i + 1)) (decide (i + 1 + 1 = (ptAt l a :: ps').length))) = _
          rw [e2, i5, show e' - a = wid (n2 l a) + (e' - (a + wid (n2 l a))) by omega, tk_add]
      · rw [if_neg h32] at h
        injection h with h
        injection h with h2 h3
        subst h2 h3
        have hlb := lay_back hB hw (hR 0 (by simp))
        refine ⟨by omega, hw, by simp, fun p hp => ?_, ?_⟩
        · rw [List.mem_singleton] at hp; subst hp; exact ptAt_ok hB a
        · rw [Bool.eq_false_iff.2 h32] at hlb
          rw [show a + wid (n2 l a) - a = wid (n2 l a) by omega, ← hlb]
          show (List.range 1).flatMap _ = _
          simp [pAt]
    · rw [if_neg hw] at h; cases h
/-- What was read has the bytes of which it was read. -/
theorem cpS_back {l : List Int} (hB : Bytes l) {g : Cg} {n : Nat} (h : cpS l = some (g, n)) : g.Ok ∧ cgR g = true ∧ n ≤ l.length ∧ cgB g = l.take n := by
  unfold cpS at h
  by_cases h0 : n2 l 0 = 65535
  · rw [if_pos h0] at h
    obtain ⟨⟨ps, a⟩, h1, h⟩ := Option.bind_eq_some_iff.1 h
    obtain ⟨⟨g', n'⟩, h2, h⟩ := Option.bind_eq_some_iff.1 h
    by_cases hR : cgR g' = true
    · rw [if_pos hR] at h
      injection h with h
      injection h with e1 e2
      subst e1 e2
      have hgp : g'.parts = ps := by
        simp only [tailS] at h2
        split at h2
        · split at h2
          · injection h2 with h2; injection h2 with h2; subst h2; rfl
          · cases h2
        · injection h2 with h2; injection h2 with h2; subst h2; rfl
      obtain ⟨hall, -⟩ := cgR_parts hR
      have hpR : ∀ i, i < ps.length → partB (pAt ps i) = true := fun i hi => by
        rw [hgp] at hall
        exact partsB_all hall hi
      obtain ⟨b1, b2', b3, b4, b5⟩ := pts_back hB 201 10 ps a h1 hpR
      have hs16 := fun k => sgn_i16 (n2_bound hB k).1 (n2_bound hB k).2
      have hbox : ([sgn (n2 l 2), sgn (n2 l 4), sgn (n2 l 6), sgn (n2 l 8)] : List Int).flatMap s2 = tk l 2 8 := by
        rw [show 8 = 2 + (2 + (2 + 2)) from rfl, tk_add, tk_add, tk_add, ← s2_tk hB (by omega), ← s2_tk hB (by omega), ← s2_tk hB (by omega), ← s2_tk hB (by omega)]
        simp
      have hlay : laysP ps ps.length = tk l 10 (a - 10) := b5
      have hhead : b2 65535 = tk l 0 2 := by rw [← h0]; exact b2_tk hB (by omega)
      have hcat : ∀ pr m, progB (boxS l ps pr) = tk l a m → cgB (boxS l ps pr) = tk l 0 (a + m) := fun pr m hp => by
        unfold cgB
        rw [hp, show (boxS l ps pr).box = [sgn (n2 l 2), sgn (n2 l 4), sgn (n2 l 6), sgn (n2 l 8)] from rfl, hbox, show (boxS l ps pr).parts = ps from rfl, hlay, hhead]
        rw [show a + m = 2 + (8 + ((a - 10) + m)) by omega, tk_add, tk_add, tk_add]
        simp only [Nat.zero_add]
        rw [show 2 + 8 = 10 from rfl, show 10 + (a - 10) = a by omega]
      have htk : ∀ m, tk l 0 m = l.take m := fun m => by simp [tk]
      simp only [tailS] at h2
      by_cases hc : codeB ps ps.length = true
      · rw [if_pos hc] at h2
        by_cases hz : a + 2 + (n2 l a).toNat ≤ l.length
        · rw [if_pos hz] at h2
          injection h2 with h2
          injection h2 with e1 e2
          subst e1 e2
          have hpr : ((l.drop (a + 2)).take (n2 l a).toNat) = tk l (a + 2) (n2 l a).toNat := rfl
          have hpl : (tk l (a + 2) (n2 l a).toNat).length = (n2 l a).toNat := tk_len (by omega)
          refine ⟨⟨hs16 2, hs16 4, hs16 6, hs16 8, b4, (hB.drop _).take _⟩, hR, hz, ?_⟩
          rw [← htk, Nat.add_assoc]
          refine hcat _ _ ?_
          unfold progB
          rw [show (boxS l ps ((l.drop (a + 2)).take (n2 l a).toNat)).parts = ps from rfl, hc, if_pos rfl, show (boxS l ps ((l.drop (a + 2)).take (n2 l a).toNat)).prog = tk l (a + 2) (n2 l a).toNat from rfl, hpl, tk_add, show (((n2 l a).toNat : Nat) : Int) = n2 l a by have := n2_bound hB a; omega, b2_tk hB (by omega)]
        · rw [if_neg hz] at h2; cases h2
      · rw [if_neg hc] at h2
        injection h2 with h2
        injection h2 with e1 e2
        subst e1 e2
        refine ⟨⟨hs16 2, hs16 4, hs16 6, hs16 8, b4, bytes_nil⟩, hR, b2', ?_⟩
        rw [← htk]
        refine hcat [] 0 ?_
        unfold progB
        rw [show (boxS l ps []).parts = ps from rfl, Bool.eq_false_iff.2 hc]
        simp [tk]
    · rw [if_neg hR] at h; cases h
  · rw [if_neg h0] at h; cases h
/-- Of bytes that are cut off there is none. -/
theorem cpS_cut {g : Cg} (hO : g.Ok) (hR : cgR g = true) {k : Nat} (hk : k < (cgB g).length) : cpS ((cgB g).take k) = none := by
  cases h : cpS ((cgB g).take k) with
  | none => rfl
  | some gn =>
    obtain ⟨g', n⟩ := gn
    have hBy := bytes_cgB hO.pr
    obtain ⟨hO', hR', hn, he⟩ := cpS_back (hBy.take k) h
    rw [List.length_take] at hn
    rw [List.take_take, Nat.min_eq_left (by omega)] at he
    have h1 := cpS_cgB hO' hR' ((cgB g).drop n)
    have h2 := cpS_cgB hO hR []
    rw [he, List.take_append_drop] at h1
    rw [List.append_nil, h1] at h2
    injection h2 with h2
    injection h2 with h3 h4
    rw [List.length_take] at h4
    omega
end Go.Proofs.Yteoicpbfjkjogaa
