/- An outline's bytes are read again: plain words, no program in sight. -/
import Derived.Test.YtmmepjcndofnbaaSimpP
namespace Go.Proofs.Ytmmepjcndofnbaa
open Go Go.RowKit
set_option linter.unusedVariables false
set_option linter.unusedSimpArgs false
set_option maxRecDepth 100000

/-! ## flags in a row -/
/-- Flags that tell the same. -/
def AsF (f f' : Int) : Prop := bitB f 1 = bitB f' 1 ∧ bitB f 2 = bitB f' 2 ∧ bitB f 4 = bitB f' 4 ∧ bitB f 16 = bitB f' 16 ∧ bitB f 32 = bitB f' 32
/-- A flag as it is told of a point: no row, no sign. -/
def FlagF (f : Int) : Prop := 0 ≤ f ∧ f < 128 ∧ bitB f 8 = false
theorem flag_row_nat : ∀ n : Nat, n < 128 → bitB (or8 n 8) 8 = true ∧ or8 n 8 ≤ 127 ∧ bitB (or8 n 8) 1 = bitB n 1 ∧ bitB (or8 n 8) 2 = bitB n 2 ∧ bitB (or8 n 8) 4 = bitB n 4 ∧ bitB (or8 n 8) 16 = bitB n 16 ∧ bitB (or8 n 8) 32 = bitB n 32 := by decide +kernel
theorem flag_row {f : Int} (h : FlagF f) : bitB (or8 f 8) 8 = true ∧ or8 f 8 ≤ 127 ∧ AsF (or8 f 8) f := by
  obtain ⟨h0, h1, -⟩ := h
  obtain ⟨n, rfl⟩ : ∃ n : Nat, f = n := ⟨f.toNat, by omega⟩
  exact flag_row_nat n (by omega)
theorem rn_all {l : List Int} {j : Nat} (h : j < rn l) : l.getD j 0 = l.getD 0 0 := by
  match l, h with
  | [], h => exact absurd h (by simp [rn])
  | f :: t, h =>
    cases j with
    | zero => rfl
    | succ j =>
      have h : j + 1 < 1 + min 255 (runL f t) := h
      have := (runL_spec f t).2.1 j (by omega)
      simpa using this
theorem getD_mid {p q s : List Int} {i : Nat} (h : i < q.length) : (p ++ (q ++ s)).getD (p.length + i) 0 = q.getD i 0 := by
  simp [List.getD, List.getElem?_append_right, List.getElem?_append_left h]
/-- The first flag's bytes, and what stands behind. -/
theorem row_head {fl p s : List Int} (h : 0 < fl.length) (hf : ∀ x ∈ fl, FlagF x) :
    ∃ x, flOk (p ++ (rowE fl ++ s)) p.length fl.length = true ∧ (p ++ (rowE fl ++ s)).getD p.length 0 = x ∧ fRep (p ++ (rowE fl ++ s)) p.length = rn fl ∧ fWid (p ++ (rowE fl ++ s)) p.length = (rowE fl).length ∧ AsF x (fl.getD 0 0) := by
  have hF : FlagF (fl.getD 0 0) := hf _ (by cases fl with | nil => simp at h | cons f t => simp)
  obtain ⟨r1, r2⟩ := rn_le fl
  by_cases h1 : rn fl > 1
  · have e : rowE fl = [or8 (fl.getD 0 0) 8, (rn fl : Int) - 1] := if_pos h1
    obtain ⟨f1, f2, f3⟩ := flag_row hF
    have g0 : (p ++ (rowE fl ++ s)).getD p.length 0 = or8 (fl.getD 0 0) 8 := by
      have := getD_mid (p := p) (q := rowE fl) (s := s) (i := 0) (by rw [e]; simp)
      rw [Nat.add_zero] at this; rw [this, e]; rfl
    have g1 : (p ++ (rowE fl ++ s)).getD (p.length + 1) 0 = (rn fl : Int) - 1 := by
      rw [getD_mid (p := p) (q := rowE fl) (s := s) (i := 1) (by rw [e]; simp), e]; rfl
    have e1 : fRep (p ++ (rowE fl ++ s)) p.length = rn fl := by unfold fRep; rw [g0, f1, if_pos rfl, g1]; omega
    have e2 : fWid (p ++ (rowE fl ++ s)) p.length = (rowE fl).length := by unfold fWid; rw [g0, f1, if_pos rfl, e]; rfl
    refine ⟨_, ?_, g0, e1, e2, f3⟩
    unfold flOk
    rw [e1, e2, g0]
    exact decide_eq_true ⟨by simp, f2, r1⟩
  · have e : rowE fl = [fl.getD 0 0] := if_neg h1
    have hr : rn fl = 1 := by
      cases fl with
      | nil => simp at h
      | cons f t => have := rn_pos f t; omega
    have g0 : (p ++ (rowE fl ++ s)).getD p.length 0 = fl.getD 0 0 := by
      have := getD_mid (p := p) (q := rowE fl) (s := s) (i := 0) (by rw [e]; simp)
      rw [Nat.add_zero] at this; rw [this, e]; rfl
    have e1 : fRep (p ++ (rowE fl ++ s)) p.length = rn fl := by unfold fRep; rw [g0, hF.2.2, hr]; rfl
    have e2 : fWid (p ++ (rowE fl ++ s)) p.length = (rowE fl).length := by unfold fWid; rw [g0, hF.2.2, e]; rfl
    refine ⟨_, ?_, g0, e1, e2, rfl, rfl, rfl, rfl, rfl⟩
    unfold flOk
    rw [e1, e2, g0]
    exact decide_eq_true ⟨by simp, by have := hF.2.1; omega, r1⟩
theorem flS_rows : ∀ (m : Nat) (fl p s : List Int), fl.length ≤ m → (∀ x ∈ fl, FlagF x) →
    ∃ fl', flS (p ++ (rowsB fl ++ s)) p.length fl.length = some (fl', p.length + (rowsB fl).length) ∧ fl'.length = fl.length ∧ ∀ i, i < fl.length → AsF (fl'.getD i 0) (fl.getD i 0)
  | m, [], p, s, _, _ => ⟨[], rfl, rfl, fun i hi => absurd hi (by simp)⟩
  | 0, f :: t, p, s, h, _ => by simp at h
  | m + 1, f :: t, p, s, h, hf => by
    have hpos := rn_pos f t
    obtain ⟨r1, r2⟩ := rn_le (f :: t)
    have hall := @rn_all (f :: t)
    have hu := rowsB_cons (l := f :: t) (by simp)
    generalize hfl : f :: t = fl at *
    have hlp : 0 < fl.length := by rw [← hfl]; simp
    obtain ⟨x, h1, h2, h3, h4, h5⟩ := row_head (p := p) (s := rowsB (fl.drop (rn fl)) ++ s) hlp hf
    obtain ⟨r, i1, i2, i3⟩ := flS_rows m (fl.drop (rn fl)) (p ++ rowE fl) s (by rw [List.length_drop]; omega) (fun y hy => hf y (List.mem_of_mem_drop hy))
    have e : p ++ (rowsB fl ++ s) = p ++ (rowE fl ++ (rowsB (fl.drop (rn fl)) ++ s)) := by rw [hu, List.append_assoc]
    simp only [List.append_assoc, List.length_append, List.length_drop] at i1 i2 i3
    refine ⟨List.replicate (rn fl) x ++ r, ?_, by rw [List.length_append, List.length_replicate, i2]; omega, fun i hi => ?_⟩
    · rw [e, flS_pos _ _ hlp, h1, if_pos rfl, h2, h3, h4, i1, Option.map_some, hu, List.length_append]
      congr 2; omega
    · by_cases hi2 : i < rn fl
      · have e1 : (List.replicate (rn fl) x ++ r).getD i 0 = x := by simp [List.getD, List.getElem?_append_left, hi2, List.getElem?_replicate]
        rw [e1, hall hi2]; exact h5
      · have e1 : (List.replicate (rn fl) x ++ r).getD i 0 = r.getD (i - rn fl) 0 := by
          simp only [List.getD]
          rw [List.getElem?_append_right (by rw [List.length_replicate]; omega), List.length_replicate]
        have := i3 (i - rn fl) (by omega)
        rw [getD_drop', show rn fl + (i - rn fl) = i by omega] at this
        rw [e1]; exact this

/-! ## places -/
/-- What a flag tells of a change. -/
def TellsD (f d sh sa : Int) : Prop := bitB f sh = decide (d ≠ 0 ∧ -255 ≤ d ∧ d ≤ 255) ∧ bitB f sa = decide (d = 0 ∨ (0 < d ∧ d ≤ 255))
theorem lay_read {f d sh sa : Int} {p s : List Int} (hd : I16 d) (h : TellsD f d sh sa) :
    nbOk (p ++ (layB d ++ s)) p.length f sh sa = true ∧ nbV (p ++ (layB d ++ s)) p.length f sh sa = d ∧ (chW f sh sa).toNat = (layB d).length := by
  obtain ⟨h1, h2⟩ := h
  obtain ⟨d0, d1⟩ := hd
  unfold nbOk nbV chW
  by_cases q0 : d = 0
  · subst q0
    rw [decide_eq_false (by omega)] at h1
    rw [decide_eq_true (by omega)] at h2
    simp only [h1, h2, if_true, Bool.false_eq_true, if_false]
    exact ⟨trivial, trivial, rfl⟩
  · by_cases q1 : 0 < d ∧ d ≤ 255
    · have e : layB d = [d] := by unfold layB; rw [if_neg q0, if_pos q1]
      rw [decide_eq_true (by omega)] at h1
      rw [decide_eq_true (by omega)] at h2
      simp only [h1, h2, if_true, e]
      refine ⟨by simp, ?_, rfl⟩
      exact getD_mid (p := p) (q := [d]) (s := s) (i := 0) (by simp)
    · by_cases q2 : d < 0 ∧ -255 ≤ d
      · have e : layB d = [-d] := by unfold layB; rw [if_neg q0, if_neg q1, if_pos q2]
        rw [decide_eq_true (by omega)] at h1
        rw [decide_eq_false (by omega)] at h2
        simp only [h1, h2, if_true, e, Bool.false_eq_true, if_false]
        refine ⟨by simp, ?_, rfl⟩
        have := getD_mid (p := p) (q := [-d]) (s := s) (i := 0) (by simp)
        rw [Nat.add_zero] at this
        rw [this]
        show - -d = d
        omega
      · have e : layB d = b2 (d % 65536) := by unfold layB; rw [if_neg q0, if_neg q1, if_neg q2]
        rw [decide_eq_false (by omega)] at h1
        rw [decide_eq_false (by omega)] at h2
        simp only [h1, h2, e, Bool.false_eq_true, if_false]
        refine ⟨by simp [b2_length], ?_, rfl⟩
        rw [n2_app rfl (by omega) (by omega), sgn_mod d0 d1]
theorem flat_split (g : Nat → List Int) : ∀ (n k : Nat), k < n → ∃ q, (List.range n).flatMap g = (List.range k).flatMap g ++ (g k ++ q)
  | 0, k, h => by omega
  | n + 1, k, h => by
    by_cases e : k = n
    · subst e; exact ⟨[], by simp [List.range_succ]⟩
    · obtain ⟨q, hq⟩ := flat_split g n k (by omega)
      exact ⟨q ++ g n, by rw [List.range_succ, List.flatMap_append, hq]; simp⟩
theorem numK_lay {sh sa : Int} {D V : Nat → Int} {n : Nat} {fs p s : List Int} (h0 : V 0 = 0) (hV : ∀ k, k < n → V (k + 1) = V k + D k) (hD : ∀ k, k < n → I16 (D k)) (hI : ∀ k, k < n → I16 (V (k + 1)))
    (hf : ∀ k, k < n → TellsD (fs.getD k 0) (D k) sh sa) : ∀ k, k ≤ n →
    numK (p ++ ((List.range n).flatMap (fun i => layB (D i)) ++ s)) sh sa fs p.length k = some ((List.range k).map (fun i => V (i + 1)), p.length + ((List.range k).flatMap fun i => layB (D i)).length, V k)
  | 0, _ => by rw [h0]; rfl
  | k + 1, hk => by
    rw [numK, numK_lay h0 hV hD hI hf k (by omega), Option.bind_some]
    obtain ⟨q, hq⟩ := flat_split (fun i => layB (D i)) n k (by omega)
    have e : p ++ ((List.range n).flatMap (fun i => layB (D i)) ++ s) = (p ++ (List.range k).flatMap (fun i => layB (D i))) ++ (layB (D k) ++ (q ++ s)) := by rw [hq]; simp
    obtain ⟨l1, l2, l3⟩ := lay_read (p := p ++ (List.range k).flatMap (fun i => layB (D i))) (s := q ++ s) (hD k (by omega)) (hf k (by omega))
    have hfit : fitB (V k + D k) = true := by
      have := hI k (by omega)
      rw [hV k (by omega)] at this
      exact decide_eq_true ⟨this.1, by have := this.2; omega⟩
    unfold nStep
    dsimp only
    rw [e, ← List.length_append, l1, l2, l3, hfit, ← hV k (by omega), List.range_succ, List.flatMap_append, List.map_append]
    simp only [Bool.and_self, if_true, List.length_append, List.flatMap_cons, List.flatMap_nil, List.append_nil, List.map_cons, List.map_nil]
    congr 3; omega

/-! ## the flags that are written -/
def layC (c : Nat) (sh sa : Int) : Int := if c = 0 then sa else if c = 1 then or8 sh sa else if c = 2 then sh else 0
theorem lay_cls (d : Int) : ∃ c, c < 4 ∧ (∀ sh sa, layF d sh sa = layC c sh sa) ∧ decide (d ≠ 0 ∧ -255 ≤ d ∧ d ≤ 255) = (c == 1 || c == 2) ∧ decide (d = 0 ∨ (0 < d ∧ d ≤ 255)) = (c == 0 || c == 1) := by
  by_cases q0 : d = 0
  · exact ⟨0, by omega, fun sh sa => by unfold layF; rw [if_pos q0]; rfl, decide_eq_false (by omega), decide_eq_true (by omega)⟩
  · by_cases q1 : 0 < d ∧ d ≤ 255
    · exact ⟨1, by omega, fun sh sa => by unfold layF; rw [if_neg q0, if_pos q1]; rfl, decide_eq_true (by omega), decide_eq_true (by omega)⟩
    · by_cases q2 : d < 0 ∧ -255 ≤ d
      · exact ⟨2, by omega, fun sh sa => by unfold layF; rw [if_neg q0, if_neg q1, if_pos q2]; rfl, decide_eq_true (by omega), decide_eq_false (by omega)⟩
      · exact ⟨3, by omega, fun sh sa => by unfold layF; rw [if_neg q0, if_neg q1, if_neg q2]; rfl, decide_eq_false (by omega), decide_eq_false (by omega)⟩
def flagC (c d : Nat) (o : Bool) : Int := if o then or8 (or8 (layC c 2 16) (layC d 4 32)) 1 else or8 (layC c 2 16) (layC d 4 32)
theorem flagC_tab : ∀ c, c < 4 → ∀ d, d < 4 → ∀ o : Bool, (0 ≤ flagC c d o ∧ flagC c d o < 128 ∧ bitB (flagC c d o) 8 = false) ∧ bitB (flagC c d o) 1 = o ∧
    bitB (flagC c d o) 2 = (c == 1 || c == 2) ∧ bitB (flagC c d o) 16 = (c == 0 || c == 1) ∧ bitB (flagC c d o) 4 = (d == 1 || d == 2) ∧ bitB (flagC c d o) 32 = (d == 0 || d == 1) := by decide +kernel
theorem flagOf_tells (ps : List (Int × Int × Bool)) (k : Nat) : FlagF (flagOf ps k) ∧ bitB (flagOf ps k) 1 = pO ps k ∧ TellsD (flagOf ps k) (dX ps k) 2 16 ∧ TellsD (flagOf ps k) (dY ps k) 4 32 := by
  obtain ⟨c, c0, c1, c2, c3⟩ := lay_cls (dX ps k)
  obtain ⟨d, d0, d1, d2, d3⟩ := lay_cls (dY ps k)
  have e : flagOf ps k = flagC c d (pO ps k) := by unfold flagOf flagC; rw [c1, d1]
  obtain ⟨t1, t2, t3, t4, t5, t6⟩ := flagC_tab c c0 d d0 (pO ps k)
  rw [e]
  exact ⟨t1, t2, ⟨by rw [t3, c2], by rw [t4, c3]⟩, by rw [t5, d2], by rw [t6, d3]⟩
theorem tells_as {f f' d : Int} (h : AsF f f') : (TellsD f' d 2 16 → TellsD f d 2 16) ∧ (TellsD f' d 4 32 → TellsD f d 4 32) := by
  obtain ⟨-, h1, h2, h3, h4⟩ := h
  exact ⟨fun ⟨a, b⟩ => ⟨h1.trans a, h3.trans b⟩, fun ⟨a, b⟩ => ⟨h2.trans a, h4.trans b⟩⟩
theorem flsK_get (ps : List (Int × Int × Bool)) {n i : Nat} (h : i < n) : (flsK ps n).getD i 0 = flagOf ps i := by simp [flsK, List.getD, h]

/-! ## an outline is read again -/
theorem s2_length (x : Int) : (s2 x).length = 2 := rfl
theorem s2_read {p s : List Int} {x : Int} {a : Nat} (ha : p.length = a) (h : I16 x) : sgn (n2 (p ++ (s2 x ++ s)) a) = x := by
  unfold s2
  rw [n2_app ha (by omega) (by omega), sgn_mod h.1 h.2]
theorem body_sgB {ps : List (Int × Int × Bool)} (p s : List Int) (hp : ∀ i, I16 (pX ps i) ∧ I16 (pY ps i)) (hst : stepB ps ps.length = true) :
    ∃ fl, bodyS (p ++ (rowsB (flsK ps ps.length) ++ (xsK ps ps.length ++ (ysK ps ps.length ++ s)))) p.length ps.length =
      some ((fl, (List.range ps.length).map (pX ps), (List.range ps.length).map (pY ps)), p.length + ((rowsB (flsK ps ps.length)).length + ((xsK ps ps.length).length + (ysK ps ps.length).length))) ∧
      fl.length = ps.length ∧ ∀ i, i < ps.length → bitB (fl.getD i 0) 1 = pO ps i := by
  obtain ⟨fl, h1, h2, h3⟩ := flS_rows _ (flsK ps ps.length) p (xsK ps ps.length ++ (ysK ps ps.length ++ s)) (Nat.le_refl _) (fun x hx => by
    obtain ⟨i, -, rfl⟩ := List.mem_map.1 hx
    exact (flagOf_tells ps i).1)
  rw [flsK_length] at h1 h2 h3
  have h3 := fun i (hi : i < ps.length) => (flsK_get ps hi) ▸ h3 i hi
  have hfit := fun k (hk : k < ps.length) => step_fit hst hk
  have hx := numK_lay (sh := 2) (sa := 16) (D := dX ps) (V := pvX ps) (n := ps.length) (fs := fl) (p := p ++ rowsB (flsK ps ps.length)) (s := ysK ps ps.length ++ s) rfl (fun k _ => by show pX ps k = pvX ps k + (pX ps k - pvX ps k); omega)
    (fun k hk => (hfit k hk).1) (fun k _ => (hp k).1) (fun k hk => (tells_as (h3 k hk)).1 (flagOf_tells ps k).2.2.1) ps.length (Nat.le_refl _)
  have hy := numK_lay (sh := 4) (sa := 32) (D := dY ps) (V := pvY ps) (n := ps.length) (fs := fl) (p := p ++ rowsB (flsK ps ps.length) ++ xsK ps ps.length) (s := s) rfl (fun k _ => by show pY ps k = pvY ps k + (pY ps k - pvY ps k); omega)
    (fun k hk => (hfit k hk).2) (fun k _ => (hp k).2) (fun k hk => (tells_as (h3 k hk)).2 (flagOf_tells ps k).2.2.2) ps.length (Nat.le_refl _)
  refine ⟨fl, ?_, h2, fun i hi => (h3 i hi).1.trans (flagOf_tells ps i).2.1⟩
  change numK ((p ++ rowsB (flsK ps ps.length)) ++ (xsK ps ps.length ++ (ysK ps ps.length ++ s))) 2 16 fl (p ++ rowsB (flsK ps ps.length)).length ps.length = some ((List.range ps.length).map (pX ps), (p ++ rowsB (flsK ps ps.length)).length + (xsK ps ps.length).length, _) at hx
  change numK ((p ++ rowsB (flsK ps ps.length) ++ xsK ps ps.length) ++ (ysK ps ps.length ++ s)) 4 32 fl (p ++ rowsB (flsK ps ps.length) ++ xsK ps ps.length).length ps.length = some ((List.range ps.length).map (pY ps), (p ++ rowsB (flsK ps ps.length) ++ xsK ps ps.length).length + (ysK ps ps.length).length, _) at hy
  simp only [List.append_assoc, List.length_append] at hx hy
  unfold bodyS
  rw [h1, Option.bind_some]
  dsimp only
  rw [h2, hx, Option.bind_some]
  dsimp only
  rw [show p.length + (rowsB (flsK ps ps.length)).length + (xsK ps ps.length).length = p.length + ((rowsB (flsK ps ps.length)).length + (xsK ps ps.length).length) by omega, hy, Option.map_some]
  dsimp only
  congr 2; omega
theorem pts_again {ps : List (Int × Int × Bool)} {fl : List Int} (h : fl.length = ps.length) (hb : ∀ i, i < ps.length → bitB (fl.getD i 0) 1 = pO ps i) :
    ptsOf fl ((List.range ps.length).map (pX ps)) ((List.range ps.length).map (pY ps)) = ps := by
  unfold ptsOf
  apply List.ext_getElem
  · simp [h]
  · intro i h1 h2
    rw [pt_eta ps h2]
    simp only [List.getElem_map, List.getElem_range]
    rw [hb i h2]
    simp [List.getD, h2]
/-- Any outline that may be is read of its bytes. -/
theorem parseS_sgB {g : Sg} (hO : g.Ok) (hR : sgR g = true) : parseS (sgB g) = some (g, (sgB g).length) := by
  obtain ⟨hr, hst, bne, bns, bnp⟩ := sgR_parts hR
  obtain ⟨fl, h1, h2, h3⟩ := body_sgB (hdB g) [] hO.at hst
  simp only [List.append_nil] at h1
  have hlen : (sgB g).length = (hdB g).length + ((rowsB (flsK g.pts g.pts.length)).length + ((xsK g.pts g.pts.length).length + (ysK g.pts g.pts.length).length)) := by unfold sgB; simp only [List.length_append]
  have hdl : (hdB g).length = 12 + 2 * g.ends.length + g.prog.length := by
    unfold hdB
    simp only [List.length_append, b2_length, flatN_length b2 b2_length, flatN_length s2 s2_length, Sg.box, List.length_cons, List.length_nil]; omega
  rw [show hdB g ++ (rowsB (flsK g.pts g.pts.length) ++ (xsK g.pts g.pts.length ++ ysK g.pts g.pts.length)) = sgB g from rfl, ← hlen] at h1
  have e : sgB g = b2 g.ends.length ++ (s2 g.b0 ++ (s2 g.b1 ++ (s2 g.b2 ++ (s2 g.b3 ++ (g.ends.flatMap b2 ++ (b2 g.prog.length ++ (g.prog ++ (rowsB (flsK g.pts g.pts.length) ++ (xsK g.pts g.pts.length ++ ysK g.pts g.pts.length))))))))) := by
    simp [sgB, hdB, Sg.box]
  generalize rowsB (flsK g.pts g.pts.length) ++ (xsK g.pts g.pts.length ++ ysK g.pts g.pts.length) = B at e
  generalize sgB g = l at *
  have eN : pN l = g.ends.length := by
    unfold pN
    rw [e, show b2 (g.ends.length : Int) ++ (s2 g.b0 ++ _) = [] ++ (b2 (g.ends.length : Int) ++ (s2 g.b0 ++ _)) from rfl, n2_app (a := 0) rfl (by omega) (by omega)]; omega
  have eE : pE l = g.ends := by
    unfold pE
    rw [eN, e, show ∀ R : List Int, b2 (g.ends.length : Int) ++ (s2 g.b0 ++ (s2 g.b1 ++ (s2 g.b2 ++ (s2 g.b3 ++ (g.ends.flatMap b2 ++ R))))) = (b2 (g.ends.length : Int) ++ (s2 g.b0 ++ (s2 g.b1 ++ (s2 g.b2 ++ s2 g.b3)))) ++ (g.ends.flatMap b2 ++ R) from fun R => by simp]
    exact u16s_app rfl _ hO.en
  have hEl : (g.ends.flatMap b2).length = 2 * g.ends.length := flatN_length b2 b2_length _
  have eZ : pZ l = g.prog.length := by
    unfold pZ
    rw [eN, e, show ∀ R : List Int, b2 (g.ends.length : Int) ++ (s2 g.b0 ++ (s2 g.b1 ++ (s2 g.b2 ++ (s2 g.b3 ++ (g.ends.flatMap b2 ++ (b2 (g.prog.length : Int) ++ R)))))) = (b2 (g.ends.length : Int) ++ (s2 g.b0 ++ (s2 g.b1 ++ (s2 g.b2 ++ (s2 g.b3 ++ g.ends.flatMap b2))))) ++ (b2 (g.prog.length : Int) ++ R) from fun R => by simp,
      n2_app (by simp only [List.length_append, b2_length, s2_length, hEl]; omega) (by omega) (by omega)]; omega
  have eA : pA l = (hdB g).length := by unfold pA; rw [eN, eZ, hdl]
  have eQ : pQ l = g.pts.length := by unfold pQ; rw [eN, eE, ← bns]; omega
  have x0 : sgn (n2 l 2) = g.b0 := by
    rw [e, s2_read (a := 2) (p := b2 g.ends.length) rfl hO.x0]
  have x1 : sgn (n2 l 4) = g.b1 := by
    rw [e, show ∀ R : List Int, b2 (g.ends.length : Int) ++ (s2 g.b0 ++ R) = (b2 (g.ends.length : Int) ++ s2 g.b0) ++ R from fun R => by simp, s2_read (a := 4) rfl hO.x1]
  have x2 : sgn (n2 l 6) = g.b2 := by
    rw [e, show ∀ R : List Int, b2 (g.ends.length : Int) ++ (s2 g.b0 ++ (s2 g.b1 ++ R)) = (b2 (g.ends.length : Int) ++ (s2 g.b0 ++ s2 g.b1)) ++ R from fun R => by simp, s2_read (a := 6) rfl hO.x2]
  have x3 : sgn (n2 l 8) = g.b3 := by
    rw [e, show ∀ R : List Int, b2 (g.ends.length : Int) ++ (s2 g.b0 ++ (s2 g.b1 ++ (s2 g.b2 ++ R))) = (b2 (g.ends.length : Int) ++ (s2 g.b0 ++ (s2 g.b1 ++ s2 g.b2))) ++ R from fun R => by simp, s2_read (a := 8) rfl hO.x3]
  have xp : (l.drop (12 + 2 * pN l)).take (pZ l) = g.prog := by
    rw [eN, eZ, e, show ∀ R : List Int, b2 (g.ends.length : Int) ++ (s2 g.b0 ++ (s2 g.b1 ++ (s2 g.b2 ++ (s2 g.b3 ++ (g.ends.flatMap b2 ++ (b2 (g.prog.length : Int) ++ R)))))) = (b2 (g.ends.length : Int) ++ (s2 g.b0 ++ (s2 g.b1 ++ (s2 g.b2 ++ (s2 g.b3 ++ (g.ends.flatMap b2 ++ b2 (g.prog.length : Int))))))) ++ R from fun R => by simp,
      List.drop_left' (by simp only [List.length_append, b2_length, s2_length, hEl]; omega), List.take_left' rfl]
  have hH : headB l = true := by
    unfold headB
    rw [eN, eE, eA, hr, hlen, hdl]
    simp only [Bool.and_eq_true, decide_eq_true_eq]
    exact ⟨by omega, by omega, trivial, by omega⟩
  unfold parseS
  rw [hH, if_pos rfl, eA, eQ, h1, Option.map_some]
  unfold pG
  dsimp only
  rw [x0, x1, x2, x3, eE, xp, pts_again h2 h3]
/-! ## the bytes are bytes -/
theorem layB_bytes (d : Int) : Bytes (layB d) := by
  unfold layB
  split
  · exact bytes_nil
  · split
    · exact Bytes.one (by omega) (by omega)
    · split
      · exact Bytes.one (by omega) (by omega)
      · exact bytes_b2 _
theorem flat_bytes {α : Type} {f : α → List Int} (h : ∀ x, Bytes (f x)) (l : List α) : Bytes (l.flatMap f) := fun x hx => by
  obtain ⟨a, -, ha⟩ := List.mem_flatMap.1 hx
  exact h a x ha
theorem rowsF_bytes : ∀ (k : Nat) (l : List Int), Bytes l → Bytes (rowsF k l)
  | 0, _, _ => bytes_nil
  | _ + 1, [], _ => bytes_nil
  | k + 1, f :: t, h => by
    show Bytes (rowE (f :: t) ++ rowsF k ((f :: t).drop (rn (f :: t))))
    refine Bytes.append ?_ (rowsF_bytes k _ (h.drop _))
    have hr := rn_le (f :: t)
    have hp := rn_pos f t
    unfold rowE
    split
    · intro x hx
      simp only [List.mem_cons, List.not_mem_nil, or_false] at hx
      rcases hx with rfl | rfl
      · exact or8_bd _ _
      · omega
    · exact Bytes.one (h.get 0).1 (h.get 0).2
theorem sgB_bytes {g : Sg} (h : g.Ok) : Bytes (sgB g) := by
  unfold sgB hdB xsK ysK
  refine Bytes.append (Bytes.append (bytes_b2 _) (Bytes.append (flat_bytes (fun x => bytes_b2 _) _) (Bytes.append (flat_bytes bytes_b2 _) (Bytes.append (bytes_b2 _) h.pr)))) (Bytes.append (rowsF_bytes _ _ (flsK_bytes _ _)) (Bytes.append (flat_bytes (fun i => layB_bytes _) _) (flat_bytes (fun i => layB_bytes _) _)))
end Go.Proofs.Ytmmepjcndofnbaa
