/- Package compo: the bytes of a glyph are read again as it. -/
import Derived.Test.YtiedbfaehndooaaDoorCompI
namespace Go.Proofs.YtiedbfaehndooaaDoor
open Go Go.RowKit
set_option linter.unusedVariables false
set_option linter.unusedSimpArgs false
set_option maxRecDepth 100000

theorem s2_readC {p s : List Int} {x : Int} {a : Nat} (ha : p.length = a) (h : I16C x) : sgn (n2 (p ++ (s2C x ++ s)) a) = x := by
  unfold s2C
  rw [n2_app ha (by omega) (by omega), sgn_mod h.1 h.2]
theorem getD_here {p s : List Int} {x : Int} {a : Nat} (ha : p.length = a) : (p ++ (x :: s)).getD a 0 = x := by
  subst ha; simp [List.getD]
theorem sg8_small {x : Int} (h : smallB x = true) : sg8 (x % 256) = x := by
  have := of_decide_eq_true h
  unfold sg8; split <;> omega
theorem mat_parts {q : Pt} (h : matB q = true) : (kd q.f = 4) ∨ (kd q.f = 2 ∧ q.b = 0 ∧ q.c = 0) ∨ (kd q.f = 1 ∧ q.b = 0 ∧ q.c = 0 ∧ q.a = q.d) ∨ (kd q.f = 0 ∧ q.a = 16384 ∧ q.b = 0 ∧ q.c = 0 ∧ q.d = 16384) := by
  unfold matB at h
  by_cases h4 : kd q.f = 4
  · exact .inl h4
  · rw [if_neg h4] at h
    by_cases h2 : kd q.f = 2
    · rw [if_pos h2] at h; exact .inr (.inl ⟨h2, of_decide_eq_true h⟩)
    · rw [if_neg h2] at h
      by_cases h1 : kd q.f = 1
      · rw [if_pos h1] at h; exact .inr (.inr (.inl ⟨h1, of_decide_eq_true h⟩))
      · rw [if_neg h1] at h
        by_cases h0 : kd q.f = 0
        · rw [if_pos h0] at h; exact .inr (.inr (.inr ⟨h0, of_decide_eq_true h⟩))
        · rw [if_neg h0] at h; cases h
theorem xyB_length (q : Pt) : (xyB q).length = 2 * eachW q.f := by unfold xyB eachW; split <;> rfl
theorem mB_length {q : Pt} : (mB q).length = 2 * kn q.f := by
  unfold mB kn
  by_cases h4 : kd q.f = 4
  · rw [if_pos h4, if_pos h4]; rfl
  · rw [if_neg h4, if_neg h4]
    by_cases h2 : kd q.f = 2
    · rw [if_pos h2, if_pos h2]; rfl
    · rw [if_neg h2, if_neg h2]
      by_cases h1 : kd q.f = 1
      · rw [if_pos h1, if_pos h1]; rfl
      · rw [if_neg h1, if_neg h1]; rfl
/-- What is read of a part's bytes is the part. -/
theorem lay_at {q : Pt} (hO : q.Ok) (hR : partB q = true) (last : Bool) {p s l : List Int} {a : Nat} (hl : l = p ++ (layP q last ++ s)) (ha : p.length = a) :
    hasB (n2 l a) 32 = !last ∧ wid (n2 l a) = (layP q last).length ∧ ptAt l a = q := by
  unfold partB at hR
  simp only [Bool.and_eq_true] at hR
  obtain ⟨-, hfl, hmt, hsm⟩ := hR
  obtain ⟨-, h32, -, h8192⟩ := flagB_iff.1 hfl
  obtain ⟨F0, F1, hF1, hFk⟩ := layF_bits hO.f.1 h8192 h32 last
  have hLF : layFC q.f last = if last then q.f else q.f + 32 := rfl
  have hm := mat_parts hmt
  -- the flags
  have e0 : n2 l a = layFC q.f last := by
    rw [hl]; unfold layP
    rw [List.append_assoc]
    exact n2_app ha F0 F1
  have e1 : n2 l (a + 2) = q.g := by
    rw [hl]; unfold layP
    rw [show p ++ (b2 (layFC q.f last) ++ (b2 q.g ++ (xyB q ++ mB q)) ++ s) = (p ++ b2 (layFC q.f last)) ++ (b2 q.g ++ (xyB q ++ mB q ++ s)) by simp only [List.append_assoc]]
    exact n2_app (by rw [List.length_append, b2_length, ha]) hO.g.1 hO.g.2
  have eW : eachW (layFC q.f last) = eachW q.f := by unfold eachW; rw [hF1]
  have eK : kn (layFC q.f last) = kn q.f := by unfold kn; rw [hFk]
  have h32b : hasB (layFC q.f last) 32 = !last := by
    rw [hLF]
    cases last
    · rw [if_neg (by simp)]; exact has_pos.2 (by omega)
    · rw [if_pos rfl]; exact has_neg.2 h32
  have hlen : (layP q last).length = 4 + 2 * eachW q.f + 2 * kn q.f := by
    unfold layP
    simp only [List.length_append, b2_length, xyB_length, mB_length]; omega
  refine ⟨by rw [e0]; exact h32b, by rw [e0, hlen]; unfold wid; rw [eW, eK], ?_⟩
  have eF : layFC q.f last - 32 * b01 (hasB (layFC q.f last) 32) = q.f := by
    rw [h32b, hLF]
    cases last
    · show q.f + 32 - 32 * 1 = q.f; omega
    · show q.f - 32 * 0 = q.f; omega
  -- the place
  have hxl : l = (p ++ b2 (layFC q.f last) ++ b2 q.g) ++ (xyB q ++ (mB q ++ s)) := by rw [hl]; unfold layP; simp only [List.append_assoc]
  have hxa : (p ++ b2 (layFC q.f last) ++ b2 q.g).length = a + 4 := by simp only [List.length_append, b2_length]; omega
  have exy : xAt l a (layFC q.f last) = q.x ∧ yAt l a (layFC q.f last) = q.y := by
    unfold xAt yAt
    rw [hF1]
    cases hw : hasB q.f 1
    · rw [hw] at hsm
      simp only [Bool.false_or, Bool.and_eq_true] at hsm
      rw [if_neg (by simp), if_neg (by simp)]
      have e : xyB q = [q.x % 256, q.y % 256] := by unfold xyB; rw [hw, if_neg (by simp)]
      rw [e] at hxl
      refine ⟨?_, ?_⟩
      · rw [hxl, List.cons_append, getD_here hxa]; exact sg8_small hsm.1
      · rw [hxl, show (p ++ b2 (layFC q.f last) ++ b2 q.g) ++ ([q.x % 256, q.y % 256] ++ (mB q ++ s)) = (p ++ b2 (layFC q.f last) ++ b2 q.g ++ [q.x % 256]) ++ (q.y % 256 :: (mB q ++ s)) by simp only [List.append_assoc, List.cons_append, List.nil_append], getD_here (by rw [List.length_append, hxa]; rfl)]
        exact sg8_small hsm.2
    · rw [if_pos rfl, if_pos rfl]
      have e : xyB q = s2C q.x ++ s2C q.y := by unfold xyB; rw [hw, if_pos rfl]
      rw [e] at hxl
      refine ⟨?_, ?_⟩
      · rw [hxl, List.append_assoc (s2C q.x)]; exact s2_readC hxa hO.x
      · rw [hxl, show (p ++ b2 (layFC q.f last) ++ b2 q.g) ++ (s2C q.x ++ s2C q.y ++ (mB q ++ s)) = (p ++ b2 (layFC q.f last) ++ b2 q.g ++ s2C q.x) ++ (s2C q.y ++ (mB q ++ s)) by simp only [List.append_assoc]]
        exact s2_readC (by rw [List.length_append, hxa, s2_lengthC]) hO.y
  have hml : l = (p ++ b2 (layFC q.f last) ++ b2 q.g ++ xyB q) ++ (mB q ++ s) := by rw [hxl]; simp only [List.append_assoc]
  have hma : (p ++ b2 (layFC q.f last) ++ b2 q.g ++ xyB q).length = a + (4 + 2 * eachW q.f) := by rw [List.length_append, hxa, xyB_length]; omega
  generalize p ++ b2 (layFC q.f last) ++ b2 q.g ++ xyB q = P at *
  have emt : mtA l (a + (4 + 2 * eachW q.f)) (layFC q.f last) = q.a ∧ mtB l (a + (4 + 2 * eachW q.f)) (layFC q.f last) = q.b ∧ mtC l (a + (4 + 2 * eachW q.f)) (layFC q.f last) = q.c ∧ mtD l (a + (4 + 2 * eachW q.f)) (layFC q.f last) = q.d := by
    generalize a + (4 + 2 * eachW q.f) = Q at *
    unfold mtA mtB mtC mtD
    rw [hFk]
    rcases hm with h | ⟨h, hb, hc⟩ | ⟨h, hb, hc, hd⟩ | ⟨h, h1, hb, hc, h2⟩
    · have e : mB q = s2C q.a ++ (s2C q.b ++ (s2C q.c ++ s2C q.d)) := by unfold mB; rw [if_pos h]
      rw [e] at hml
      rw [h]
      rw [if_pos rfl, if_pos rfl, if_pos rfl, if_pos rfl]
      refine ⟨?_, ?_, ?_, ?_⟩
      · rw [hml, List.append_assoc]; exact s2_readC hma hO.a
      · rw [hml, show P ++ (s2C q.a ++ (s2C q.b ++ (s2C q.c ++ s2C q.d)) ++ s) = (P ++ s2C q.a) ++ (s2C q.b ++ (s2C q.c ++ s2C q.d ++ s)) by simp only [List.append_assoc]]
        exact s2_readC (by rw [List.length_append, hma, s2_lengthC]) hO.b
      · rw [hml, show P ++ (s2C q.a ++ (s2C q.b ++ (s2C q.c ++ s2C q.d)) ++ s) = (P ++ s2C q.a ++ s2C q.b) ++ (s2C q.c ++ (s2C q.d ++ s)) by simp only [List.append_assoc]]
        exact s2_readC (by rw [List.length_append, List.length_append, hma, s2_lengthC, s2_lengthC]) hO.c
      · rw [hml, show P ++ (s2C q.a ++ (s2C q.b ++ (s2C q.c ++ s2C q.d)) ++ s) = (P ++ s2C q.a ++ s2C q.b ++ s2C q.c) ++ (s2C q.d ++ s) by simp only [List.append_assoc]]
        exact s2_readC (by rw [List.length_append, List.length_append, List.length_append, hma, s2_lengthC, s2_lengthC, s2_lengthC]) hO.d
    · have e : mB q = s2C q.a ++ s2C q.d := by unfold mB; rw [h]; rfl
      rw [e] at hml
      rw [h]
      refine ⟨?_, hb.symm, hc.symm, ?_⟩
      · show sgn (n2 l Q) = q.a
        rw [hml, List.append_assoc]; exact s2_readC hma hO.a
      · show sgn (n2 l (Q + 2)) = q.d
        rw [hml, show P ++ (s2C q.a ++ s2C q.d ++ s) = (P ++ s2C q.a) ++ (s2C q.d ++ s) by simp only [List.append_assoc]]
        exact s2_readC (by rw [List.length_append, hma, s2_lengthC]) hO.d
    · have e : mB q = s2C q.a := by unfold mB; rw [h]; rfl
      rw [e] at hml
      rw [h]
      have ea : sgn (n2 l Q) = q.a := by rw [hml]; exact s2_readC hma hO.a
      exact ⟨ea, hb.symm, hc.symm, by show sgn (n2 l Q) = q.d; rw [ea, hd]⟩
    · rw [h]
      exact ⟨h1.symm, hb.symm, hc.symm, h2.symm⟩
  unfold ptAt
  rw [e0, e1, eF, exy.1, exy.2, eW, emt.1, emt.2.1, emt.2.2.1, emt.2.2.2]
theorem flat_splitC {α : Type} (g : Nat → List α) : ∀ (n k : Nat), k < n → ∃ q, (List.range n).flatMap g = (List.range k).flatMap g ++ (g k ++ q)
  | n + 1, k, h => by
    rw [List.range_succ, List.flatMap_append]
    by_cases e : k = n
    · subst e; exact ⟨[], by simp⟩
    · obtain ⟨q, hq⟩ := flat_splitC g n k (by omega)
      exact ⟨q ++ g n, by rw [hq]; simp⟩
theorem ptsF_lays {ps : List Pt} {p s l : List Int} (hl : l = p ++ (laysP ps ps.length ++ s)) (hOk : ∀ q ∈ ps, q.Ok) (hR : ∀ i, i < ps.length → partB (pAt ps i) = true) (hn : ps.length ≤ 200) :
    ∀ (m i : Nat), i + m + 1 = ps.length → ptsF (201 - i) l (p.length + (laysP ps i).length) = some (ps.drop i, p.length + (laysP ps ps.length).length)
  | m, i, hi => by
    obtain ⟨t, ht⟩ := flat_splitC (fun i => layP (pAt ps i) (decide (i + 1 = ps.length))) ps.length i (by omega)
    have hl2 : l = (p ++ laysP ps i) ++ (layP (pAt ps i) (decide (i + 1 = ps.length)) ++ (t ++ s)) := by
      rw [hl, show laysP ps ps.length = laysP ps i ++ (layP (pAt ps i) (decide (i + 1 = ps.length)) ++ t) from ht]
      simp only [List.append_assoc]
    have hpo : (pAt ps i).Ok := hOk _ (by simp [pAt, List.getD, show i < ps.length by omega])
    obtain ⟨e1, e2, e3⟩ := lay_at hpo (hR i (by omega)) _ hl2 (List.length_append)
    have hd : ps.drop i = pAt ps i :: ps.drop (i + 1) := by
      rw [List.drop_eq_getElem_cons (by omega)]
      simp [pAt, List.getD, show i < ps.length by omega]
    have hs : (laysP ps (i + 1)).length = (laysP ps i).length + (layP (pAt ps i) (decide (i + 1 = ps.length))).length := by rw [laysP_succ, List.length_append]
    have hle : p.length + (laysP ps i).length + (layP (pAt ps i) (decide (i + 1 = ps.length))).length ≤ l.length := by
      rw [hl2]; simp only [List.length_append]; omega
    rw [show 201 - i = (201 - (i + 1)) + 1 by omega, ptsF_succ, e1, e2, e3, if_pos hle]
    cases m with
    | zero =>
      have : i + 1 = ps.length := by omega
      rw [decide_eq_true this, if_neg (by simp), hd, List.drop_eq_nil_of_le (by omega), ← this, hs, decide_eq_true this]
      simp only [Nat.add_assoc]
    | succ m =>
      have hne : ¬ i + 1 = ps.length := by omega
      have ih := ptsF_lays hl hOk hR hn m (i + 1) (by omega)
      rw [decide_eq_false hne, if_pos (by simp), hd]
      rw [hs, decide_eq_false hne, ← Nat.add_assoc] at ih
      rw [ih]; rfl
theorem cpS_cgB {g : Cg} (hO : g.Ok) (hR : cgR g = true) (more : List Int) : cpS (cgB g ++ more) = some (g, (cgB g).length) := by
  obtain ⟨hall, hn1, hn2, hg1, hcp⟩ := cgR_parts hR
  have hpb : ∀ i, i < g.parts.length → partB (pAt g.parts i) = true := fun i hi => ((of_decide_eq_true hall : ∀ i, i < g.parts.length → codeB g.parts i = false ∧ partB (pAt g.parts i) = true) i hi).2
  obtain ⟨l, hl⟩ : ∃ l, cgB g ++ more = l := ⟨_, rfl⟩
  have hbox : g.box.flatMap s2C = s2C g.b0 ++ (s2C g.b1 ++ (s2C g.b2 ++ s2C g.b3)) := by simp [Cg.box]
  have hl0 : l = b2 65535 ++ (s2C g.b0 ++ (s2C g.b1 ++ (s2C g.b2 ++ (s2C g.b3 ++ (laysP g.parts g.parts.length ++ (progB g ++ more)))))) := by
    rw [← hl]; unfold cgB; rw [hbox]; simp only [List.append_assoc]
  have f0 : n2 l 0 = 65535 := by rw [hl0]; exact n2_app (p := []) rfl (by omega) (by omega)
  have f1 : sgn (n2 l 2) = g.b0 := by rw [hl0]; exact s2_readC (p := b2 65535) rfl hO.x0
  have f2 : sgn (n2 l 4) = g.b1 := by rw [hl0, ← List.append_assoc]; exact s2_readC rfl hO.x1
  have f3 : sgn (n2 l 6) = g.b2 := by rw [hl0, ← List.append_assoc, ← List.append_assoc]; exact s2_readC rfl hO.x2
  have f4 : sgn (n2 l 8) = g.b3 := by rw [hl0, ← List.append_assoc, ← List.append_assoc, ← List.append_assoc]; exact s2_readC rfl hO.x3
  have hl1 : l = (b2 65535 ++ (s2C g.b0 ++ (s2C g.b1 ++ (s2C g.b2 ++ s2C g.b3)))) ++ (laysP g.parts g.parts.length ++ (progB g ++ more)) := by rw [hl0]; simp only [List.append_assoc]
  have hp10 : (b2 65535 ++ (s2C g.b0 ++ (s2C g.b1 ++ (s2C g.b2 ++ s2C g.b3)))).length = 10 := rfl
  have hpts := ptsF_lays hl1 hO.pt hpb hn2 (g.parts.length - 1) 0 (by omega)
  rw [hp10] at hpts
  replace hpts : ptsF 201 l 10 = some (g.parts, 10 + (laysP g.parts g.parts.length).length) := hpts
  have hlen : (cgB g).length = 10 + (laysP g.parts g.parts.length).length + (progB g).length := by
    unfold cgB; rw [hbox]; simp only [List.length_append, b2_length, s2_lengthC]; omega
  have hbs : boxS l g.parts g.prog = g := by unfold boxS; rw [f1, f2, f3, f4]
  rw [hl]
  unfold cpS
  rw [if_pos f0, hpts, Option.bind_some]
  have ht : tailS l g.parts (10 + (laysP g.parts g.parts.length).length) = some (g, (cgB g).length) := by
    unfold tailS
    cases hc : codeB g.parts g.parts.length
    · rw [if_neg (by simp)]
      have hp : g.prog = [] := by
        rcases hcp with h | h
        · rw [hc] at h; cases h
        · exact List.eq_nil_of_length_eq_zero h
      have hpr : progB g = [] := by unfold progB; rw [hc]; rfl
      have hb0 : boxS l g.parts [] = g := by
        have h := hbs
        rw [hp] at h
        exact h
      rw [hlen, hpr, hb0]; rfl
    · rw [if_pos rfl]
      have hpr : progB g = b2 g.prog.length ++ g.prog := by unfold progB; rw [hc]; rfl
      have hl2 : l = ((b2 65535 ++ (s2C g.b0 ++ (s2C g.b1 ++ (s2C g.b2 ++ s2C g.b3)))) ++ laysP g.parts g.parts.length) ++ (b2 g.prog.length ++ (g.prog ++ more)) := by rw [hl1, hpr]; simp only [List.append_assoc]
      have hpa : ((b2 65535 ++ (s2C g.b0 ++ (s2C g.b1 ++ (s2C g.b2 ++ s2C g.b3)))) ++ laysP g.parts g.parts.length).length = 10 + (laysP g.parts g.parts.length).length := by rw [List.length_append, hp10]
      generalize hA : (b2 65535 ++ (s2C g.b0 ++ (s2C g.b1 ++ (s2C g.b2 ++ s2C g.b3)))) ++ laysP g.parts g.parts.length = A at *
      generalize 10 + (laysP g.parts g.parts.length).length = a at *
      have hz : n2 l a = (g.prog.length : Int) := by rw [hl2]; exact n2_app hpa (by omega) (by omega)
      have hz2 : (n2 l a).toNat = g.prog.length := by rw [hz]; rfl
      have hll : l.length = a + 2 + g.prog.length + more.length := by rw [hl2]; simp only [List.length_append, b2_length, hpa]; omega
      have htk : (l.drop (a + 2)).take g.prog.length = g.prog := by
        rw [hl2, ← List.append_assoc, List.drop_left' (by rw [List.length_append, b2_length, hpa]), List.take_left' rfl]
      rw [hz2, if_pos (by omega), htk, hbs, hlen, hpr, List.length_append, b2_length]
      simp only [Nat.add_assoc]
  rw [ht, Option.bind_some, if_pos hR]
end Go.Proofs.YtiedbfaehndooaaDoor
