/- Layer 14: FlatMoves: in plain words. -/
import Derived.Test.YtiedbfaehndooaaDoorFlatO
namespace Go.Proofs.YtiedbfaehndooaaDoor
open Go Go.RowKit
set_option linter.unusedVariables false
set_option linter.unusedSimpArgs false
set_option maxRecDepth 1000000

abbrev ptMv (x y a b c d : Int) : Pt := ⟨131, 1, x, y, a, b, c, d⟩
abbrev cgMv (p : Pt) : Cg := ⟨0, 0, 0, 0, [p], []⟩
abbrev gMv (ps : List (Int × Int × Bool)) (n : Nat) : Sg := ⟨0, 0, 0, 0, [(n : Int) - 1], [], ps⟩
abbrev kMv (p : Pt) (ps : List (Int × Int × Bool)) (n : Nat) : List Gk := [.parts (cgMv p), .pts (gMv ps n)]
theorem ptMv_ok {x y a b c d : Int} (hx : I16 x) (hy : I16 y) (ha : I16 a) (hb : I16 b) (hc : I16 c) (hd : I16 d) : (ptMv x y a b c d).Ok := ⟨(show U16 131 by decide), (show U16 1 by decide), hx, hy, ha, hb, hc, hd⟩
theorem cgMv_ok {x y a b c d : Int} (hx : I16 x) (hy : I16 y) (ha : I16 a) (hb : I16 b) (hc : I16 c) (hd : I16 d) : (cgMv (ptMv x y a b c d)).Ok := ⟨(show I16 0 by decide), (show I16 0 by decide), (show I16 0 by decide), (show I16 0 by decide), fun p hp => by rw [List.mem_singleton] at hp; subst hp; exact ptMv_ok hx hy ha hb hc hd, bytes_nil⟩
theorem cgMv_r (x y a b c d : Int) : cgR (cgMv (ptMv x y a b c d)) = true := by kernel_rfl
theorem gMv_ok {ps : List (Int × Int × Bool)} {n : Nat} (hp : ∀ p ∈ ps, I16 p.1 ∧ I16 p.2.1) (h1 : 1 ≤ n) (h2 : n ≤ 40) : (gMv ps n).Ok := ⟨(show I16 0 by decide), (show I16 0 by decide), (show I16 0 by decide), (show I16 0 by decide), fun x hx => by rw [List.mem_singleton] at hx; omega, bytes_nil, hp⟩
theorem gMv_cnt {ps : List (Int × Int × Bool)} {n : Nat} (hl : ps.length = n) (h1 : 1 ≤ n) : cntK (gMv ps n) 1 = [ps] := by
  show [cntAt (gMv ps n) 0] = _
  congr 1
  show (ps.take ((n : Int) - 1 + 1).toNat).drop (0 : Int).toNat = _
  rw [show ((n : Int) - 1 + 1).toNat = n by omega, ← hl]
  simp
theorem kMv_one {p : Pt} {ps : List (Int × Int × Bool)} {n : Nat} (hl : ps.length = n) (h1 : 1 ≤ n) : ∀ (f : Nat) (way : List Int) (m q : Nat), ∀ z ∈ (atK (kMv p ps n) f way m q 1).c, z = ps
  | 0, way, m, q => by
    rw [atK]
    split
    · intro z hz; cases hz
    · split <;> (intro z hz; cases hz)
  | f + 1, way, m, q => by
    rw [atK]
    split
    · intro z hz; cases hz
    split
    · intro z hz; cases hz
    split
    · intro z hz; cases hz
    show ∀ z ∈ (if 20000 < q + ps.length then (⟨9, [], m + 1, q + ps.length⟩ : WR) else ⟨0, cntK (gMv ps n) 1, m + 1, q + ps.length⟩).c, z = ps
    split
    · intro z hz; cases hz
    · rw [gMv_cnt hl h1]
      intro z hz
      exact List.mem_singleton.1 hz
theorem mvP_near {x y a b c d : Int} (hx : I16 x) (hy : I16 y) (ha : I16 a) (hb : I16 b) (hc : I16 c) (hd : I16 d) {t : Int × Int × Bool} (h1 : I16 t.1) (h2 : I16 t.2.1) : PtOk (mvP (ptMv x y a b c d) t) := by
  have b1 := mul_bd (a := a) (x := t.1) (A := 32768) (X := 32768) (by have := ha.1; have := ha.2; omega) (by have := h1.1; have := h1.2; omega)
  have b2 := mul_bd (a := c) (x := t.2.1) (A := 32768) (X := 32768) (by have := hc.1; have := hc.2; omega) (by have := h2.1; have := h2.2; omega)
  have b3 := mul_bd (a := b) (x := t.1) (A := 32768) (X := 32768) (by have := hb.1; have := hb.2; omega) (by have := h1.1; have := h1.2; omega)
  have b4 := mul_bd (a := d) (x := t.2.1) (A := 32768) (X := 32768) (by have := hd.1; have := hd.2; omega) (by have := h2.1; have := h2.2; omega)
  have := hx.1; have := hx.2; have := hy.1; have := hy.2
  unfold PtOk
  show (-4398046511104 ≤ rnd (a * t.1 + c * t.2.1) + x ∧ rnd (a * t.1 + c * t.2.1) + x ≤ 4398046511104) ∧ (-4398046511104 ≤ rnd (b * t.1 + d * t.2.1) + y ∧ rnd (b * t.1 + d * t.2.1) + y ≤ 4398046511104)
  unfold rnd
  omega
theorem kMv_near {x y a b c d : Int} (hx : I16 x) (hy : I16 y) (ha : I16 a) (hb : I16 b) (hc : I16 c) (hd : I16 d) {ps : List (Int × Int × Bool)} {n : Nat} (hp : ∀ p ∈ ps, I16 p.1 ∧ I16 p.2.1) (hl : ps.length = n) (h1 : 1 ≤ n) : Near (kMv (ptMv x y a b c d) ps n) := by
  intro f way m q id hf z hz t ht
  cases f with
  | zero =>
    rw [atK] at hz
    split at hz
    · cases hz
    · split at hz <;> cases hz
  | succ f =>
    rw [atK] at hz
    split at hz
    · cases hz
    split at hz
    · cases hz
    split at hz
    · cases hz
    rename_i h2 h3 h4
    obtain ⟨i, rfl⟩ : ∃ i : Nat, id = i := ⟨id.toNat, by omega⟩
    rw [Int.toNat_natCast] at hz
    have hi : i = 0 ∨ i = 1 := by
      have : (kMv (ptMv x y a b c d) ps n).length = 2 := rfl
      omega
    rcases hi with rfl | rfl
    · have hz' : z ∈ (allK (atK (kMv (ptMv x y a b c d) ps n) f (way ++ [((0 : Nat) : Int)])) [ptMv x y a b c d] (m + 1) q []).c := hz
      rw [allK_cons] at hz'
      split at hz'
      · have hz2 : z ∈ [] ++ (atK (kMv (ptMv x y a b c d) ps n) f (way ++ [((0 : Nat) : Int)]) (m + 1) q 1).c.map (List.map (mvP (ptMv x y a b c d))) := hz'
        rw [List.nil_append] at hz2
        obtain ⟨u, hu, rfl⟩ := List.mem_map.1 hz2
        have := kMv_one hl h1 f _ _ _ u hu
        subst this
        obtain ⟨v, hv, rfl⟩ := List.mem_map.1 ht
        obtain ⟨e1, e2⟩ := hp v hv
        exact mvP_near hx hy ha hb hc hd e1 e2
      · cases hz'
    · have hz' : z ∈ (if 20000 < q + ps.length then (⟨9, [], m + 1, q + ps.length⟩ : WR) else ⟨0, cntK (gMv ps n) 1, m + 1, q + ps.length⟩).c := hz
      split at hz'
      · cases hz'
      · have hz2 : z ∈ cntK (gMv ps n) 1 := hz'
        rw [gMv_cnt hl h1, List.mem_singleton] at hz2
        subst hz2
        obtain ⟨e1, e2⟩ := hp t ht
        unfold I16 at e1 e2
        unfold PtOk
        omega
theorem kMv_right {x y a b c d : Int} (hx : I16 x) (hy : I16 y) (ha : I16 a) (hb : I16 b) (hc : I16 c) (hd : I16 d) {ps : List (Int × Int × Bool)} {n : Nat} (hp : ∀ p ∈ ps, I16 p.1 ∧ I16 p.2.1) (hl : ps.length = n) (h1 : 1 ≤ n) (h2 : n ≤ 40) (hR : sgR (gMv ps n) = true) : ∀ k ∈ kMv (ptMv x y a b c d) ps n, k.Right := by
  intro k hk
  simp only [List.mem_cons, List.not_mem_nil, or_false] at hk
  rcases hk with rfl | rfl
  · exact ⟨cgMv_ok hx hy ha hb hc hd, cgMv_r _ _ _ _ _ _⟩
  · refine ⟨gMv_ok hp h1 h2, hR, ?_⟩
    have := sgB_len14 (gMv ps n)
    simp only [List.length_cons, List.length_nil, hl] at this
    omega
theorem kMv_at {p : Pt} (hg : p.g = 1) {ps : List (Int × Int × Bool)} {n : Nat} (hl : ps.length = n) (h1 : 1 ≤ n) (h2 : n ≤ 40) : atK (kMv p ps n) 17 [] 0 0 0 = ⟨0, [ps.map (mvP p)], 2, n⟩ := by
  have e1 : atK (kMv p ps n) 16 [0] 1 0 1 = ⟨0, [ps], 2, n⟩ := by
    rw [atK, if_neg (by simp), if_neg (by decide), if_neg (by omega)]
    show (if 20000 < 0 + ps.length then (⟨9, [], 1 + 1, 0 + ps.length⟩ : WR) else ⟨0, cntK (gMv ps n) 1, 1 + 1, 0 + ps.length⟩) = _
    rw [if_neg (by omega), gMv_cnt hl h1, hl, Nat.zero_add]
  rw [atK, if_neg (by simp), if_neg (by decide), if_neg (by omega)]
  show allK (atK (kMv p ps n) 16 [0]) [p] 1 0 [] = _
  rw [allK_cons, hg, e1]
  rfl
theorem rpt_eq (x y : Int) (on : Bool) (w : World) : (Op.equalIn 10000 56 (.agg #[.int .i64 x, .int .i64 y, .bool on]) (.agg #[.int .i64 x, .int .i64 y, .bool on])).run Tryd.prog w = .ok true w := by
  have i2 : (Tryd.prog.info? 3).map (·.size) = some 1 := by kernel_rfl
  have h1 : (part 3 #[.int .i64 x, .int .i64 y, .bool on] 0).run Tryd.prog w = .ok (.int .i64 x) w := run_part_one Tryd.underlying3 i2 rfl w
  have h2 : (part 3 #[.int .i64 x, .int .i64 y, .bool on] 1).run Tryd.prog w = .ok (.int .i64 y) w := run_part_one Tryd.underlying3 i2 rfl w
  have h5 : (part 4 #[.int .i64 x, .int .i64 y, .bool on] 2).run Tryd.prog w = .ok (.bool on) w := by kernel_rfl
  have h3 := int_self (P := Tryd.prog) Tryd.underlying3 9998 x w
  have h4 := int_self (P := Tryd.prog) Tryd.underlying3 9998 y w
  have h6 := bool_self (P := Tryd.prog) Tryd.underlying4 9998 on w
  rw [show (10000 : Nat) = 9999 + 1 from rfl, run_equalIn_struct (P := Tryd.prog) w 9999 56 _ _ (by kernel_rfl) (by kernel_rfl)]
  simp [Program.fieldsOf, Tryd.underlying56, Op.eqFields, Sem.run_bind, h1, h2, h3, h4, h5, h6]
end Go.Proofs.YtiedbfaehndooaaDoor
