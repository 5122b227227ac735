/- Layer 14: what Flat tells, read; matrices that leave all as it is; the law's own example. -/
import Derived.Test.YtiedbfaehndooaaDoorFlatH
import Derived.Test.YtiedbfaehndooaaDoorSimpD
import Derived.Test.YtiedbfaehndooaaDoorCompF
namespace Go.Proofs.YtiedbfaehndooaaDoor
open Go Go.RowKit
set_option linter.unusedVariables false
set_option linter.unusedSimpArgs false
set_option maxRecDepth 1000000

/-! ## in plain words -/
theorem rnd_unit (x : Int) : rnd (16384 * x + 0) = x := by unfold rnd; omega
/-- Parts whose matrix leaves all as it is. -/
def UnitK (ks : List Gk) : Prop := ∀ k ∈ ks, ∀ g, k = .parts g → ∀ p ∈ g.parts, p.a = 16384 ∧ p.b = 0 ∧ p.c = 0 ∧ p.d = 16384 ∧ p.Ok
def WithinB (B : Int) (p : Int × Int × Bool) : Prop := (-B ≤ p.1 ∧ p.1 ≤ B) ∧ (-B ≤ p.2.1 ∧ p.2.1 ≤ B)
theorem allK_within {F : Nat → Nat → Int → WR} {B : Int} (hF : ∀ m q id, ∀ x ∈ (F m q id).c, ∀ p ∈ x, WithinB B p) : ∀ (ps : List Pt) (m q : Nat) (acc : List (List (Int × Int × Bool))), (∀ p ∈ ps, p.a = 16384 ∧ p.b = 0 ∧ p.c = 0 ∧ p.d = 16384 ∧ p.Ok) → (∀ x ∈ acc, ∀ p ∈ x, WithinB (B + 32768) p) → ∀ x ∈ (allK F ps m q acc).c, ∀ p ∈ x, WithinB (B + 32768) p
  | [], m, q, acc, _, ha => ha
  | p :: ps, m, q, acc, hp, ha => by
    rw [allK_cons]
    split
    · refine allK_within hF ps _ _ _ (fun y hy => hp y (.tail _ hy)) ?_
      intro x hx
      rcases List.mem_append.1 hx with hx | hx
      · exact ha x hx
      · obtain ⟨y, hy, rfl⟩ := List.mem_map.1 hx
        intro z hz
        obtain ⟨t, ht, rfl⟩ := List.mem_map.1 hz
        obtain ⟨h1, h2⟩ := hF m q p.g y hy t ht
        obtain ⟨a1, a2, a3, a4, hO⟩ := hp p (.head _)
        have hx := hO.x
        have hy := hO.y
        have e1 : (mvP p t).1 = t.1 + p.x := by
          show rnd (p.a * t.1 + p.c * t.2.1) + p.x = _
          rw [a1, a3, Int.zero_mul, rnd_unit]
        have e2 : (mvP p t).2.1 = t.2.1 + p.y := by
          show rnd (p.b * t.1 + p.d * t.2.1) + p.y = _
          rw [a2, a4, Int.zero_mul, Int.zero_add, show 16384 * t.2.1 = 16384 * t.2.1 + 0 by omega, rnd_unit]
        unfold WithinB
        rw [e1, e2]
        have := hx.1; have := hx.2; have := hy.1; have := hy.2
        omega
    · intro x hx
      cases hx
theorem cntK_mem {g : Sg} {k : Nat} {x : List (Int × Int × Bool)} (hx : x ∈ cntK g k) : ∀ p ∈ x, p ∈ g.pts := by
  obtain ⟨i, -, rfl⟩ := List.mem_map.1 hx
  intro p hp
  exact List.mem_of_mem_take (List.mem_of_mem_drop hp)
theorem atK_within {ks : List Gk} (hK : ∀ k ∈ ks, k.Right) (hU : UnitK ks) : ∀ (f : Nat) (way : List Int) (m q : Nat) (id : Int), ∀ x ∈ (atK ks f way m q id).c, ∀ p ∈ x, WithinB (32768 * ((f : Int) + 1)) p
  | 0, way, m, q, id => by
    rw [atK]
    split
    · intro x hx; cases hx
    · split <;> (intro x hx; cases hx)
  | f + 1, way, m, q, id => by
    rw [atK]
    split
    · intro x hx; cases hx
    split
    · intro x hx; cases hx
    split
    · intro x hx; cases hx
    have hr := ks_right hK id.toNat
    split
    · intro x hx; cases hx
    · rename_i g hg
      rw [hg] at hr
      split
      · intro x hx; cases hx
      · intro x hx p hp
        obtain ⟨h1, h2⟩ := hr.1.pt p (cntK_mem hx p hp)
        unfold WithinB
        unfold I16 at h1 h2
        have : ((f + 1 : Nat) : Int) = (f : Int) + 1 := rfl
        omega
    · rename_i g hg
      have := allK_within (F := atK ks f (way ++ [id])) (B := 32768 * ((f : Int) + 1)) (fun m q id' => atK_within hK hU f (way ++ [id]) m q id') g.parts (m + 1) q [] (by
        refine hU (ks.getD id.toNat .none) ?_ g hg
        by_cases hi : id.toNat < ks.length
        · simp [List.getD, hi]
        · simp [List.getD, List.getElem?_eq_none (Nat.le_of_not_lt hi)] at hg) (by intro x hx; cases hx)
      intro x hx p hp
      have h3 := this x hx p hp
      unfold WithinB at h3 ⊢
      have : ((f + 1 : Nat) : Int) = (f : Int) + 1 := rfl
      omega
theorem near_unit {ks : List Gk} (hK : ∀ k ∈ ks, k.Right) (hU : UnitK ks) : Near ks := fun f way m q id hf x hx p hp => by
  obtain ⟨h1, h2⟩ := atK_within hK hU f way m q id x hx p hp
  unfold PtOk
  omega

/-! ## what is told, read -/
theorem flatP_nil {r : WR} {w w' : World} {v : Value} (h : FlatP r w v w') (hc : r.c = []) : ∃ A c, v = .tuple #[.slice A 0 c, .int .i64 r.e] ∧ Below w.heap.size w w' := by
  obtain ⟨R, cl, rfl, hcl, M⟩ := h
  rw [hc] at hcl
  obtain rfl : cl = [] := List.map_eq_nil_iff.1 hcl
  obtain ⟨A, c, rfl, -⟩ := M.seen (.head _)
  exact ⟨A, c, rfl, M.below⟩
theorem flatP_len {r : WR} {w w' : World} {v : Value} (h : FlatP r w v w') : ∃ A c, v = .tuple #[.slice A r.c.length c, .int .i64 r.e] ∧ Below w.heap.size w w' := by
  obtain ⟨R, cl, rfl, hcl, M⟩ := h
  obtain ⟨A, c, rfl, -⟩ := M.seen (.head _)
  exact ⟨A, c, by rw [← hcl, List.length_map], M.below⟩
theorem flatP_one {r : WR} {w w' : World} {v : Value} {p : Int × Int × Bool} {ps : List (Int × Int × Bool)} {rest : List (List (Int × Int × Bool))} (h : FlatP r w v w') (hc : r.c = (p :: ps) :: rest) :
    ∃ ad c bd c2, v = .tuple #[.slice (some ad) r.c.length c, .int .i64 r.e] ∧ Below w.heap.size w w' ∧ w'.cell? ad = some (.slice (some bd) (ps.length + 1) c2) ∧ w'.cell? bd = some (.int .i64 p.1) ∧ w'.cell? ⟨bd.block, bd.off + 1, none⟩ = some (.int .i64 p.2.1) ∧ w'.cell? ⟨bd.block, bd.off + 2, none⟩ = some (.bool p.2.2) := by
  obtain ⟨R, cl, rfl, hcl, M⟩ := h
  rw [hc] at hcl
  match cl, hcl with
  | a :: cl, hcl =>
    obtain ⟨A, c, rfl, -, -, -, hr⟩ := M.seen (.head _)
    obtain ⟨ad, rfl, h1⟩ := hr.cell (j := 0) (u := a.1) rfl
    rw [List.map_cons, List.cons.injEq] at hcl
    obtain ⟨e1, e2⟩ := hcl
    have hv : Ent.view 3 a.1 a.2.length (dpC a.2) ∈ Ent.view 1 (.slice (some ad) (a :: cl).length c) (a :: cl).length ((a :: cl).map (·.1)) :: cViews (a :: cl) := .tail _ (.head _)
    rw [e1] at hv
    obtain ⟨B, c2, hB, -, -, -, hs⟩ := M.seen hv
    obtain ⟨bd, rfl, h2⟩ := hs.cell (j := 0) (u := .int .i64 p.1) rfl
    obtain ⟨bd', e', h3⟩ := hs.cell_at (m := 0) (j := 1) (u := .int .i64 p.2.1) (by omega) rfl
    obtain ⟨bd'', e'', h4⟩ := hs.cell_at (m := 0) (j := 2) (u := .bool p.2.2) (by omega) rfl
    injection e' with e'; subst e'
    injection e'' with e''; subst e''
    have a0 : ∀ x : Addr, x.add 0 = x := fun x => by simp [Addr.add]
    rw [a0] at h1 h2 h3 h4
    refine ⟨ad, c, bd, c2, by rw [hc, ← e2]; simp, M.below, by rw [h1, hB]; rfl, h2, h3, h4⟩

/-! ## glyphs that are handed in -/
abbrev VL := List (Value × List Int)
def bViews (l : VL) : List Ent := l.map fun p => .view 1 p.1 p.2.length (ints .u8 p.2)
theorem bViews_snoc (l : VL) (p : Value × List Int) : bViews (l ++ [p]) = bViews l ++ [.view 1 p.1 p.2.length (ints .u8 p.2)] := by simp [bViews]
theorem glyphs_of {W0 w : World} {L : List Ent} {V : Value} {l : VL} {ks : List Gk} (hv : SliceAt w w.heap.size 1 V ks.length (l.map (·.1))) (M : Own W0 w L) (hs : ∀ x ∈ bViews l, x ∈ L) (h : l.map (·.2) = ks.map Gk.bytes) : GlyphsAt w V ks := by
  refine ⟨l.map (·.1), hv, fun i hi => ?_⟩
  have hl : l.length = ks.length := by have := congrArg List.length h; simpa using this
  have hil : i < l.length := by omega
  have hb : (ks.getD i .none).bytes = l[i].2 := by
    have h2 : (l.map (·.2))[i]? = (ks.map Gk.bytes)[i]? := by rw [h]
    rw [List.getElem?_map, List.getElem?_map, List.getElem?_eq_getElem hil, List.getElem?_eq_getElem hi] at h2
    simp only [Option.map_some, Option.some.injEq] at h2
    simp only [List.getD, List.getElem?_eq_getElem hi, Option.getD_some]
    exact h2.symm
  have hg : (l.map (·.1)).getD i undef = l[i].1 := by simp [List.getD, hil]
  rw [hb, hg]
  exact M.seen (hs _ (List.mem_map.2 ⟨l[i], List.getElem_mem _, rfl⟩))

/-! ## the law's own example -/
abbrev gOne (x y : Int) : Sg := ⟨0, 0, 0, 0, [0], [], [(x, y, false)]⟩
theorem gOne_ok {x y : Int} (hx : I16 x) (hy : I16 y) : (gOne x y).Ok := ⟨(show I16 0 by decide), (show I16 0 by decide), (show I16 0 by decide), (show I16 0 by decide), (show ∀ x ∈ [(0 : Int)], 0 ≤ x ∧ x < 65536 by decide), bytes_nil, fun p hp => by rw [List.mem_singleton] at hp; subst hp; exact ⟨hx, hy⟩⟩
abbrev kAwk : List Gk := [.none, .pts (gOne 1 2)]
theorem kAwk_right : ∀ k ∈ kAwk, k.Right := by
  intro k hk
  simp only [List.mem_cons, List.not_mem_nil, or_false] at hk
  rcases hk with rfl | rfl
  · trivial
  · exact ⟨gOne_ok (by decide) (by decide), by decide, by decide⟩
theorem kAwk_near : Near kAwk := near_unit kAwk_right (by
  intro k hk g hg
  simp only [List.mem_cons, List.not_mem_nil, or_false] at hk
  rcases hk with rfl | rfl <;> cases hg)
theorem kAwk_0 : atK kAwk 17 [] 0 0 0 = ⟨0, [], 1, 0⟩ := by kernel_rfl
theorem kAwk_1 : atK kAwk 17 [] 0 0 1 = ⟨0, [[(1, 2, false)]], 1, 1⟩ := by kernel_rfl
set_option maxHeartbeats 4000000 in
theorem awake14_calls (w : World) : Calls Tryd.prog 8 #[] w (Ret fun r w' => r = .bool true ∧ Below w.heap.size w w') := by
  have M0 := ((Own.start w).alloc 34 #[.int .u16 0]).alloc 55 #[.int .i16 1, .int .i16 2, .bool false]
  have hB := hid (bytes_yes _ (g := gOne 1 2) (ve := .slice (some ⟨w.heap.size, 0, none⟩) 1 1) (vp := .slice none 0 0) (vs := .slice (some ⟨(w.alloc (.cells #[.int .u16 0] 34)).heap.size, 0, none⟩) 1 1) (gOne_ok (by decide) (by decide))
    ⟨SliceAt.built M0 (.tail _ (.head _)) 1 1 rfl (by unfold maxLen; omega), SliceAt.nil _ _ _, SliceAt.built M0 (.head _) 3 1 rfl (by unfold maxLen; omega)⟩ (by decide))
  obtain ⟨nb, hnb⟩ : ∃ n, (sgB (gOne 1 2)).length = n := ⟨_, rfl⟩
  rw [hnb, alloc_size] at hB
  replace M0 := hid M0
  have hG := hid (fun (w1 : World) (L : List Ent) (A : Option Addr) (c : Nat) (M : Own w w1 L) (h : .row 5 1 (.slice A nb c) nb (ints .u8 (sgB (gOne 1 2))) ∈ L) =>
    show GlyphsAt (w1.alloc (.cells #[.slice none 0 0, .slice A nb c] 35 (0, 0))) (.slice (some ⟨w1.heap.size, 0, none⟩) 2 2) kAwk from
      ⟨[.slice none 0 0, .slice A nb c], SliceAt.built (M.alloc _ _) (.head _) 1 2 rfl (by unfold maxLen; omega), fun i hi => by
        have hi2 : i = 0 ∨ i = 1 := by have : i < 2 := hi; omega
        rcases hi2 with rfl | rfl
        · exact SliceAt.nil _ _ _
        · show SliceAt _ _ 1 (.slice A nb c) (sgB (gOne 1 2)).length (ints .u8 (sgB (gOne 1 2)))
          rw [hnb]
          exact (M.alloc _ _).slice (.tail _ h)⟩)
  have hF0 := hid (fun (w1 : World) (V : Value) (h : GlyphsAt w1 V kAwk) => show Calls Tryd.prog 9 #[V, .int .i64 0] w1 (Ret fun r w' => FlatP ⟨0, [], 1, 0⟩ w1 r w') from by rw [← kAwk_0]; exact flat_calls h kAwk_right kAwk_near 0)
  have hF1 := hid (fun (w1 : World) (V : Value) (h : GlyphsAt w1 V kAwk) => show Calls Tryd.prog 9 #[V, .int .i64 1] w1 (Ret fun r w' => FlatP ⟨0, [[(1, 2, false)]], 1, 1⟩ w1 r w') from by rw [← kAwk_1]; exact flat_calls h kAwk_right kAwk_near 1)
  clear hnb
  go_enter Tryd.func8, Tryd.ntmps8
  go_wp2_with (first
    | (go_at_call 14; (with_reducible refine (hB.out).mono ?_); rintro _ w2 ⟨_, rfl, M⟩; obtain ⟨A2, c2, rfl⟩ := M.form (.head _); (have M2 := hid (M0.out.lift M)); clear M)
    | (go_at_call 9; (with_reducible refine (hF0.out _ _ (hG.out w2 _ A2 c2 M2.out (by simp))).mono ?_); rintro _ w3 ⟨_, rfl, hP⟩; obtain ⟨A3, c3, rfl, hb⟩ := flatP_nil hP rfl; (have M3 := hid ((M2.out.alloc 35 #[.slice none 0 0, .slice A2 nb c2]).keep hb)); clear hb hP)
    | (go_at_call 9; (with_reducible refine (hF1.out _ _ (hG.out w3 _ A2 c2 M3.out (by simp))).mono ?_); rintro _ w4 ⟨_, rfl, hP⟩; obtain ⟨ad, c4, bd, c5, rfl, hb, p0, p1, p2, p3⟩ := flatP_one hP rfl; (have M4 := hid ((M3.out.alloc 35 #[.slice none 0 0, .slice A2 nb c2]).keep hb)); clear hb hP))
  go_ret
  exact .mk ⟨rfl, M4.out.below⟩
end Go.Proofs.YtiedbfaehndooaaDoor
