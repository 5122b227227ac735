/- Layer 12: a glyph of points, cut into contours of some sizes. -/
import Derived.Test.YtiedbfaehndooaaDoorSimpD
import Derived.Test.YtiedbfaehndooaaDoorBaseM
namespace Go.Proofs.YtiedbfaehndooaaDoor
open Go Go.RowKit
set_option linter.unusedVariables false
set_option linter.unusedSimpArgs false
set_option maxRecDepth 100000

theorem SliceAt.pre3 {w : World} {B : Nat} {A : Option Addr} {c n k : Nat} {xs : List Value} (h : SliceAt w B 3 (.slice A n c) n xs) (hk : k ≤ n) : SliceAt w B 3 (.slice A k c) k (xs.take (k * 3)) := by
  obtain ⟨A', c', he, hnc, hcm, hA, hr⟩ := h
  injection he with he1 he2 he3
  subst he1; subst he3
  have hx := hr.1
  have hl : (xs.take (k * 3)).length = k * 3 := by rw [List.length_take]; omega
  refine ⟨A, c, rfl, by omega, hcm, hA, hl, fun hn => ?_⟩
  obtain ⟨ad, rfl, hb, hc⟩ := hr.2 (by omega)
  refine ⟨ad, rfl, hb, fun j u hu => hc j u ?_⟩
  rw [List.getElem?_take] at hu
  split at hu
  · exact hu
  · cases hu
theorem b4_cells {W0 w : World} {L : List Ent} {p : Nat} {a b c d : Int} (M : Own W0 w L) (h : .blk p 37 #[.int .i16 a, .int .i16 b, .int .i16 c, .int .i16 d] ∈ L) :
    w.cell? ⟨p, 0, none⟩ = some (.int .i16 a) ∧ w.cell? ⟨p, 1, none⟩ = some (.int .i16 b) ∧ w.cell? ⟨p, 2, none⟩ = some (.int .i16 c) ∧ w.cell? ⟨p, 3, none⟩ = some (.int .i16 d) := ⟨M.cell h 0, M.cell h 1, M.cell h 2, M.cell h 3⟩
theorem g_free {W0 w : World} {L : List Ent} {m : Nat} {g : Sg} {ve vp vs : Value} (M : Own W0 w L) (h : .blk m 52 (gA g ve vp vs) ∈ L) :
    w.frozen? ⟨m, 4, none⟩ = false ∧ w.frozen? ⟨m, 5, none⟩ = false ∧ w.frozen? ⟨m, 6, none⟩ = false := ⟨M.free h 4, M.free h 5, M.free h 6⟩
theorem g7 {W0 w : World} {L : List Ent} {m : Nat} {g : Sg} {ve vp vs : Value} (M : Own W0 w L) (h : .blk m 52 (gA g ve vp vs) ∈ L) :
    (w.cell? ⟨m, 0, none⟩ = some (.int .i16 g.b0) ∧ w.cell? ⟨m, 1, none⟩ = some (.int .i16 g.b1) ∧ w.cell? ⟨m, 2, none⟩ = some (.int .i16 g.b2) ∧ w.cell? ⟨m, 3, none⟩ = some (.int .i16 g.b3) ∧ w.cell? ⟨m, 4, none⟩ = some ve ∧ w.cell? ⟨m, 5, none⟩ = some vp ∧ w.cell? ⟨m, 6, none⟩ = some vs) ∧
    w.frozen? ⟨m, 0, none⟩ = false ∧ w.frozen? ⟨m, 1, none⟩ = false ∧ w.frozen? ⟨m, 2, none⟩ = false ∧ w.frozen? ⟨m, 3, none⟩ = false ∧ w.frozen? ⟨m, 4, none⟩ = false ∧ w.frozen? ⟨m, 5, none⟩ = false ∧ w.frozen? ⟨m, 6, none⟩ = false :=
  ⟨⟨M.cell h 0, M.cell h 1, M.cell h 2, M.cell h 3, M.cell h 4, M.cell h 5, M.cell h 6⟩, M.free h 0, M.free h 1, M.free h 2, M.free h 3, M.free h 4, M.free h 5, M.free h 6⟩
/-- A glyph's value is put into a block, cell by cell. -/
theorem g_put {W0 w : World} {L1 L2 : List Ent} {m : Nat} {c0 c1 c2 c3 c4 c5 c6 : Value} (M : Own W0 w (L1 ++ (.blk m 52 #[c0, c1, c2, c3, c4, c5, c6] :: L2))) (v0 v1 v2 v3 v4 v5 v6 : Value) :
    Own W0 (((((((w.setCell ⟨m, 0, none⟩ v0).setCell ⟨m, 1, none⟩ v1).setCell ⟨m, 2, none⟩ v2).setCell ⟨m, 3, none⟩ v3).setCell ⟨m, 4, none⟩ v4).setCell ⟨m, 5, none⟩ v5).setCell ⟨m, 6, none⟩ v6) (L1 ++ (.blk m 52 #[v0, v1, v2, v3, v4, v5, v6] :: L2)) := by
  have := ((((((M.set 0 v0).set 1 v1).set 2 v2).set 3 v3).set 4 v4).set 5 v5).set 6 v6
  simpa only [List.setIfInBounds_toArray, List.set_cons_zero, List.set_cons_succ] using this
/-- A box, as a glyph of nothing. -/
abbrev gB (a b c d : Int) : Sg := ⟨a, b, c, d, [], [], []⟩

/-- What is made. -/
def MadeP (a b c d : Int) (pr : List Int) (qs : List (Int × Int × Bool)) (w : World) (r : Value) (w' : World) : Prop :=
  ∃ (g : Sg) (ve vp vs : Value), g.Ok ∧ g.b0 = a ∧ g.b1 = b ∧ g.b2 = c ∧ g.b3 = d ∧ g.prog = pr ∧ g.pts = qs ∧ g.ends.length ≤ 41 ∧ r = .agg (gA g ve vp vs) ∧
    Own w w' [.row 34 1 ve g.ends.length (ints .u16 g.ends), .row 5 1 vp g.prog.length (ints .u8 g.prog), .row 55 3 vs g.pts.length (spC g.pts)]
end Go.Proofs.YtiedbfaehndooaaDoor
