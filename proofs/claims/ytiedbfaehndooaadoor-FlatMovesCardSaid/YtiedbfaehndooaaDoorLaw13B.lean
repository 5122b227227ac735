/- Layer 13: a part's matrix (CompoKinds). -/
import Derived.Test.YtiedbfaehndooaaDoorCompJ
namespace Go.Proofs.YtiedbfaehndooaaDoor
open Go Go.RowKit
set_option linter.unusedVariables false
set_option linter.unusedSimpArgs false
set_option maxRecDepth 1000000

def kF (t : Nat) : Int := [0, 8, 64, 128, 72, 192].getD t 0
def kQ (t : Nat) : Int := [2, 10, 66, 130, 74, 194].getD t 0
def kS (t : Nat) : Nat := [0, 2, 4, 8, 0, 0].getD t 0
theorem kQ_all {t : Nat} (h : t < 6) : bits .or .u16 2 (kF t) = kQ t ∧ U16 (kQ t) ∧ hasB (kQ t) 2 = true ∧ flagB (kQ t) = true ∧ hasB (kQ t) 1 = false ∧ hasB (kQ t) 256 = false ∧ 2 * kn (kQ t) = kS t ∧ eachW (kQ t) = 1 := by
  rcases (by omega : t = 0 ∨ t = 1 ∨ t = 2 ∨ t = 3 ∨ t = 4 ∨ t = 5) with rfl | rfl | rfl | rfl | rfl | rfl <;> decide +kernel
abbrev kP (t : Nat) (a b c d : Int) : Pt := ⟨kQ t, 0, 0, 0, a, b, c, d⟩
abbrev kG (t : Nat) (a b c d : Int) : Cg := ⟨0, 0, 0, 0, [kP t a b c d], []⟩
theorem kP_ok {t : Nat} {a b c d : Int} (h : t < 6) (ha : I16C a) (hb : I16C b) (hc : I16C c) (hd : I16C d) : (kP t a b c d).Ok :=
  ⟨(kQ_all h).2.1, (by decide : U16 0), (by decide : I16C 0), (by decide : I16C 0), ha, hb, hc, hd⟩
theorem kG_ok {t : Nat} {a b c d : Int} (h : t < 6) (ha : I16C a) (hb : I16C b) (hc : I16C c) (hd : I16C d) : (kG t a b c d).Ok :=
  ⟨(by decide : I16C 0), (by decide : I16C 0), (by decide : I16C 0), (by decide : I16C 0), fun p hp => by rw [List.mem_singleton] at hp; subst hp; exact kP_ok h ha hb hc hd, bytes_nil⟩
theorem kG_R {t : Nat} {a b c d : Int} (h : t < 6) : cgR (kG t a b c d) = matB (kP t a b c d) := by
  obtain ⟨-, -, h2, hf, h1, h256, -⟩ := kQ_all h
  have hp : partB (kP t a b c d) = matB (kP t a b c d) := by
    unfold partB
    rw [h2, hf, h1, show smallB 0 = true by decide]
    simp
  have hc : codeB [kP t a b c d] 1 = false := h256
  have hps : partsB [kP t a b c d] 1 = matB (kP t a b c d) := by
    rw [partsB_succ, show pAt [kP t a b c d] 0 = kP t a b c d from rfl, hp, show codeB [kP t a b c d] 0 = false from rfl, show partsB [kP t a b c d] 0 = true from decide_eq_true fun i hi => absurd hi (by omega)]
    simp
  unfold cgR
  rw [show (kG t a b c d).parts.length = 1 from rfl, hps, hc]
  simp
theorem kG_len {t : Nat} {a b c d : Int} (h : t < 6) : (cgB (kG t a b c d)).length = 16 + kS t := by
  obtain ⟨-, -, -, -, h1, h256, hk, he⟩ := kQ_all h
  have hpr : progB (kG t a b c d) = [] := by
    unfold progB
    rw [show codeB (kG t a b c d).parts (kG t a b c d).parts.length = false from h256]; rfl
  have hl : (laysP (kG t a b c d).parts (kG t a b c d).parts.length).length = 6 + kS t := by
    show (laysP [kP t a b c d] 1).length = _
    rw [laysP_succ, show laysP [kP t a b c d] 0 = [] from rfl, List.nil_append]
    unfold layP
    simp only [List.length_append, b2_length, xyB_length, mB_length]
    show 2 + (2 + (2 * eachW (kQ t) + 2 * kn (kQ t))) = _
    rw [he, hk]; omega
  unfold cgB
  rw [hpr]
  simp only [List.length_append, b2_length, hl, List.length_nil]
  rw [show ((kG t a b c d).box.flatMap s2C).length = 8 from rfl]
  omega
/-- What is wanted. -/
theorem kMat {a b c d : Int} : matB (kP 0 a b c d) = decide (a = 16384 ∧ b = 0 ∧ c = 0 ∧ d = 16384) ∧ matB (kP 1 a b c d) = decide (b = 0 ∧ c = 0 ∧ a = d) ∧ matB (kP 2 a b c d) = decide (b = 0 ∧ c = 0) ∧ matB (kP 3 a b c d) = true ∧ matB (kP 4 a b c d) = false ∧ matB (kP 5 a b c d) = false := by
  unfold matB
  rw [show kd (kP 0 a b c d).f = 0 from (by decide : kd (kQ 0) = 0), show kd (kP 1 a b c d).f = 1 from (by decide : kd (kQ 1) = 1), show kd (kP 2 a b c d).f = 2 from (by decide : kd (kQ 2) = 2), show kd (kP 3 a b c d).f = 4 from (by decide : kd (kQ 3) = 4), show kd (kP 4 a b c d).f = -1 from (by decide : kd (kQ 4) = -1), show kd (kP 5 a b c d).f = -1 from (by decide : kd (kQ 5) = -1)]
  exact ⟨rfl, rfl, rfl, rfl, rfl, rfl⟩
theorem bytes_flat {α : Type} {f : α → List Int} (h : ∀ x, Bytes (f x)) (l : List α) : Bytes (l.flatMap f) := fun y hy => by
  obtain ⟨x, -, hx⟩ := List.mem_flatMap.1 hy
  exact h x y hx
theorem bytes_s2 (x : Int) : Bytes (s2C x) := bytes_b2 _
theorem bytes_layP (q : Pt) (last : Bool) : Bytes (layP q last) := by
  unfold layP
  refine (bytes_b2 _).append ((bytes_b2 _).append (Bytes.append ?_ ?_))
  · unfold xyB
    split
    · exact (bytes_s2 _).append (bytes_s2 _)
    · intro x hx; simp only [List.mem_cons, List.not_mem_nil, or_false] at hx; omega
  · unfold mB
    split
    · exact (bytes_s2 _).append ((bytes_s2 _).append ((bytes_s2 _).append (bytes_s2 _)))
    · split
      · exact (bytes_s2 _).append (bytes_s2 _)
      · split
        · exact bytes_s2 _
        · exact bytes_nil
theorem bytes_cgB {g : Cg} (h : Bytes g.prog) : Bytes (cgB g) := by
  unfold cgB
  refine (bytes_b2 _).append ((bytes_flat bytes_s2 _).append (Bytes.append (bytes_flat (fun _ => bytes_layP _ _) _) ?_))
  unfold progB
  split
  · exact (bytes_b2 _).append h
  · exact bytes_nil
theorem cParse_some (w : World) {V : Value} {l : List Int} {g : Cg} {n : Nat} (h1 : BytesAt w V l) (hB : Bytes l) (hn : l.length ≤ 140737488355328) (h : cpS l = some (g, n)) :
    Calls Tryd.prog 45 #[V] w (Ret fun r w' => ∃ vp vg, g.Ok ∧ r = .tuple #[.agg (cA g vp vg), .int .i64 n, .int .i64 0] ∧ Own w w' [.row 45 8 vp g.parts.length (ptCC g.parts), .row 5 1 vg g.prog.length (ints .u8 g.prog)]) := by
  refine (cParse_calls w h1 hB hn).mono ?_
  rintro _ w' ⟨r, rfl, ⟨g', n', vp', vg', hp', hO', rfl, M⟩ | ⟨hp', -, -⟩⟩
  · have := hp'.symm.trans h
    injection this with this
    injection this with e1 e2
    subst e1 e2
    exact .mk ⟨_, _, hO', rfl, M⟩
  · rw [hp'] at h; cases h
theorem cParse_none (w : World) {V : Value} {l : List Int} (h1 : BytesAt w V l) (hB : Bytes l) (hn : l.length ≤ 140737488355328) (h : cpS l = none) :
    Calls Tryd.prog 45 #[V] w (Ret fun r w' => r = .tuple #[.agg cNil, .int .i64 0, .int .i64 2] ∧ Below w.heap.size w w') := by
  refine (cParse_calls w h1 hB hn).mono ?_
  rintro _ w' ⟨r, rfl, ⟨g', n', vp', vg', hp', hO', rfl, M⟩ | ⟨hp', hr, hb⟩⟩
  · rw [hp'] at h; cases h
  · exact .mk ⟨hr, hb⟩
theorem row_mat {W0 w : World} {L : List Ent} {g n c : Nat} {ps : List Pt} (M : Own W0 w L) (h : .row 45 8 (.slice (some ⟨g, 0, none⟩) n c) n (ptCC ps) ∈ L) (hn : ps.length = n) {i : Nat} (hi : i < n) :
    (loadVar 42 ⟨g, i * 8 + 4, none⟩).run Tryd.prog w = .ok (.agg #[.int .i16 (pAt ps i).a, .int .i16 (pAt ps i).b, .int .i16 (pAt ps i).c, .int .i16 (pAt ps i).d]) w := by
  obtain ⟨A, C, he, -, -, -, hr⟩ := M.slice h
  injection he with he1 he2 he3
  subst he1
  obtain ⟨-, -, -, -, c4, c5, c6, c7⟩ := part_at hn hr (Below.refl _ _) hi
  simp only [addr_add, Nat.zero_add] at c4 c5 c6 c7
  have hl : (loadCells ⟨g, i * 8 + 4, none⟩ 4).run Tryd.prog w = .ok #[.int .i16 (pAt ps i).a, .int .i16 (pAt ps i).b, .int .i16 (pAt ps i).c, .int .i16 (pAt ps i).d] w :=
    run_loadCells_list (P := Tryd.prog) w ⟨g, i * 8 + 4, none⟩ [.int .i16 (pAt ps i).a, .int .i16 (pAt ps i).b, .int .i16 (pAt ps i).c, .int .i16 (pAt ps i).d] (fun j v hv => by
      rw [addr_add]
      rcases j with _ | _ | _ | _ | j
      · injection hv with hv; subst hv; exact c4
      · injection hv with hv; subst hv; exact c5
      · injection hv with hv; subst hv; exact c6
      · injection hv with hv; subst hv; exact c7
      · cases hv)
  obtain ⟨_, hi⟩ := id agg_mat
  cases hq : (Tryd.prog).info? 42 with
  | none => simp [hq] at hi
  | some i =>
    have hs : i.size = 4 := by simpa [hq] using hi
    simp [loadVar, Sem.run_bind, run_isAgg agg_mat w, sizeOf, typeInfo, hq, hs, hl]
end Go.Proofs.YtiedbfaehndooaaDoor
