/- Lists of bytes behind one another, as the references write it: Join of a list built in place. -/
import Derived.Test.YteoicpbfjkjogaaRowSet
import Derived.Test.YteoicpbfjkjogaaRefC
namespace Go.Proofs.Yteoicpbfjkjogaa
open Go Go.RowKit
set_option linter.unusedVariables false
set_option linter.unusedSimpArgs false

theorem joins_calls (w : World) {vs : List Value} {ls : List (List Int)} (ha : AllAt w vs ls) {n : Nat} (hv : vs.length = n) (h8 : n ≤ 1000) {out : List Int} (ho : ls.flatten = out) (hl : out.length ≤ 140737488355328) :
    Calls Try.prog 21 #[.slice (some ⟨w.heap.size, 0, none⟩) n n] (w.alloc (.cells vs.toArray 22)) (Ret fun r w' => Own w w' [.row 5 1 r out.length (ints .u8 out)]) := by
  subst ho hv
  have M := (Own.start w).alloc 22 vs.toArray
  refine (join_calls _ (vs := vs) (ls := ls) (SliceAt.built M (.head _) 1 vs.length (by simp) (by unfold maxLen; omega)) (ha.below M.below) hl).mono ?_
  rintro _ w1 ⟨r, rfl, M1⟩
  exact ⟨r, rfl, (M.lift M1).sub (by simp)⟩
theorem join1_calls (w : World) {v1 : Value} {p : List Int} (h1 : BytesAt w v1 p) {n : Nat} (hn : p.length = n) (hl : n ≤ 140737488355328) :
    Calls Try.prog 21 #[.slice (some ⟨w.heap.size, 0, none⟩) 1 1] (w.alloc (.cells #[v1] 22)) (Ret fun r w' => Own w w' [.row 5 1 r n (ints .u8 (p))]) := by
  have e : (p).length = n := by (try simp only [List.length_append]); omega
  have := joins_calls w (vs := [v1]) (ls := [p]) (.cons h1 (.nil _)) (n := 1) rfl (by omega) (out := p) (by simp) (by omega)
  rw [e] at this
  exact this
theorem join2_calls (w : World) {v1 v2 : Value} {p q : List Int} (h1 : BytesAt w v1 p) (h2 : BytesAt w v2 q) {n : Nat} (hn : p.length + q.length = n) (hl : n ≤ 140737488355328) :
    Calls Try.prog 21 #[.slice (some ⟨w.heap.size, 0, none⟩) 2 2] (w.alloc (.cells #[v1, v2] 22)) (Ret fun r w' => Own w w' [.row 5 1 r n (ints .u8 (p ++ q))]) := by
  have e : (p ++ q).length = n := by (try simp only [List.length_append]); omega
  have := joins_calls w (vs := [v1, v2]) (ls := [p, q]) (.cons h1 (.cons h2 (.nil _))) (n := 2) rfl (by omega) (out := p ++ q) (by simp) (by omega)
  rw [e] at this
  exact this
theorem join3_calls (w : World) {v1 v2 v3 : Value} {p q s : List Int} (h1 : BytesAt w v1 p) (h2 : BytesAt w v2 q) (h3 : BytesAt w v3 s) {n : Nat} (hn : p.length + q.length + s.length = n) (hl : n ≤ 140737488355328) :
    Calls Try.prog 21 #[.slice (some ⟨w.heap.size, 0, none⟩) 3 3] (w.alloc (.cells #[v1, v2, v3] 22)) (Ret fun r w' => Own w w' [.row 5 1 r n (ints .u8 (p ++ q ++ s))]) := by
  have e : (p ++ q ++ s).length = n := by (try simp only [List.length_append]); omega
  have := joins_calls w (vs := [v1, v2, v3]) (ls := [p, q, s]) (.cons h1 (.cons h2 (.cons h3 (.nil _)))) (n := 3) rfl (by omega) (out := p ++ q ++ s) (by simp) (by omega)
  rw [e] at this
  exact this
theorem join4_calls (w : World) {v1 v2 v3 v4 : Value} {p q s t : List Int} (h1 : BytesAt w v1 p) (h2 : BytesAt w v2 q) (h3 : BytesAt w v3 s) (h4 : BytesAt w v4 t) {n : Nat} (hn : p.length + q.length + s.length + t.length = n) (hl : n ≤ 140737488355328) :
    Calls Try.prog 21 #[.slice (some ⟨w.heap.size, 0, none⟩) 4 4] (w.alloc (.cells #[v1, v2, v3, v4] 22)) (Ret fun r w' => Own w w' [.row 5 1 r n (ints .u8 (p ++ q ++ s ++ t))]) := by
  have e : (p ++ q ++ s ++ t).length = n := by (try simp only [List.length_append]); omega
  have := joins_calls w (vs := [v1, v2, v3, v4]) (ls := [p, q, s, t]) (.cons h1 (.cons h2 (.cons h3 (.cons h4 (.nil _))))) (n := 4) rfl (by omega) (out := p ++ q ++ s ++ t) (by simp) (by omega)
  rw [e] at this
  exact this
theorem join5_calls (w : World) {v1 v2 v3 v4 v5 : Value} {p q s t u : List Int} (h1 : BytesAt w v1 p) (h2 : BytesAt w v2 q) (h3 : BytesAt w v3 s) (h4 : BytesAt w v4 t) (h5 : BytesAt w v5 u) {n : Nat} (hn : p.length + q.length + s.length + t.length + u.length = n) (hl : n ≤ 140737488355328) :
    Calls Try.prog 21 #[.slice (some ⟨w.heap.size, 0, none⟩) 5 5] (w.alloc (.cells #[v1, v2, v3, v4, v5] 22)) (Ret fun r w' => Own w w' [.row 5 1 r n (ints .u8 (p ++ q ++ s ++ t ++ u))]) := by
  have e : (p ++ q ++ s ++ t ++ u).length = n := by (try simp only [List.length_append]); omega
  have := joins_calls w (vs := [v1, v2, v3, v4, v5]) (ls := [p, q, s, t, u]) (.cons h1 (.cons h2 (.cons h3 (.cons h4 (.cons h5 (.nil _)))))) (n := 5) rfl (by omega) (out := p ++ q ++ s ++ t ++ u) (by simp) (by omega)
  rw [e] at this
  exact this
theorem join2g_calls (w : World) {g : Nat} (hg : w.heap.size = g) {v1 v2 : Value} {p q : List Int} (h1 : BytesAt w v1 p) (h2 : BytesAt w v2 q) {n : Nat} (hn : p.length + q.length = n) (hl : n ≤ 140737488355328) :
    Calls Try.prog 21 #[.slice (some ⟨g, 0, none⟩) 2 2] (w.alloc (.cells #[v1, v2] 22)) (Ret fun r w' => Own w w' [.row 5 1 r n (ints .u8 (p ++ q))]) := by
  subst hg; exact join2_calls w h1 h2 hn hl
theorem join3g_calls (w : World) {g : Nat} (hg : w.heap.size = g) {v1 v2 v3 : Value} {p q s : List Int} (h1 : BytesAt w v1 p) (h2 : BytesAt w v2 q) (h3 : BytesAt w v3 s) {n : Nat} (hn : p.length + q.length + s.length = n) (hl : n ≤ 140737488355328) :
    Calls Try.prog 21 #[.slice (some ⟨g, 0, none⟩) 3 3] (w.alloc (.cells #[v1, v2, v3] 22)) (Ret fun r w' => Own w w' [.row 5 1 r n (ints .u8 (p ++ q ++ s))]) := by
  subst hg; exact join3_calls w h1 h2 h3 hn hl
theorem join4g_calls (w : World) {g : Nat} (hg : w.heap.size = g) {v1 v2 v3 v4 : Value} {p q s t : List Int} (h1 : BytesAt w v1 p) (h2 : BytesAt w v2 q) (h3 : BytesAt w v3 s) (h4 : BytesAt w v4 t) {n : Nat} (hn : p.length + q.length + s.length + t.length = n) (hl : n ≤ 140737488355328) :
    Calls Try.prog 21 #[.slice (some ⟨g, 0, none⟩) 4 4] (w.alloc (.cells #[v1, v2, v3, v4] 22)) (Ret fun r w' => Own w w' [.row 5 1 r n (ints .u8 (p ++ q ++ s ++ t))]) := by
  subst hg; exact join4_calls w h1 h2 h3 h4 hn hl
theorem join5g_calls (w : World) {g : Nat} (hg : w.heap.size = g) {v1 v2 v3 v4 v5 : Value} {p q s t u : List Int} (h1 : BytesAt w v1 p) (h2 : BytesAt w v2 q) (h3 : BytesAt w v3 s) (h4 : BytesAt w v4 t) (h5 : BytesAt w v5 u) {n : Nat} (hn : p.length + q.length + s.length + t.length + u.length = n) (hl : n ≤ 140737488355328) :
    Calls Try.prog 21 #[.slice (some ⟨g, 0, none⟩) 5 5] (w.alloc (.cells #[v1, v2, v3, v4, v5] 22)) (Ret fun r w' => Own w w' [.row 5 1 r n (ints .u8 (p ++ q ++ s ++ t ++ u))]) := by
  subst hg; exact join5_calls w h1 h2 h3 h4 h5 hn hl
theorem alloc_size (w : World) (o : Obj) : (w.alloc o).heap.size = w.heap.size + 1 := by simp
theorem same_true (w : World) {v1 v2 : Value} {xs : List Int} (h1 : BytesAt w v1 xs) (h2 : BytesAt w v2 xs) :
    Calls Try.prog 18 #[v1, v2] w (Ret fun r w' => r = .bool true ∧ Below w.heap.size w w') := by
  have := same_calls w h1 h2
  rwa [decide_eq_true rfl] at this
/-- Where a row lies in what is owned. -/
theorem Own.bytesH {W0 w : World} {L : List Ent} {e : TypeId} {n : Nat} {v : Value} {l : List Int} (M : Hid (Own W0 w L)) (h : .row e 1 v n (ints .u8 l) ∈ L) (hn : l.length = n) : BytesAt w v l := M.out.bytes h hn
end Go.Proofs.Yteoicpbfjkjogaa
