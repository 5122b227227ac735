/- A drawn region under a condition, by hand: the loads of whole structs and arrays. -/
import Derived.Test.YteoicpbfjkjogaaAgg
import Derived.Deep.RegionHeld3
namespace Go.Proofs.Yteoicpbfjkjogaa
open Go Go.RowKit

theorem yields_load {P : Program} {ops : Array Oper} {S : World → Prop} {o : Oper} {a : Act} {ty : TypeId} {x : Operand} {ad : Addr} {v : Value} (hw : Region.wanted o (yielded ops a.tmps) = true) (ho : o.op = .load ty x) (hx : a.eval x = .pointer (some ad))
    (h : ∀ w, S w → (loadVar ty ad).run P w = .ok v w) : YieldsIf P ops S o v a :=
  .inl ⟨hw, fun w hw' => by
    unfold execOp
    simp only [ho, hx, Instr.loadAt, Instr.sureAddr, Sem.run_bind, Sem.run_pure, Result.andThen_ok, h w hw']⟩
end Go.Proofs.Yteoicpbfjkjogaa
