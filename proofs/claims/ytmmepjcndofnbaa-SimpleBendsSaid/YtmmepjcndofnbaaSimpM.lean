/- The document's bit of a flag. -/
import Derived.Test.YtmmepjcndofnbaaSimpA
namespace Go.Proofs.Ytmmepjcndofnbaa
open Go Go.RowKit
set_option linter.unusedVariables false
set_option linter.unusedSimpArgs false
set_option maxRecDepth 100000

def bitB (f k : Int) : Bool := f / k % 2 == 1
set_option maxHeartbeats 1000000 in
theorem bit_calls (w : World) {f k : Int} (f0 : 0 ≤ f) (f1 : f < 256) (k0 : 0 < k) (k1 : k ≤ 128) :
    Calls Try.prog 50 #[.int .u8 f, .int .i64 k] w (Ret fun r w' => r = .bool (bitB f k) ∧ w = w') := by
  have hb := hid (show bitB f k = (f / k % 2 == 1) from rfl)
  have hd : f.tdiv k = f / k := Int.tdiv_eq_ediv_of_nonneg f0
  have h0 : 0 ≤ f / k := Int.ediv_nonneg f0 (by omega)
  have h1 : f / k < 256 := by have := Int.ediv_le_self k f0; omega
  have hne : ¬ k = 0 := by omega
  have hbe : (k == 0) = false := by rw [beq_eq_false_iff_ne]; exact hne
  generalize f / k = q at *
  have hm : q.tmod 2 = q % 2 := Int.tmod_eq_emod_of_nonneg h0
  have hw : IntKind.i64.wrap q = q := IntWalk.i64_in _ (by omega)
  have hw2 : IntKind.i64.wrap (q % 2) = q % 2 := IntWalk.i64_in _ (by omega)
  go_enter Try.func50, Try.ntmps50
  go_wp2
  go_ret
  exact .mk ⟨by rw [hb.out]; rfl, rfl⟩
end Go.Proofs.Ytmmepjcndofnbaa
