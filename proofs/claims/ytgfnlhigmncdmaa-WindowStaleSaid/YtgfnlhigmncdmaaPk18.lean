/-
  Texts of this seat, joined: FixNum.
-/
import Derived.Test.YtgfnlhigmncdmaaPk15
import Derived.ProofKit
section
/-
  Plain laws on what the functions of package fix answer; no program in sight.
-/
namespace Go.Proofs.Ytgfnlhigmncdmaa
set_option linter.unusedVariables false
set_option linter.unusedSimpArgs false
open Go.RowKit

theorem wf64 {a : Int} (h : (Lit.int .i64 a).wf = true) : R64 a := by
  have h2 : IntKind.i64.min ≤ a ∧ a ≤ 9223372036854775807 := by simpa [Lit.wf] using h
  have h3 : IntKind.i64.min = -9223372036854775808 := by decide
  exact ⟨by omega, h2.2⟩
theorem wf32 {a : Int} (h : (Lit.int .i32 a).wf = true) : -2147483648 ≤ a ∧ a < 2147483648 := by
  have h2 : IntKind.i32.min ≤ a ∧ a ≤ IntKind.i32.max := by simpa [Lit.wf] using h
  have h3 : IntKind.i32.min = -2147483648 := by decide
  have h4 : IntKind.i32.max = 2147483647 := by decide
  omega
theorem w64_in {x : Int} (h : R64 x) : wrap64 x = x := by obtain ⟨h0, h1⟩ := h; unfold wrap64; omega
theorem heldI_of {x : Int} (h : R64 x) : heldI x = x := by
  obtain ⟨h0, h1⟩ := h
  unfold heldI
  rw [if_neg (by omega), if_neg (by omega)]
theorem heldI_mono {x y : Int} (h : x ≤ y) : heldI x ≤ heldI y := by
  unfold heldI
  repeat' split
  all_goals omega
theorem add_f {a b : Int} (ha : R64 a) (hb : R64 b) : fix_Add.f a b = some (heldI (a + b)) := if_pos ⟨ha, hb⟩
theorem sub_f {a b : Int} (ha : R64 a) (hb : R64 b) : fix_Sub.f a b = some (heldI (a + -b)) := if_pos ⟨ha, hb⟩
theorem mul_f {a b : Int} (ha : R64 a) (hb : R64 b) : fix_Mul.f a b = some (heldI (a * b / 1000000)) := if_pos ⟨ha, hb⟩
theorem neg_f {a : Int} (ha : R64 a) : fix_Neg.f a = some (heldI (-a)) := if_pos ha
theorem abs_f {a : Int} (ha : R64 a) : fix_Abs.f a = some (heldI (if a < 0 then -a else a)) := if_pos ha
theorem whole_f {a : Int} (ha : R64 a) : fix_Whole.f a = some (heldI (a * 1000000)) := if_pos ha
theorem floor_f {a : Int} (ha : R64 a) : fix_Floor.f a = some (heldI (heldI (a / 1000000) * 1000000)) := if_pos ha
theorem ceil_f {a : Int} (ha : R64 a) : fix_Ceil.f a = some (heldI (heldI (-(-a / 1000000)) * 1000000)) := if_pos ha
theorem count_f {a : Int} (ha : R64 a) : fix_Count.f a = some (heldI (heldI (heldI (-(-a / 1000000)) * 1000000) / 1000000)) := if_pos ha
theorem scale_f {a b c : Int} (ha : R64 a) (hb : R64 b) (hc : R64 c) : fix_Scale.f a b c = some (if b < 0 ∨ c < 1 then 0 else heldI (a * b / c)) := if_pos ⟨ha, hb, hc⟩
theorem div_f {a b : Int} (ha : R64 a) (hb : R64 b) : fix_Div.f a b = some (if b = 0 then (0, false) else (heldI (quotI a b), true)) := if_pos ⟨ha, hb⟩
end Go.Proofs.Ytgfnlhigmncdmaa
end
