/-
  Texts of this seat, joined, less what CoreLazy does not lean on: FixBits.
-/
import Derived.Test.YtpljkcakijkklaaDoorQCoreLazy4
import Derived.WalkKit
import Derived.KernelRfl
import Derived.Shelf.Spec.BitsCarry
import Derived.Laws.Externs
import Derived.Test.YtpljkcakijkklaaDoorQCoreLazy7
set_option linter.unusedVariables false
set_option linter.unusedSimpArgs false
section
namespace Go.Proofs.YtpljkcakijkklaaDoor
set_option linter.unusedVariables false
set_option linter.unusedSimpArgs false
open Go.RowKit Go.Shelf Go.Proofs.YtpljkcakijkklaaDoorW.PrintWords

theorem add64 (x y c : Int) (hx : 0 ≤ x) (hy : 0 ≤ y) (hc0 : 0 ≤ c) (hc : c ≤ 1) (w : World) :
  (callFunc 91 #[.int .u64 x, .int .u64 y, .int .u64 c]).run Tryd.prog w =
   .ok (.value (.tuple #[.int .u64 ((x + y + c) % 18446744073709551616), .int .u64 ((x + y + c) / 18446744073709551616)])) w := by
 rw [run_callFunc_extern Tryd.func91 (by kernel_rfl) (by kernel_rfl) (by kernel_rfl) (e := add64Entry) (by kernel_rfl), run_add64 x y c hx hy hc0 hc]
 rfl
theorem add64_0 (x y : Int) (hx : 0 ≤ x) (hy : 0 ≤ y) (w : World) : (callFunc 91 #[.int .u64 x, .int .u64 y, .int .u64 0]).run Tryd.prog w =
  .ok (.value (.tuple #[.int .u64 ((x + y) % 18446744073709551616), .int .u64 ((x + y) / 18446744073709551616)])) w := by
 simpa using add64 x y 0 hx hy (Int.le_refl 0) (by decide) w
theorem sub64 (x y b : Int) (hx : 0 ≤ x) (hy : 0 ≤ y) (hy' : y < 18446744073709551616) (hb0 : 0 ≤ b) (hb : b ≤ 1) (w : World) : (callFunc 86 #[.int .u64 x, .int .u64 y, .int .u64 b]).run Tryd.prog w =
  .ok (.value (.tuple #[.int .u64 ((x - y - b) % 18446744073709551616), .int .u64 (if x < y + b then 1 else 0)])) w := by
 obtain ⟨x, rfl⟩ := Int.eq_ofNat_of_zero_le hx
 obtain ⟨y, rfl⟩ := Int.eq_ofNat_of_zero_le hy
 obtain ⟨b, rfl⟩ := Int.eq_ofNat_of_zero_le hb0
 have e1 : (((x + 18446744073709551616 - y - b) % 18446744073709551616 : Nat) : Int) = ((x : Int) - y - b) % 18446744073709551616 := by omega
 have e2 : ((if x < y + b then 1 else 0 : Nat) : Int) = if (x : Int) < y + b then 1 else 0 := by split <;> split <;> omega
 rw [← e1, ← e2, run_callFunc_extern Tryd.func86 (by kernel_rfl) (by kernel_rfl) (by kernel_rfl) (e := sub64Entry) (by kernel_rfl), run_sub64 x y b (by omega)]
 rfl
def bor (x y : Int) : Int := if x < y then 1 else 0
theorem sub64n (x y b : Int) (hx : 0 ≤ x) (hy : 0 ≤ y) (hy' : y < 18446744073709551616) (hb0 : 0 ≤ b) (hb : b ≤ 1) (w : World) : (callFunc 86 #[.int .u64 x, .int .u64 y, .int .u64 b]).run Tryd.prog w =
  .ok (.value (.tuple #[.int .u64 ((x - y - b) % 18446744073709551616), .int .u64 (bor x (y + b))])) w := sub64 x y b hx hy hy' hb0 hb w

theorem mul64 (x y : Int) (hx : 0 ≤ x) (hx' : x < 18446744073709551616) (hy : 0 ≤ y) (hy' : y < 18446744073709551616) (w : World) :
  Calls Tryd.prog 55 #[.int .u64 x, .int .u64 y] w fun e w' => e = .returned (.tuple #[.int .u64 (x * y / 18446744073709551616), .int .u64 (x * y % 18446744073709551616)]) ∧ w' = w := by
 obtain ⟨x, rfl⟩ := Int.eq_ofNat_of_zero_le hx
 obtain ⟨y, rfl⟩ := Int.eq_ofNat_of_zero_le hy
 exact Tryd.bits_Mul64 x y (by omega) (by omega) w

def bits_LeadingZeros64.f (a0 : Int) : Option (Int) := if 0 ≤ a0 ∧ a0 ≤ 18446744073709551615 then some (64 - (Lib.bitLen a0.toNat : Int)) else none
theorem bits_LeadingZeros64.calls (a0 : Int) (r : Int) (w : World) (h : bits_LeadingZeros64.f a0 = some r) :
  Calls Tryd.prog 90 #[.int .u64 a0] w fun e w' => e = .returned (.int .i64 r) ∧ Drawn0 w w' := by
 unfold bits_LeadingZeros64.f at h
 split at h
 ·rename_i hr
  injection h with h
  subst h
  refine (Tryd.bits_LeadingZeros64 a0 w hr.1 hr.2).mono ?_
  rintro e w' ⟨rfl, rfl⟩
  exact ⟨rfl, Drawn0.refl _⟩
 ·cases h
end Go.Proofs.YtpljkcakijkklaaDoor

end
