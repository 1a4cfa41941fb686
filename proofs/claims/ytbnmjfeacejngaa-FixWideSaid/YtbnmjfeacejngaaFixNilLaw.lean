/-
  FixNil: the law's call answers true, for all numbers of 64 bits; nothing that was there is changed.
-/
import Derived.Test.YtbnmjfeacejngaaFixWide
import Derived.Test.YtbnmjfeacejngaaXAwakex1
namespace Go.Proofs.Ytbnmjfeacejngaa
open Go.RowKit Go.Shelf Go.Proofs.YtbnmjfeacejngaaW

theorem awake_now (w : World) : Calls Try.prog 10 #[] w fun e w' => e = .returned (.bool true) ∧ Below w.heap.size w w' :=
  XAwake.capstanlaw01_awake.calls true w (by decide +kernel)

theorem zero_wide (w : World) (T : TypeId) : WideAt (w.alloc (.cells #[.int .u64 0, .int .u64 0] T)) w.heap.size 0 0 := by
  have h := PrintWords.blk_new w (.cells #[.int .u64 0, .int .u64 0] T)
  obtain ⟨a, b, c, d⟩ := two_of h
  exact ⟨0, 0, ⟨rfl, rfl⟩, a, b, c, d⟩

theorem FixNil_walk (v n : Int) (w : World) : Calls Try.prog 9 #[.int .i64 v, .int .i64 n] w fun e w' => e = .returned (.bool true) ∧ Below w.heap.size w w' := by
  go_enter Try.func9, Try.ntmps9
  go_wp2_with fail
  refine (wide_add_nil v _).mono ?_
  rintro e w1 ⟨rfl, rfl⟩
  go_wp2_with fail
  refine (wide_take_nil v _).mono ?_
  rintro e w1 ⟨rfl, rfl⟩
  go_wp2_with fail
  refine (wide_fit_nil _).mono ?_
  rintro e w1 ⟨rfl, rfl⟩
  go_wp2_with fail
  refine (wide_mean_nil n _).mono ?_
  rintro e w1 ⟨rfl, rfl⟩
  go_wp2_with fail
  refine (wide_fit (zero_wide w _) (by decide) (by decide)).mono ?_
  rintro e w1 ⟨rfl, hb1⟩
  have e0 : toldN 0 = 0 := by decide
  have e1 : inR 0 = true := by decide
  rw [e0, e1]
  go_wp2_with fail
  refine (awake_now _).mono ?_
  rintro e w2 ⟨rfl, hb2⟩
  go_wp2
  go_ret
  exact ⟨by simp, (((Below.refl _ _).alloc (Nat.le_refl _) _).trans (hb1.mono (by simp))).trans (hb2.mono (by have := hb1.size; simp at this; omega))⟩
end Go.Proofs.Ytbnmjfeacejngaa
