/-
  RingNil: the law's call answers true; nothing that was there is changed.
-/
import Derived.Test.YtmlnbmbobkoipaaRingHollow
import Derived.Test.YtmlnbmbobkoipaaRingAwake
namespace Go.Proofs.Ytmlnbmbobkoipaa
open Go.RowKit Go.Proofs.YtmlnbmbobkoipaaW.PrintWords Go.Proofs.YtmlnbmbobkoipaaW.PrintLast Go.Proofs.YtmlnbmbobkoipaaW.PrintMore
set_option maxHeartbeats 8000000 in
set_option maxRecDepth 100000 in
theorem RingNil_walk (v i : Int) (W : World) : Calls Try.prog 10 #[.int .i64 v, .int .i64 i] W fun e w' => e = .returned (.bool true) ∧ Below W.heap.size W w' := by
  go_enter Try.func10, Try.ntmps10
  go_wp2_with fail
  refine (awake05 _).mono ?_
  rintro e w1 ⟨rfl, b1⟩
  have B1 := Lib.hid b1
  clear b1
  go_wp2
  generalize hws : World.alloc (World.alloc w1 _) _ = ws
  have hb1 : Below W.heap.size W ws := by rw [← hws]; exact (B1.out.alloc B1.out.size _).alloc (by have := B1.out.size; simp; omega) _
  have hblk : ws.heap[w1.heap.size + 1]? = some (.cells #[.pointer none, .pointer (some ⟨w1.heap.size, 0, none⟩)] 57 (0, 0)) := by
    rw [← hws]
    have := blk_new (w1.alloc (.cells #[.int .i64 0, .int .i64 0, .int .i64 0, .slice none 0 0] 73 (0, 0))) (.cells #[.pointer none, .pointer (some ⟨w1.heap.size, 0, none⟩)] 57 (0, 0))
    rw [World.size_alloc] at this
    exact this
  have hring : ws.heap[w1.heap.size]? = some (.cells #[.int .i64 0, .int .i64 0, .int .i64 0, .slice none 0 0] 73 (0, 0)) := by
    rw [← hws]
    exact (Below.heap_alloc _ _ _ (by simp)).trans (blk_new _ _)
  have hh : Hollow ws (some ⟨w1.heap.size, 0, none⟩) := .inr ⟨_, rfl, 0, [], ⟨⟨none, hring, .inl ⟨rfl, rfl⟩⟩, fun _ hk => hk.elim, (Array.getElem?_eq_some_iff.1 hring).1⟩, by constructor <;> simp, rfl⟩
  have HCELL := Lib.hid (show ∀ k : Nat, k < 2 → ∃ r, ws.cell? ⟨w1.heap.size + 1, k, none⟩ = some (.pointer r) ∧ Hollow ws r by
    intro k hk
    by_cases h0 : k = 0
    · subst h0; exact ⟨none, (blk_cell hblk 0).trans rfl, .inl rfl⟩
    · obtain rfl : k = 1 := by omega
      exact ⟨_, (blk_cell hblk 1).trans rfl, hh⟩)
  have HB1 := Lib.hid hb1
  have HLT := Lib.hid (Array.getElem?_eq_some_iff.1 hblk).1
  clear hb1 hblk hring hh hws
  go_loopg [7] 2 (fun kq v7 w' => ∃ k : Nat, v7 = .int .i64 k ∧ Aside0 (k + kq = 2) ∧ Aside0 (Below ws.heap.size ws w'))
  case atStart => exact ⟨0, rfl, ⟨by omega⟩, ⟨Below.refl _ _⟩⟩
  case round =>
    obtain ⟨k, rfl, hk, hb⟩ := hrel
    by_cases hk2 : k < 2
    · have d0 : decide (k < 2) = true := decide_eq_true hk2
      have d1 : decide ((k : Int) < 2) = true := decide_eq_true (by omega)
      have f1 := eq_true (show (0 : Int) ≤ (k : Int) by omega)
      have f2 : ((k : Int) < 2) = True := eq_true (by omega)
      have f3 := eq_true hk2
      have Hk := Lib.hid hk2
      have hw : wrap64 ((k : Int) + 1) = ((k + 1 : Nat) : Int) := by unfold wrap64; omega
      obtain ⟨r, hc, hh⟩ := HCELL.out k hk2
      have HC := Lib.hid hc
      have H0 := Lib.hid (hh.below hb.out)
      have B0 := Lib.hid hb.out
      have q0 := (B0.out.cell (p := ⟨w1.heap.size + 1, k, none⟩) HLT.out).trans HC.out
      clear hc hh hk2
      go_wp2_with fail
      refine (hollow_push v H0.out).mono ?_
      rintro e w2 ⟨rfl, b2⟩
      have H2 := Lib.hid (H0.out.below b2)
      have B2 := Lib.hid (B0.out.trans (b2.mono B0.out.size))
      have q2 := (B2.out.cell (p := ⟨w1.heap.size + 1, k, none⟩) HLT.out).trans HC.out
      clear b2
      go_wp2_with fail
      refine (hollow_drop H2.out).mono ?_
      rintro e w3 ⟨rfl, b3⟩
      have H3 := Lib.hid (H2.out.below b3)
      have B3 := Lib.hid (B2.out.trans (b3.mono B2.out.size))
      have q3 := (B3.out.cell (p := ⟨w1.heap.size + 1, k, none⟩) HLT.out).trans HC.out
      clear b3
      go_wp2_with fail
      refine (hollow_at i H3.out).mono ?_
      rintro e w4 ⟨rfl, b4⟩
      have H4 := Lib.hid (H3.out.below b4)
      have B4 := Lib.hid (B3.out.trans (b4.mono B3.out.size))
      have q4 := (B4.out.cell (p := ⟨w1.heap.size + 1, k, none⟩) HLT.out).trans HC.out
      clear b4
      go_wp2_with fail
      refine (hollow_each 9 H4.out).mono ?_
      rintro e w5 ⟨A5, c5, n5, rfl, b5⟩
      have H5 := Lib.hid (H4.out.below b5)
      have B5 := Lib.hid (B4.out.trans (b5.mono B4.out.size))
      have q5 := (B5.out.cell (p := ⟨w1.heap.size + 1, k, none⟩) HLT.out).trans HC.out
      clear b5
      go_wp2_with fail
      refine (hollow_len H5.out).mono ?_
      rintro e w6 ⟨rfl, rfl⟩
      go_wp2_with fail
      refine (hollow_room H5.out).mono ?_
      rintro e w6 ⟨rfl, rfl⟩
      go_wp2_with fail
      refine (hollow_list H5.out).mono ?_
      rintro e w6 ⟨v6, rfl, r6, b6⟩
      obtain ⟨A6, c6, rfl⟩ := Kd.R_slice r6
      have B6 := Lib.hid (B5.out.trans (b6.mono B5.out.size))
      clear r6 b6
      go_wp2
      go_roundg (gk - 1)
      case measure => have := hk.out; have := Hk.out; omega
      case rel => exact ⟨k + 1, by first | rfl | simp [hw], ⟨by have := hk.out; have := Hk.out; omega⟩, ⟨B6.out⟩⟩
    · have d0 : decide (k < 2) = false := decide_eq_false hk2
      have d1 : decide ((k : Int) < 2) = false := decide_eq_false (by omega)
      clear hk2
      go_wp2
      go_ret
      exact ⟨by simp, HB1.out.trans (hb.out.mono HB1.out.size)⟩
end Go.Proofs.Ytmlnbmbobkoipaa
