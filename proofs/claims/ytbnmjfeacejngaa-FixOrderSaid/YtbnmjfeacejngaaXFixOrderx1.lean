/- FixOrder of this seat: part of the proof that the law answers true at every input and leaves its arguments as they were, without a condition; written by xprint.sh, a program of this session, out of the translation. -/
import Derived.Test.YtbnmjfeacejngaaXFixOrderx0
namespace Go.Proofs.Ytbnmjfeacejngaa.XFixOrder
open Go.RowKit Go.Proofs.YtbnmjfeacejngaaW.PrintWords Go.Proofs.YtbnmjfeacejngaaW.PrintLast Go.Proofs.YtbnmjfeacejngaaW.PrintMore
attribute [local go_sem] max2_int min2_int max_two min_two max_three min_three max_four min_four   -- for this text's walks alone
set_option linter.unusedVariables false
set_option linter.unusedSimpArgs false

/-! ### capstanlaw01_awake: function 10 -/
def capstanlaw01_awake.f  : Option (Bool) := (fix_Div.f (-1) 3000000).bind fun bt101 => ((fix_Mul.f 1500000 (-1)).bind fun t103 => (if t103 = (-2) then (if bt101.1 = (-1) then (if bt101.2 = true then ((fix_Count.f 1).bind fun t104 => (some (t104 == 1))) else (some false)) else (some false)) else (some false)))
set_option maxHeartbeats 8000000 in
set_option maxRecDepth 100000 in
theorem capstanlaw01_awake.calls  (r : Bool) (w : World) (h : capstanlaw01_awake.f  = some r) :
    Calls Try.prog 10 #[] w fun e w' => e = .returned (.bool r) ∧ Below w.heap.size w w' := by
  have HB := Aside0.mk (Below.refl w.heap.size w)
  have H : ((fix_Div.f (-1) 3000000).bind fun bt101 => ((fix_Mul.f 1500000 (-1)).bind fun t103 => (if t103 = (-2) then (if bt101.1 = (-1) then (if bt101.2 = true then ((fix_Count.f 1).bind fun t104 => (some (t104 == 1))) else (some false)) else (some false)) else (some false)))) = some r := h
  clear h
  replace H := Option.bind_eq_some_iff.mp H
  obtain ⟨⟨t101, t102⟩, A10, H⟩ := H
  replace H : ((fix_Mul.f 1500000 (-1)).bind fun t103 => (if t103 = (-2) then (if t101 = (-1) then (if t102 = true then ((fix_Count.f 1).bind fun t104 => (some (t104 == 1))) else (some false)) else (some false)) else (some false))) = some r := H
  have A1 := Aside0.mk A10
  clear A10
  replace H := Option.bind_eq_some_iff.mp H
  obtain ⟨t103, A20, H⟩ := H
  replace H : (if t103 = (-2) then (if t101 = (-1) then (if t102 = true then ((fix_Count.f 1).bind fun t104 => (some (t104 == 1))) else (some false)) else (some false)) else (some false)) = some r := H
  have A2 := Aside0.mk A20
  clear A20
  by_cases c3 : t103 = (-2)
  · rw [if_pos c3] at H
    have c3b0 : (t103 == (-2)) = true := beq_iff_eq.mpr c3
    have c3b1 : (t103 != (-2)) = false := bne_eq_false_iff_eq.mpr c3
    clear c3
    by_cases c4 : t101 = (-1)
    · rw [if_pos c4] at H
      have c4b0 : (t101 == (-1)) = true := beq_iff_eq.mpr c4
      have c4b1 : (t101 != (-1)) = false := bne_eq_false_iff_eq.mpr c4
      clear c4
      by_cases c5 : t102 = true
      · subst c5
        have H1 : ((fix_Count.f 1).bind fun t104 => (some (t104 == 1))) = some r := by rw [if_pos rfl] at H; exact H
        clear H
        have H := H1
        clear H1
        replace H := Option.bind_eq_some_iff.mp H
        obtain ⟨t104, A60, H⟩ := H
        replace H : (some (t104 == 1)) = some r := H
        have A6 := Aside0.mk A60
        clear A60
        obtain rfl := Option.some.inj H
        go_enter Try.func10, Try.ntmps10
        go_wp2_with (first | ((with_reducible refine gate_callee (f := 28) rfl ?_); refine goesL_ (some 4) rfl rfl Try.func28 (by kernel_rfl) rfl #[.int .i64 (-1), .int .i64 3000000] rfl (by (try simp only [List.map_toArray, List.map_cons, List.map_nil]); first | done | rfl | (simp only [List.length_drop, List.length_take]; rfl)) ?_; (with_reducible refine (fix_Div.calls (-1) 3000000 t101 true _ A1.out).mono ?_); rintro e w7 ⟨rfl, hb⟩; refine ⟨_, rfl, ?_⟩; have n0_ := Aside0.mk (below_step (by repeat (first | (with_reducible first | exact HB.out | apply below_alloc | apply pw_below_drewN | apply below_drew1) | exact HB.out)) hb); clear HB; have HB := n0_; clear n0_; (try clear hb); (try clear hb2); (try clear hk); (try clear hi)) | ((with_reducible refine gate_callee (f := 27) rfl ?_); refine goesL_ (some 7) rfl rfl Try.func27 (by kernel_rfl) rfl #[.int .i64 1500000, .int .i64 (-1)] rfl (by (try simp only [List.map_toArray, List.map_cons, List.map_nil]); first | done | rfl | (simp only [List.length_drop, List.length_take]; rfl)) ?_; (with_reducible refine (fix_Mul.calls 1500000 (-1) t103 _ A2.out).mono ?_); rintro e w8 ⟨rfl, hb⟩; refine ⟨_, rfl, ?_⟩; have n0_ := Aside0.mk (below_step (by repeat (first | (with_reducible first | exact HB.out | apply below_alloc | apply pw_below_drewN | apply below_drew1) | exact HB.out)) hb); clear HB; have HB := n0_; clear n0_; (try clear hb); (try clear hb2); (try clear hk); (try clear hi)) | (go_at_call 17; (with_reducible refine (fix_Count.calls 1 t104 _ A6.out).mono ?_); rintro e w9 ⟨rfl, hb⟩; have n0_ := Aside0.mk (below_step (by repeat (first | (with_reducible first | exact HB.out | apply below_alloc | apply pw_below_drewN | apply below_drew1) | exact HB.out)) hb); clear HB; have HB := n0_; clear n0_; (try clear hb); (try clear hb2); (try clear hk); (try clear hi)))
        go_ret
        exact ⟨by first | rfl | (simp [errW_none, errW_some] <;> rfl) | (simp [*, errW_none, errW_some] <;> rfl), by repeat (first | (with_reducible first | exact HB.out | apply below_alloc | apply pw_below_drewN | apply below_drew1) | exact HB.out)⟩
      · replace c5 := Bool.eq_false_iff.mpr c5
        subst c5
        have H1 : (some false) = some r := by rw [if_neg (show ¬ (false = true) by decide)] at H; exact H
        clear H
        have H := H1
        clear H1
        obtain rfl := Option.some.inj H
        go_enter Try.func10, Try.ntmps10
        go_wp2_with (first | ((with_reducible refine gate_callee (f := 28) rfl ?_); refine goesL_ (some 4) rfl rfl Try.func28 (by kernel_rfl) rfl #[.int .i64 (-1), .int .i64 3000000] rfl (by (try simp only [List.map_toArray, List.map_cons, List.map_nil]); first | done | rfl | (simp only [List.length_drop, List.length_take]; rfl)) ?_; (with_reducible refine (fix_Div.calls (-1) 3000000 t101 false _ A1.out).mono ?_); rintro e w10 ⟨rfl, hb⟩; refine ⟨_, rfl, ?_⟩; have n0_ := Aside0.mk (below_step (by repeat (first | (with_reducible first | exact HB.out | apply below_alloc | apply pw_below_drewN | apply below_drew1) | exact HB.out)) hb); clear HB; have HB := n0_; clear n0_; (try clear hb); (try clear hb2); (try clear hk); (try clear hi)) | ((with_reducible refine gate_callee (f := 27) rfl ?_); refine goesL_ (some 7) rfl rfl Try.func27 (by kernel_rfl) rfl #[.int .i64 1500000, .int .i64 (-1)] rfl (by (try simp only [List.map_toArray, List.map_cons, List.map_nil]); first | done | rfl | (simp only [List.length_drop, List.length_take]; rfl)) ?_; (with_reducible refine (fix_Mul.calls 1500000 (-1) t103 _ A2.out).mono ?_); rintro e w11 ⟨rfl, hb⟩; refine ⟨_, rfl, ?_⟩; have n0_ := Aside0.mk (below_step (by repeat (first | (with_reducible first | exact HB.out | apply below_alloc | apply pw_below_drewN | apply below_drew1) | exact HB.out)) hb); clear HB; have HB := n0_; clear n0_; (try clear hb); (try clear hb2); (try clear hk); (try clear hi)))
        go_ret
        exact ⟨by first | rfl | (simp [errW_none, errW_some] <;> rfl) | (simp [*, errW_none, errW_some] <;> rfl), by repeat (first | (with_reducible first | exact HB.out | apply below_alloc | apply pw_below_drewN | apply below_drew1) | exact HB.out)⟩
    · rw [if_neg c4] at H
      have c4b0 : (t101 == (-1)) = false := beq_eq_false_iff_ne.mpr c4
      have c4b1 : (t101 != (-1)) = true := bne_iff_ne.mpr c4
      obtain rfl := Option.some.inj H
      go_enter Try.func10, Try.ntmps10
      go_wp2_with (first | ((with_reducible refine gate_callee (f := 28) rfl ?_); refine goesL_ (some 4) rfl rfl Try.func28 (by kernel_rfl) rfl #[.int .i64 (-1), .int .i64 3000000] rfl (by (try simp only [List.map_toArray, List.map_cons, List.map_nil]); first | done | rfl | (simp only [List.length_drop, List.length_take]; rfl)) ?_; (with_reducible refine (fix_Div.calls (-1) 3000000 t101 t102 _ A1.out).mono ?_); rintro e w12 ⟨rfl, hb⟩; refine ⟨_, rfl, ?_⟩; have n0_ := Aside0.mk (below_step (by repeat (first | (with_reducible first | exact HB.out | apply below_alloc | apply pw_below_drewN | apply below_drew1) | exact HB.out)) hb); clear HB; have HB := n0_; clear n0_; (try clear hb); (try clear hb2); (try clear hk); (try clear hi)) | ((with_reducible refine gate_callee (f := 27) rfl ?_); refine goesL_ (some 7) rfl rfl Try.func27 (by kernel_rfl) rfl #[.int .i64 1500000, .int .i64 (-1)] rfl (by (try simp only [List.map_toArray, List.map_cons, List.map_nil]); first | done | rfl | (simp only [List.length_drop, List.length_take]; rfl)) ?_; (with_reducible refine (fix_Mul.calls 1500000 (-1) t103 _ A2.out).mono ?_); rintro e w13 ⟨rfl, hb⟩; refine ⟨_, rfl, ?_⟩; have n0_ := Aside0.mk (below_step (by repeat (first | (with_reducible first | exact HB.out | apply below_alloc | apply pw_below_drewN | apply below_drew1) | exact HB.out)) hb); clear HB; have HB := n0_; clear n0_; (try clear hb); (try clear hb2); (try clear hk); (try clear hi)))
      go_ret
      exact ⟨by first | rfl | (simp [errW_none, errW_some] <;> rfl) | (simp [*, errW_none, errW_some] <;> rfl), by repeat (first | (with_reducible first | exact HB.out | apply below_alloc | apply pw_below_drewN | apply below_drew1) | exact HB.out)⟩
  · rw [if_neg c3] at H
    have c3b0 : (t103 == (-2)) = false := beq_eq_false_iff_ne.mpr c3
    have c3b1 : (t103 != (-2)) = true := bne_iff_ne.mpr c3
    obtain rfl := Option.some.inj H
    go_enter Try.func10, Try.ntmps10
    go_wp2_with (first | ((with_reducible refine gate_callee (f := 28) rfl ?_); refine goesL_ (some 4) rfl rfl Try.func28 (by kernel_rfl) rfl #[.int .i64 (-1), .int .i64 3000000] rfl (by (try simp only [List.map_toArray, List.map_cons, List.map_nil]); first | done | rfl | (simp only [List.length_drop, List.length_take]; rfl)) ?_; (with_reducible refine (fix_Div.calls (-1) 3000000 t101 t102 _ A1.out).mono ?_); rintro e w14 ⟨rfl, hb⟩; refine ⟨_, rfl, ?_⟩; have n0_ := Aside0.mk (below_step (by repeat (first | (with_reducible first | exact HB.out | apply below_alloc | apply pw_below_drewN | apply below_drew1) | exact HB.out)) hb); clear HB; have HB := n0_; clear n0_; (try clear hb); (try clear hb2); (try clear hk); (try clear hi)) | ((with_reducible refine gate_callee (f := 27) rfl ?_); refine goesL_ (some 7) rfl rfl Try.func27 (by kernel_rfl) rfl #[.int .i64 1500000, .int .i64 (-1)] rfl (by (try simp only [List.map_toArray, List.map_cons, List.map_nil]); first | done | rfl | (simp only [List.length_drop, List.length_take]; rfl)) ?_; (with_reducible refine (fix_Mul.calls 1500000 (-1) t103 _ A2.out).mono ?_); rintro e w15 ⟨rfl, hb⟩; refine ⟨_, rfl, ?_⟩; have n0_ := Aside0.mk (below_step (by repeat (first | (with_reducible first | exact HB.out | apply below_alloc | apply pw_below_drewN | apply below_drew1) | exact HB.out)) hb); clear HB; have HB := n0_; clear n0_; (try clear hb); (try clear hb2); (try clear hk); (try clear hi)))
    go_ret
    exact ⟨by first | rfl | (simp [errW_none, errW_some] <;> rfl) | (simp [*, errW_none, errW_some] <;> rfl), by repeat (first | (with_reducible first | exact HB.out | apply below_alloc | apply pw_below_drewN | apply below_drew1) | exact HB.out)⟩

/-! ### capstanlaw01_FixOrder: function 5 -/
mutual
def capstanlaw01_FixOrder.j0 : Nat → Int → Int → Int → Bool → Option (Bool)
  | 0, _, _, _, _ => none
  | k + 1, x0, x1, x2, x59 => if x59 = true then (some false) else (if x0 ≤ x1 then (if x2 ≥ 0 then ((fix_Mul.f x0 x2).bind fun t118 => ((fix_Mul.f x1 x2).bind fun t119 => (capstanlaw01_FixOrder.j1 k x0 x1 (decide (t118 > t119))))) else (capstanlaw01_FixOrder.j1 k x0 x1 false)) else (capstanlaw01_FixOrder.j1 k x0 x1 false))
def capstanlaw01_FixOrder.j1 : Nat → Int → Int → Bool → Option (Bool)
  | 0, _, _, _ => none
  | k + 1, x0, x1, x75 => if x75 = true then (some false) else ((fix_Floor.f x0).bind fun t120 => ((fix_Ceil.f x0).bind fun t121 => (if t120 > x0 then (capstanlaw01_FixOrder.j2 k x0 x1 true) else (if t121 < x0 then (capstanlaw01_FixOrder.j2 k x0 x1 true) else (if t120 > (-9223372036854775808) then (if (Int.tmod t120 1000000) = 0 then (if (wrap64 (x0 - t120)) ≥ 1000000 then (capstanlaw01_FixOrder.j2 k x0 x1 true) else (if t121 < 9223372036854775807 then (if (Int.tmod t121 1000000) = 0 then (capstanlaw01_FixOrder.j2 k x0 x1 (decide ((wrap64 (t121 - x0)) ≥ 1000000))) else (capstanlaw01_FixOrder.j2 k x0 x1 true)) else (capstanlaw01_FixOrder.j2 k x0 x1 false))) else (capstanlaw01_FixOrder.j2 k x0 x1 true)) else (if t121 < 9223372036854775807 then (if (Int.tmod t121 1000000) = 0 then (capstanlaw01_FixOrder.j2 k x0 x1 (decide ((wrap64 (t121 - x0)) ≥ 1000000))) else (capstanlaw01_FixOrder.j2 k x0 x1 true)) else (capstanlaw01_FixOrder.j2 k x0 x1 false)))))))
def capstanlaw01_FixOrder.j2 : Nat → Int → Int → Bool → Option (Bool)
  | 0, _, _, _ => none
  | k + 1, x0, x1, x117 => if x117 = true then (some false) else ((fix_Add.f x0 x1).bind fun t122 => ((fix_Add.f x1 x0).bind fun t123 => (if t122 = t123 then ((fix_Mul.f x0 x1).bind fun t124 => ((fix_Mul.f x1 x0).bind fun t125 => (if t124 = t125 then ((fix_Mul.f x0 1000000).bind fun t126 => (if t126 = x0 then ((fix_Add.f x0 0).bind fun t127 => (if t127 = x0 then ((fix_Abs.f x0).bind fun t128 => (some (decide (t128 ≥ 0)))) else (some false))) else (some false))) else (some false)))) else (some false))))
end
def capstanlaw01_FixOrder.f (k : Nat) (a0 : Int) (a1 : Int) (a2 : Int) : Option (Bool) := (capstanlaw01_awake.f).bind fun t105 => (if t105 = true then (if a0 ≤ a1 then ((fix_Add.f a0 a2).bind fun t106 => ((fix_Add.f a1 a2).bind fun t107 => (if t106 > t107 then (capstanlaw01_FixOrder.j0 k a0 a1 a2 true) else ((fix_Sub.f a2 a0).bind fun t108 => ((fix_Sub.f a2 a1).bind fun t109 => (if t108 < t109 then (capstanlaw01_FixOrder.j0 k a0 a1 a2 true) else ((fix_Neg.f a0).bind fun t110 => ((fix_Neg.f a1).bind fun t111 => (if t110 < t111 then (capstanlaw01_FixOrder.j0 k a0 a1 a2 true) else ((fix_Floor.f a0).bind fun t112 => ((fix_Floor.f a1).bind fun t113 => (if t112 > t113 then (capstanlaw01_FixOrder.j0 k a0 a1 a2 true) else ((fix_Ceil.f a0).bind fun t114 => ((fix_Ceil.f a1).bind fun t115 => (if t114 > t115 then (capstanlaw01_FixOrder.j0 k a0 a1 a2 true) else ((fix_Count.f a0).bind fun t116 => ((fix_Count.f a1).bind fun t117 => (capstanlaw01_FixOrder.j0 k a0 a1 a2 (decide (t116 > t117)))))))))))))))))))) else (capstanlaw01_FixOrder.j0 k a0 a1 a2 false)) else (some false))
theorem capstanlaw01_FixOrder.mono_l : ∀ k, (∀ y0 y1 y2 y3, LeO (capstanlaw01_FixOrder.j0 k y0 y1 y2 y3) (capstanlaw01_FixOrder.j0 (k + 1) y0 y1 y2 y3)) ∧ (∀ y0 y1 y2, LeO (capstanlaw01_FixOrder.j1 k y0 y1 y2) (capstanlaw01_FixOrder.j1 (k + 1) y0 y1 y2)) ∧ (∀ y0 y1 y2, LeO (capstanlaw01_FixOrder.j2 k y0 y1 y2) (capstanlaw01_FixOrder.j2 (k + 1) y0 y1 y2))
  | 0 => ⟨fun _ _ _ _ r h => by simp [capstanlaw01_FixOrder.j0] at h, fun _ _ _ r h => by simp [capstanlaw01_FixOrder.j1] at h, fun _ _ _ r h => by simp [capstanlaw01_FixOrder.j2] at h⟩
  | k + 1 => by
    obtain ⟨ih0, ih1, ih2⟩ := capstanlaw01_FixOrder.mono_l k
    refine ⟨?_, ?_, ?_⟩
    · intro y0 y1 y2 y3
      unfold capstanlaw01_FixOrder.j0
      repeat' first
      | (with_reducible exact ih0 _ _ _ _)
      | (with_reducible exact ih1 _ _ _)
      | (with_reducible exact ih2 _ _ _)
      | (with_reducible exact LeO.refl _)
      | (with_reducible exact LeO.none _)
      | (with_reducible refine LeO.ite ?_ ?_)
      | (with_reducible refine LeO.bind ?_ (fun _ => ?_))
      | exact ih0 _ _ _ _
      | exact ih1 _ _ _
      | exact ih2 _ _ _
      | exact LeO.none _
      | refine LeO.ite ?_ ?_
      | refine LeO.bind ?_ (fun _ => ?_)
    · intro y0 y1 y2
      unfold capstanlaw01_FixOrder.j1
      repeat' first
      | (with_reducible exact ih0 _ _ _ _)
      | (with_reducible exact ih1 _ _ _)
      | (with_reducible exact ih2 _ _ _)
      | (with_reducible exact LeO.refl _)
      | (with_reducible exact LeO.none _)
      | (with_reducible refine LeO.ite ?_ ?_)
      | (with_reducible refine LeO.bind ?_ (fun _ => ?_))
      | exact ih0 _ _ _ _
      | exact ih1 _ _ _
      | exact ih2 _ _ _
      | exact LeO.none _
      | refine LeO.ite ?_ ?_
      | refine LeO.bind ?_ (fun _ => ?_)
    · intro y0 y1 y2
      unfold capstanlaw01_FixOrder.j2
      repeat' first
      | (with_reducible exact ih0 _ _ _ _)
      | (with_reducible exact ih1 _ _ _)
      | (with_reducible exact ih2 _ _ _)
      | (with_reducible exact LeO.refl _)
      | (with_reducible exact LeO.none _)
      | (with_reducible refine LeO.ite ?_ ?_)
      | (with_reducible refine LeO.bind ?_ (fun _ => ?_))
      | exact ih0 _ _ _ _
      | exact ih1 _ _ _
      | exact ih2 _ _ _
      | exact LeO.none _
      | refine LeO.ite ?_ ?_
      | refine LeO.bind ?_ (fun _ => ?_)
theorem capstanlaw01_FixOrder.mono : ∀ a0 a1 a2 k, LeO (capstanlaw01_FixOrder.f k a0 a1 a2) (capstanlaw01_FixOrder.f (k + 1) a0 a1 a2) := by
  intro a0 a1 a2 k
  obtain ⟨ih0, ih1, ih2⟩ := capstanlaw01_FixOrder.mono_l k
  unfold capstanlaw01_FixOrder.f
  repeat' first
      | (with_reducible exact ih0 _ _ _ _)
      | (with_reducible exact ih1 _ _ _)
      | (with_reducible exact ih2 _ _ _)
      | (with_reducible exact LeO.refl _)
      | (with_reducible exact LeO.none _)
      | (with_reducible refine LeO.ite ?_ ?_)
      | (with_reducible refine LeO.bind ?_ (fun _ => ?_))
      | exact ih0 _ _ _ _
      | exact ih1 _ _ _
      | exact ih2 _ _ _
      | exact LeO.none _
      | refine LeO.ite ?_ ?_
      | refine LeO.bind ?_ (fun _ => ?_)
set_option maxHeartbeats 8000000 in
set_option maxRecDepth 100000 in
theorem capstanlaw01_FixOrder.calls (k : Nat) (a0 : Int) (a1 : Int) (a2 : Int) (r : Bool) (w : World) (h : capstanlaw01_FixOrder.f k a0 a1 a2 = some r) :
    Calls Try.prog 5 #[.int .i64 a0, .int .i64 a1, .int .i64 a2] w fun e w' => e = .returned (.bool r) ∧ Below w.heap.size w w' := by
  have HB := Aside0.mk (Below.refl w.heap.size w)
  have H : ((capstanlaw01_awake.f).bind fun t105 => (if t105 = true then (if a0 ≤ a1 then ((fix_Add.f a0 a2).bind fun t106 => ((fix_Add.f a1 a2).bind fun t107 => (if t106 > t107 then (capstanlaw01_FixOrder.j0 k a0 a1 a2 true) else ((fix_Sub.f a2 a0).bind fun t108 => ((fix_Sub.f a2 a1).bind fun t109 => (if t108 < t109 then (capstanlaw01_FixOrder.j0 k a0 a1 a2 true) else ((fix_Neg.f a0).bind fun t110 => ((fix_Neg.f a1).bind fun t111 => (if t110 < t111 then (capstanlaw01_FixOrder.j0 k a0 a1 a2 true) else ((fix_Floor.f a0).bind fun t112 => ((fix_Floor.f a1).bind fun t113 => (if t112 > t113 then (capstanlaw01_FixOrder.j0 k a0 a1 a2 true) else ((fix_Ceil.f a0).bind fun t114 => ((fix_Ceil.f a1).bind fun t115 => (if t114 > t115 then (capstanlaw01_FixOrder.j0 k a0 a1 a2 true) else ((fix_Count.f a0).bind fun t116 => ((fix_Count.f a1).bind fun t117 => (capstanlaw01_FixOrder.j0 k a0 a1 a2 (decide (t116 > t117)))))))))))))))))))) else (capstanlaw01_FixOrder.j0 k a0 a1 a2 false)) else (some false))) = some r := h
  clear h
  replace H := Option.bind_eq_some_iff.mp H
  obtain ⟨t105, A40, H⟩ := H
  replace H : (if t105 = true then (if a0 ≤ a1 then ((fix_Add.f a0 a2).bind fun t106 => ((fix_Add.f a1 a2).bind fun t107 => (if t106 > t107 then (capstanlaw01_FixOrder.j0 k a0 a1 a2 true) else ((fix_Sub.f a2 a0).bind fun t108 => ((fix_Sub.f a2 a1).bind fun t109 => (if t108 < t109 then (capstanlaw01_FixOrder.j0 k a0 a1 a2 true) else ((fix_Neg.f a0).bind fun t110 => ((fix_Neg.f a1).bind fun t111 => (if t110 < t111 then (capstanlaw01_FixOrder.j0 k a0 a1 a2 true) else ((fix_Floor.f a0).bind fun t112 => ((fix_Floor.f a1).bind fun t113 => (if t112 > t113 then (capstanlaw01_FixOrder.j0 k a0 a1 a2 true) else ((fix_Ceil.f a0).bind fun t114 => ((fix_Ceil.f a1).bind fun t115 => (if t114 > t115 then (capstanlaw01_FixOrder.j0 k a0 a1 a2 true) else ((fix_Count.f a0).bind fun t116 => ((fix_Count.f a1).bind fun t117 => (capstanlaw01_FixOrder.j0 k a0 a1 a2 (decide (t116 > t117)))))))))))))))))))) else (capstanlaw01_FixOrder.j0 k a0 a1 a2 false)) else (some false)) = some r := H
  have A4 := Aside0.mk A40
  clear A40
  by_cases c5 : t105 = true
  · subst c5
    have H1 : (if a0 ≤ a1 then ((fix_Add.f a0 a2).bind fun t106 => ((fix_Add.f a1 a2).bind fun t107 => (if t106 > t107 then (capstanlaw01_FixOrder.j0 k a0 a1 a2 true) else ((fix_Sub.f a2 a0).bind fun t108 => ((fix_Sub.f a2 a1).bind fun t109 => (if t108 < t109 then (capstanlaw01_FixOrder.j0 k a0 a1 a2 true) else ((fix_Neg.f a0).bind fun t110 => ((fix_Neg.f a1).bind fun t111 => (if t110 < t111 then (capstanlaw01_FixOrder.j0 k a0 a1 a2 true) else ((fix_Floor.f a0).bind fun t112 => ((fix_Floor.f a1).bind fun t113 => (if t112 > t113 then (capstanlaw01_FixOrder.j0 k a0 a1 a2 true) else ((fix_Ceil.f a0).bind fun t114 => ((fix_Ceil.f a1).bind fun t115 => (if t114 > t115 then (capstanlaw01_FixOrder.j0 k a0 a1 a2 true) else ((fix_Count.f a0).bind fun t116 => ((fix_Count.f a1).bind fun t117 => (capstanlaw01_FixOrder.j0 k a0 a1 a2 (decide (t116 > t117)))))))))))))))))))) else (capstanlaw01_FixOrder.j0 k a0 a1 a2 false)) = some r := by rw [if_pos rfl] at H; exact H
    clear H
    have H := H1
    clear H1
    have HC6 := Aside0.mk H
    clear H
    go_enter Try.func5, Try.ntmps5
    go_upto_region 3 with (first | ((with_reducible refine gate_callee (f := 10) rfl ?_); refine goesL_ (some 9) rfl rfl Try.func10 (by kernel_rfl) rfl #[] rfl (by (try simp only [List.map_toArray, List.map_cons, List.map_nil]); first | done | rfl | (simp only [List.length_drop, List.length_take]; rfl)) ?_; (with_reducible refine (capstanlaw01_awake.calls  true _ A4.out).mono ?_); rintro e w7 ⟨rfl, hb⟩; refine ⟨_, rfl, ?_⟩; have n0_ := Aside0.mk (below_step (by repeat (first | (with_reducible first | exact HB.out | apply below_alloc | apply pw_below_drewN | apply below_drew1) | exact HB.out)) hb); clear HB; have HB := n0_; clear n0_; (try clear hb); (try clear hb2); (try clear hk); (try clear hi)))
    (try simp only [Act.put, List.setIfInBounds_toArray, List.set_cons_zero, List.set_cons_succ])
    go_cut [59] (fun v59 wc => ∃ (kq : Nat) (x59_5 : Bool), v59 = .bool x59_5 ∧ Aside0 (capstanlaw01_FixOrder.j0 kq a0 a1 a2 x59_5 = some r) ∧ Aside0 (kq ≤ k) ∧ Aside0 (Below w.heap.size w wc))
    case first =>
      have H := HC6.out
      clear HC6
      by_cases c8 : a0 ≤ a1
      · rw [if_pos c8] at H
        have c8b0 : decide (a0 ≤ a1) = true := decide_eq_true c8
        clear c8
        (first | rw [c8b0] | (simp only [i64_w, i32_w]; rw [c8b0]) | skip)
        replace H := Option.bind_eq_some_iff.mp H
        obtain ⟨t106, A90, H⟩ := H
        replace H : ((fix_Add.f a1 a2).bind fun t107 => (if t106 > t107 then (capstanlaw01_FixOrder.j0 k a0 a1 a2 true) else ((fix_Sub.f a2 a0).bind fun t108 => ((fix_Sub.f a2 a1).bind fun t109 => (if t108 < t109 then (capstanlaw01_FixOrder.j0 k a0 a1 a2 true) else ((fix_Neg.f a0).bind fun t110 => ((fix_Neg.f a1).bind fun t111 => (if t110 < t111 then (capstanlaw01_FixOrder.j0 k a0 a1 a2 true) else ((fix_Floor.f a0).bind fun t112 => ((fix_Floor.f a1).bind fun t113 => (if t112 > t113 then (capstanlaw01_FixOrder.j0 k a0 a1 a2 true) else ((fix_Ceil.f a0).bind fun t114 => ((fix_Ceil.f a1).bind fun t115 => (if t114 > t115 then (capstanlaw01_FixOrder.j0 k a0 a1 a2 true) else ((fix_Count.f a0).bind fun t116 => ((fix_Count.f a1).bind fun t117 => (capstanlaw01_FixOrder.j0 k a0 a1 a2 (decide (t116 > t117))))))))))))))))))) = some r := H
        have A9 := Aside0.mk A90
        clear A90
        replace H := Option.bind_eq_some_iff.mp H
        obtain ⟨t107, A100, H⟩ := H
        replace H : (if t106 > t107 then (capstanlaw01_FixOrder.j0 k a0 a1 a2 true) else ((fix_Sub.f a2 a0).bind fun t108 => ((fix_Sub.f a2 a1).bind fun t109 => (if t108 < t109 then (capstanlaw01_FixOrder.j0 k a0 a1 a2 true) else ((fix_Neg.f a0).bind fun t110 => ((fix_Neg.f a1).bind fun t111 => (if t110 < t111 then (capstanlaw01_FixOrder.j0 k a0 a1 a2 true) else ((fix_Floor.f a0).bind fun t112 => ((fix_Floor.f a1).bind fun t113 => (if t112 > t113 then (capstanlaw01_FixOrder.j0 k a0 a1 a2 true) else ((fix_Ceil.f a0).bind fun t114 => ((fix_Ceil.f a1).bind fun t115 => (if t114 > t115 then (capstanlaw01_FixOrder.j0 k a0 a1 a2 true) else ((fix_Count.f a0).bind fun t116 => ((fix_Count.f a1).bind fun t117 => (capstanlaw01_FixOrder.j0 k a0 a1 a2 (decide (t116 > t117)))))))))))))))))) = some r := H
        have A10 := Aside0.mk A100
        clear A100
        by_cases c11 : t106 > t107
        · rw [if_pos c11] at H
          have c11b0 : decide (t107 < t106) = true := decide_eq_true c11
          clear c11
          have H' := Aside0.mk H
          clear H
          go_wp2_with (first | (go_at_call 19; (with_reducible refine (fix_Add.calls a0 a2 t106 _ A9.out).mono ?_); rintro e w12 ⟨rfl, hb⟩; have n0_ := Aside0.mk (below_step (by repeat (first | (with_reducible first | exact HB.out | apply below_alloc | apply pw_below_drewN | apply below_drew1) | exact HB.out)) hb); clear HB; have HB := n0_; clear n0_; (try clear hb); (try clear hb2); (try clear hk); (try clear hi)) | (go_at_call 19; (with_reducible refine (fix_Add.calls a1 a2 t107 _ A10.out).mono ?_); rintro e w13 ⟨rfl, hb⟩; have n0_ := Aside0.mk (below_step (by repeat (first | (with_reducible first | exact HB.out | apply below_alloc | apply pw_below_drewN | apply below_drew1) | exact HB.out)) hb); clear HB; have HB := n0_; clear n0_; (try clear hb); (try clear hb2); (try clear hk); (try clear hi)))
          go_meet
          case rel => exact ⟨_, (true), (by first | rfl | (simp; done) | (simp [*]; done)), H', ⟨by first | omega | exact Nat.le_refl _⟩, ⟨by repeat (first | (with_reducible first | exact HB.out | apply below_alloc | apply pw_below_drewN | apply below_drew1) | exact HB.out)⟩⟩
        · rw [if_neg c11] at H
          have c11b0 : decide (t107 < t106) = false := decide_eq_false c11
          clear c11
          replace H := Option.bind_eq_some_iff.mp H
          obtain ⟨t108, A140, H⟩ := H
          replace H : ((fix_Sub.f a2 a1).bind fun t109 => (if t108 < t109 then (capstanlaw01_FixOrder.j0 k a0 a1 a2 true) else ((fix_Neg.f a0).bind fun t110 => ((fix_Neg.f a1).bind fun t111 => (if t110 < t111 then (capstanlaw01_FixOrder.j0 k a0 a1 a2 true) else ((fix_Floor.f a0).bind fun t112 => ((fix_Floor.f a1).bind fun t113 => (if t112 > t113 then (capstanlaw01_FixOrder.j0 k a0 a1 a2 true) else ((fix_Ceil.f a0).bind fun t114 => ((fix_Ceil.f a1).bind fun t115 => (if t114 > t115 then (capstanlaw01_FixOrder.j0 k a0 a1 a2 true) else ((fix_Count.f a0).bind fun t116 => ((fix_Count.f a1).bind fun t117 => (capstanlaw01_FixOrder.j0 k a0 a1 a2 (decide (t116 > t117)))))))))))))))) = some r := H
          have A14 := Aside0.mk A140
          clear A140
          replace H := Option.bind_eq_some_iff.mp H
          obtain ⟨t109, A150, H⟩ := H
          replace H : (if t108 < t109 then (capstanlaw01_FixOrder.j0 k a0 a1 a2 true) else ((fix_Neg.f a0).bind fun t110 => ((fix_Neg.f a1).bind fun t111 => (if t110 < t111 then (capstanlaw01_FixOrder.j0 k a0 a1 a2 true) else ((fix_Floor.f a0).bind fun t112 => ((fix_Floor.f a1).bind fun t113 => (if t112 > t113 then (capstanlaw01_FixOrder.j0 k a0 a1 a2 true) else ((fix_Ceil.f a0).bind fun t114 => ((fix_Ceil.f a1).bind fun t115 => (if t114 > t115 then (capstanlaw01_FixOrder.j0 k a0 a1 a2 true) else ((fix_Count.f a0).bind fun t116 => ((fix_Count.f a1).bind fun t117 => (capstanlaw01_FixOrder.j0 k a0 a1 a2 (decide (t116 > t117))))))))))))))) = some r := H
          have A15 := Aside0.mk A150
          clear A150
          by_cases c16 : t108 < t109
          · rw [if_pos c16] at H
            have c16b0 : decide (t108 < t109) = true := decide_eq_true c16
            clear c16
            have H' := Aside0.mk H
            clear H
            go_wp2_with (first | (go_at_call 19; (with_reducible refine (fix_Add.calls a0 a2 t106 _ A9.out).mono ?_); rintro e w17 ⟨rfl, hb⟩; have n0_ := Aside0.mk (below_step (by repeat (first | (with_reducible first | exact HB.out | apply below_alloc | apply pw_below_drewN | apply below_drew1) | exact HB.out)) hb); clear HB; have HB := n0_; clear n0_; (try clear hb); (try clear hb2); (try clear hk); (try clear hi)) | (go_at_call 19; (with_reducible refine (fix_Add.calls a1 a2 t107 _ A10.out).mono ?_); rintro e w18 ⟨rfl, hb⟩; have n0_ := Aside0.mk (below_step (by repeat (first | (with_reducible first | exact HB.out | apply below_alloc | apply pw_below_drewN | apply below_drew1) | exact HB.out)) hb); clear HB; have HB := n0_; clear n0_; (try clear hb); (try clear hb2); (try clear hk); (try clear hi)) | (go_at_call 21; (with_reducible refine (fix_Sub.calls a2 a0 t108 _ A14.out).mono ?_); rintro e w19 ⟨rfl, hb⟩; have n0_ := Aside0.mk (below_step (by repeat (first | (with_reducible first | exact HB.out | apply below_alloc | apply pw_below_drewN | apply below_drew1) | exact HB.out)) hb); clear HB; have HB := n0_; clear n0_; (try clear hb); (try clear hb2); (try clear hk); (try clear hi)) | (go_at_call 21; (with_reducible refine (fix_Sub.calls a2 a1 t109 _ A15.out).mono ?_); rintro e w20 ⟨rfl, hb⟩; have n0_ := Aside0.mk (below_step (by repeat (first | (with_reducible first | exact HB.out | apply below_alloc | apply pw_below_drewN | apply below_drew1) | exact HB.out)) hb); clear HB; have HB := n0_; clear n0_; (try clear hb); (try clear hb2); (try clear hk); (try clear hi)))
            go_meet
            case rel => exact ⟨_, (true), (by first | rfl | (simp; done) | (simp [*]; done)), H', ⟨by first | omega | exact Nat.le_refl _⟩, ⟨by repeat (first | (with_reducible first | exact HB.out | apply below_alloc | apply pw_below_drewN | apply below_drew1) | exact HB.out)⟩⟩
          · rw [if_neg c16] at H
            have c16b0 : decide (t108 < t109) = false := decide_eq_false c16
            clear c16
            replace H := Option.bind_eq_some_iff.mp H
            obtain ⟨t110, A210, H⟩ := H
            replace H : ((fix_Neg.f a1).bind fun t111 => (if t110 < t111 then (capstanlaw01_FixOrder.j0 k a0 a1 a2 true) else ((fix_Floor.f a0).bind fun t112 => ((fix_Floor.f a1).bind fun t113 => (if t112 > t113 then (capstanlaw01_FixOrder.j0 k a0 a1 a2 true) else ((fix_Ceil.f a0).bind fun t114 => ((fix_Ceil.f a1).bind fun t115 => (if t114 > t115 then (capstanlaw01_FixOrder.j0 k a0 a1 a2 true) else ((fix_Count.f a0).bind fun t116 => ((fix_Count.f a1).bind fun t117 => (capstanlaw01_FixOrder.j0 k a0 a1 a2 (decide (t116 > t117))))))))))))) = some r := H
            have A21 := Aside0.mk A210
            clear A210
            replace H := Option.bind_eq_some_iff.mp H
            obtain ⟨t111, A220, H⟩ := H
            replace H : (if t110 < t111 then (capstanlaw01_FixOrder.j0 k a0 a1 a2 true) else ((fix_Floor.f a0).bind fun t112 => ((fix_Floor.f a1).bind fun t113 => (if t112 > t113 then (capstanlaw01_FixOrder.j0 k a0 a1 a2 true) else ((fix_Ceil.f a0).bind fun t114 => ((fix_Ceil.f a1).bind fun t115 => (if t114 > t115 then (capstanlaw01_FixOrder.j0 k a0 a1 a2 true) else ((fix_Count.f a0).bind fun t116 => ((fix_Count.f a1).bind fun t117 => (capstanlaw01_FixOrder.j0 k a0 a1 a2 (decide (t116 > t117)))))))))))) = some r := H
            have A22 := Aside0.mk A220
            clear A220
            by_cases c23 : t110 < t111
            · rw [if_pos c23] at H
              have c23b0 : decide (t110 < t111) = true := decide_eq_true c23
              clear c23
              have H' := Aside0.mk H
              clear H
              go_wp2_with (first | (go_at_call 19; (with_reducible refine (fix_Add.calls a0 a2 t106 _ A9.out).mono ?_); rintro e w24 ⟨rfl, hb⟩; have n0_ := Aside0.mk (below_step (by repeat (first | (with_reducible first | exact HB.out | apply below_alloc | apply pw_below_drewN | apply below_drew1) | exact HB.out)) hb); clear HB; have HB := n0_; clear n0_; (try clear hb); (try clear hb2); (try clear hk); (try clear hi)) | (go_at_call 19; (with_reducible refine (fix_Add.calls a1 a2 t107 _ A10.out).mono ?_); rintro e w25 ⟨rfl, hb⟩; have n0_ := Aside0.mk (below_step (by repeat (first | (with_reducible first | exact HB.out | apply below_alloc | apply pw_below_drewN | apply below_drew1) | exact HB.out)) hb); clear HB; have HB := n0_; clear n0_; (try clear hb); (try clear hb2); (try clear hk); (try clear hi)) | (go_at_call 21; (with_reducible refine (fix_Sub.calls a2 a0 t108 _ A14.out).mono ?_); rintro e w26 ⟨rfl, hb⟩; have n0_ := Aside0.mk (below_step (by repeat (first | (with_reducible first | exact HB.out | apply below_alloc | apply pw_below_drewN | apply below_drew1) | exact HB.out)) hb); clear HB; have HB := n0_; clear n0_; (try clear hb); (try clear hb2); (try clear hk); (try clear hi)) | (go_at_call 21; (with_reducible refine (fix_Sub.calls a2 a1 t109 _ A15.out).mono ?_); rintro e w27 ⟨rfl, hb⟩; have n0_ := Aside0.mk (below_step (by repeat (first | (with_reducible first | exact HB.out | apply below_alloc | apply pw_below_drewN | apply below_drew1) | exact HB.out)) hb); clear HB; have HB := n0_; clear n0_; (try clear hb); (try clear hb2); (try clear hk); (try clear hi)) | (go_at_call 23; (with_reducible refine (fix_Neg.calls a0 t110 _ A21.out).mono ?_); rintro e w28 ⟨rfl, hb⟩; have n0_ := Aside0.mk (below_step (by repeat (first | (with_reducible first | exact HB.out | apply below_alloc | apply pw_below_drewN | apply below_drew1) | exact HB.out)) hb); clear HB; have HB := n0_; clear n0_; (try clear hb); (try clear hb2); (try clear hk); (try clear hi)) | (go_at_call 23; (with_reducible refine (fix_Neg.calls a1 t111 _ A22.out).mono ?_); rintro e w29 ⟨rfl, hb⟩; have n0_ := Aside0.mk (below_step (by repeat (first | (with_reducible first | exact HB.out | apply below_alloc | apply pw_below_drewN | apply below_drew1) | exact HB.out)) hb); clear HB; have HB := n0_; clear n0_; (try clear hb); (try clear hb2); (try clear hk); (try clear hi)))
              go_meet
              case rel => exact ⟨_, (true), (by first | rfl | (simp; done) | (simp [*]; done)), H', ⟨by first | omega | exact Nat.le_refl _⟩, ⟨by repeat (first | (with_reducible first | exact HB.out | apply below_alloc | apply pw_below_drewN | apply below_drew1) | exact HB.out)⟩⟩
            · rw [if_neg c23] at H
              have c23b0 : decide (t110 < t111) = false := decide_eq_false c23
              clear c23
              replace H := Option.bind_eq_some_iff.mp H
              obtain ⟨t112, A300, H⟩ := H
              replace H : ((fix_Floor.f a1).bind fun t113 => (if t112 > t113 then (capstanlaw01_FixOrder.j0 k a0 a1 a2 true) else ((fix_Ceil.f a0).bind fun t114 => ((fix_Ceil.f a1).bind fun t115 => (if t114 > t115 then (capstanlaw01_FixOrder.j0 k a0 a1 a2 true) else ((fix_Count.f a0).bind fun t116 => ((fix_Count.f a1).bind fun t117 => (capstanlaw01_FixOrder.j0 k a0 a1 a2 (decide (t116 > t117)))))))))) = some r := H
              have A30 := Aside0.mk A300
              clear A300
              replace H := Option.bind_eq_some_iff.mp H
              obtain ⟨t113, A310, H⟩ := H
              replace H : (if t112 > t113 then (capstanlaw01_FixOrder.j0 k a0 a1 a2 true) else ((fix_Ceil.f a0).bind fun t114 => ((fix_Ceil.f a1).bind fun t115 => (if t114 > t115 then (capstanlaw01_FixOrder.j0 k a0 a1 a2 true) else ((fix_Count.f a0).bind fun t116 => ((fix_Count.f a1).bind fun t117 => (capstanlaw01_FixOrder.j0 k a0 a1 a2 (decide (t116 > t117))))))))) = some r := H
              have A31 := Aside0.mk A310
              clear A310
              by_cases c32 : t112 > t113
              · rw [if_pos c32] at H
                have c32b0 : decide (t113 < t112) = true := decide_eq_true c32
                clear c32
                have H' := Aside0.mk H
                clear H
                go_wp2_with (first | (go_at_call 19; (with_reducible refine (fix_Add.calls a0 a2 t106 _ A9.out).mono ?_); rintro e w33 ⟨rfl, hb⟩; have n0_ := Aside0.mk (below_step (by repeat (first | (with_reducible first | exact HB.out | apply below_alloc | apply pw_below_drewN | apply below_drew1) | exact HB.out)) hb); clear HB; have HB := n0_; clear n0_; (try clear hb); (try clear hb2); (try clear hk); (try clear hi)) | (go_at_call 19; (with_reducible refine (fix_Add.calls a1 a2 t107 _ A10.out).mono ?_); rintro e w34 ⟨rfl, hb⟩; have n0_ := Aside0.mk (below_step (by repeat (first | (with_reducible first | exact HB.out | apply below_alloc | apply pw_below_drewN | apply below_drew1) | exact HB.out)) hb); clear HB; have HB := n0_; clear n0_; (try clear hb); (try clear hb2); (try clear hk); (try clear hi)) | (go_at_call 21; (with_reducible refine (fix_Sub.calls a2 a0 t108 _ A14.out).mono ?_); rintro e w35 ⟨rfl, hb⟩; have n0_ := Aside0.mk (below_step (by repeat (first | (with_reducible first | exact HB.out | apply below_alloc | apply pw_below_drewN | apply below_drew1) | exact HB.out)) hb); clear HB; have HB := n0_; clear n0_; (try clear hb); (try clear hb2); (try clear hk); (try clear hi)) | (go_at_call 21; (with_reducible refine (fix_Sub.calls a2 a1 t109 _ A15.out).mono ?_); rintro e w36 ⟨rfl, hb⟩; have n0_ := Aside0.mk (below_step (by repeat (first | (with_reducible first | exact HB.out | apply below_alloc | apply pw_below_drewN | apply below_drew1) | exact HB.out)) hb); clear HB; have HB := n0_; clear n0_; (try clear hb); (try clear hb2); (try clear hk); (try clear hi)) | (go_at_call 23; (with_reducible refine (fix_Neg.calls a0 t110 _ A21.out).mono ?_); rintro e w37 ⟨rfl, hb⟩; have n0_ := Aside0.mk (below_step (by repeat (first | (with_reducible first | exact HB.out | apply below_alloc | apply pw_below_drewN | apply below_drew1) | exact HB.out)) hb); clear HB; have HB := n0_; clear n0_; (try clear hb); (try clear hb2); (try clear hk); (try clear hi)) | (go_at_call 23; (with_reducible refine (fix_Neg.calls a1 t111 _ A22.out).mono ?_); rintro e w38 ⟨rfl, hb⟩; have n0_ := Aside0.mk (below_step (by repeat (first | (with_reducible first | exact HB.out | apply below_alloc | apply pw_below_drewN | apply below_drew1) | exact HB.out)) hb); clear HB; have HB := n0_; clear n0_; (try clear hb); (try clear hb2); (try clear hk); (try clear hi)) | (go_at_call 11; (with_reducible refine (fix_Floor.calls a0 t112 _ A30.out).mono ?_); rintro e w39 ⟨rfl, hb⟩; have n0_ := Aside0.mk (below_step (by repeat (first | (with_reducible first | exact HB.out | apply below_alloc | apply pw_below_drewN | apply below_drew1) | exact HB.out)) hb); clear HB; have HB := n0_; clear n0_; (try clear hb); (try clear hb2); (try clear hk); (try clear hi)) | (go_at_call 11; (with_reducible refine (fix_Floor.calls a1 t113 _ A31.out).mono ?_); rintro e w40 ⟨rfl, hb⟩; have n0_ := Aside0.mk (below_step (by repeat (first | (with_reducible first | exact HB.out | apply below_alloc | apply pw_below_drewN | apply below_drew1) | exact HB.out)) hb); clear HB; have HB := n0_; clear n0_; (try clear hb); (try clear hb2); (try clear hk); (try clear hi)))
                go_meet
                case rel => exact ⟨_, (true), (by first | rfl | (simp; done) | (simp [*]; done)), H', ⟨by first | omega | exact Nat.le_refl _⟩, ⟨by repeat (first | (with_reducible first | exact HB.out | apply below_alloc | apply pw_below_drewN | apply below_drew1) | exact HB.out)⟩⟩
              · rw [if_neg c32] at H
                have c32b0 : decide (t113 < t112) = false := decide_eq_false c32
                clear c32
                replace H := Option.bind_eq_some_iff.mp H
                obtain ⟨t114, A410, H⟩ := H
                replace H : ((fix_Ceil.f a1).bind fun t115 => (if t114 > t115 then (capstanlaw01_FixOrder.j0 k a0 a1 a2 true) else ((fix_Count.f a0).bind fun t116 => ((fix_Count.f a1).bind fun t117 => (capstanlaw01_FixOrder.j0 k a0 a1 a2 (decide (t116 > t117))))))) = some r := H
                have A41 := Aside0.mk A410
                clear A410
                replace H := Option.bind_eq_some_iff.mp H
                obtain ⟨t115, A420, H⟩ := H
                replace H : (if t114 > t115 then (capstanlaw01_FixOrder.j0 k a0 a1 a2 true) else ((fix_Count.f a0).bind fun t116 => ((fix_Count.f a1).bind fun t117 => (capstanlaw01_FixOrder.j0 k a0 a1 a2 (decide (t116 > t117)))))) = some r := H
                have A42 := Aside0.mk A420
                clear A420
                by_cases c43 : t114 > t115
                · rw [if_pos c43] at H
                  have c43b0 : decide (t115 < t114) = true := decide_eq_true c43
                  clear c43
                  have H' := Aside0.mk H
                  clear H
                  go_wp2_with (first | (go_at_call 19; (with_reducible refine (fix_Add.calls a0 a2 t106 _ A9.out).mono ?_); rintro e w44 ⟨rfl, hb⟩; have n0_ := Aside0.mk (below_step (by repeat (first | (with_reducible first | exact HB.out | apply below_alloc | apply pw_below_drewN | apply below_drew1) | exact HB.out)) hb); clear HB; have HB := n0_; clear n0_; (try clear hb); (try clear hb2); (try clear hk); (try clear hi)) | (go_at_call 19; (with_reducible refine (fix_Add.calls a1 a2 t107 _ A10.out).mono ?_); rintro e w45 ⟨rfl, hb⟩; have n0_ := Aside0.mk (below_step (by repeat (first | (with_reducible first | exact HB.out | apply below_alloc | apply pw_below_drewN | apply below_drew1) | exact HB.out)) hb); clear HB; have HB := n0_; clear n0_; (try clear hb); (try clear hb2); (try clear hk); (try clear hi)) | (go_at_call 21; (with_reducible refine (fix_Sub.calls a2 a0 t108 _ A14.out).mono ?_); rintro e w46 ⟨rfl, hb⟩; have n0_ := Aside0.mk (below_step (by repeat (first | (with_reducible first | exact HB.out | apply below_alloc | apply pw_below_drewN | apply below_drew1) | exact HB.out)) hb); clear HB; have HB := n0_; clear n0_; (try clear hb); (try clear hb2); (try clear hk); (try clear hi)) | (go_at_call 21; (with_reducible refine (fix_Sub.calls a2 a1 t109 _ A15.out).mono ?_); rintro e w47 ⟨rfl, hb⟩; have n0_ := Aside0.mk (below_step (by repeat (first | (with_reducible first | exact HB.out | apply below_alloc | apply pw_below_drewN | apply below_drew1) | exact HB.out)) hb); clear HB; have HB := n0_; clear n0_; (try clear hb); (try clear hb2); (try clear hk); (try clear hi)) | (go_at_call 23; (with_reducible refine (fix_Neg.calls a0 t110 _ A21.out).mono ?_); rintro e w48 ⟨rfl, hb⟩; have n0_ := Aside0.mk (below_step (by repeat (first | (with_reducible first | exact HB.out | apply below_alloc | apply pw_below_drewN | apply below_drew1) | exact HB.out)) hb); clear HB; have HB := n0_; clear n0_; (try clear hb); (try clear hb2); (try clear hk); (try clear hi)) | (go_at_call 23; (with_reducible refine (fix_Neg.calls a1 t111 _ A22.out).mono ?_); rintro e w49 ⟨rfl, hb⟩; have n0_ := Aside0.mk (below_step (by repeat (first | (with_reducible first | exact HB.out | apply below_alloc | apply pw_below_drewN | apply below_drew1) | exact HB.out)) hb); clear HB; have HB := n0_; clear n0_; (try clear hb); (try clear hb2); (try clear hk); (try clear hi)) | (go_at_call 11; (with_reducible refine (fix_Floor.calls a0 t112 _ A30.out).mono ?_); rintro e w50 ⟨rfl, hb⟩; have n0_ := Aside0.mk (below_step (by repeat (first | (with_reducible first | exact HB.out | apply below_alloc | apply pw_below_drewN | apply below_drew1) | exact HB.out)) hb); clear HB; have HB := n0_; clear n0_; (try clear hb); (try clear hb2); (try clear hk); (try clear hi)) | (go_at_call 11; (with_reducible refine (fix_Floor.calls a1 t113 _ A31.out).mono ?_); rintro e w51 ⟨rfl, hb⟩; have n0_ := Aside0.mk (below_step (by repeat (first | (with_reducible first | exact HB.out | apply below_alloc | apply pw_below_drewN | apply below_drew1) | exact HB.out)) hb); clear HB; have HB := n0_; clear n0_; (try clear hb); (try clear hb2); (try clear hk); (try clear hi)) | (go_at_call 13; (with_reducible refine (fix_Ceil.calls a0 t114 _ A41.out).mono ?_); rintro e w52 ⟨rfl, hb⟩; have n0_ := Aside0.mk (below_step (by repeat (first | (with_reducible first | exact HB.out | apply below_alloc | apply pw_below_drewN | apply below_drew1) | exact HB.out)) hb); clear HB; have HB := n0_; clear n0_; (try clear hb); (try clear hb2); (try clear hk); (try clear hi)) | (go_at_call 13; (with_reducible refine (fix_Ceil.calls a1 t115 _ A42.out).mono ?_); rintro e w53 ⟨rfl, hb⟩; have n0_ := Aside0.mk (below_step (by repeat (first | (with_reducible first | exact HB.out | apply below_alloc | apply pw_below_drewN | apply below_drew1) | exact HB.out)) hb); clear HB; have HB := n0_; clear n0_; (try clear hb); (try clear hb2); (try clear hk); (try clear hi)))
                  go_meet
                  case rel => exact ⟨_, (true), (by first | rfl | (simp; done) | (simp [*]; done)), H', ⟨by first | omega | exact Nat.le_refl _⟩, ⟨by repeat (first | (with_reducible first | exact HB.out | apply below_alloc | apply pw_below_drewN | apply below_drew1) | exact HB.out)⟩⟩
                · rw [if_neg c43] at H
                  have c43b0 : decide (t115 < t114) = false := decide_eq_false c43
                  clear c43
                  replace H := Option.bind_eq_some_iff.mp H
                  obtain ⟨t116, A540, H⟩ := H
                  replace H : ((fix_Count.f a1).bind fun t117 => (capstanlaw01_FixOrder.j0 k a0 a1 a2 (decide (t116 > t117)))) = some r := H
                  have A54 := Aside0.mk A540
                  clear A540
                  replace H := Option.bind_eq_some_iff.mp H
                  obtain ⟨t117, A550, H⟩ := H
                  replace H : (capstanlaw01_FixOrder.j0 k a0 a1 a2 (decide (t116 > t117))) = some r := H
                  have A55 := Aside0.mk A550
                  clear A550
                  have H' := Aside0.mk H
                  clear H
                  go_wp2_with (first | (go_at_call 19; (with_reducible refine (fix_Add.calls a0 a2 t106 _ A9.out).mono ?_); rintro e w56 ⟨rfl, hb⟩; have n0_ := Aside0.mk (below_step (by repeat (first | (with_reducible first | exact HB.out | apply below_alloc | apply pw_below_drewN | apply below_drew1) | exact HB.out)) hb); clear HB; have HB := n0_; clear n0_; (try clear hb); (try clear hb2); (try clear hk); (try clear hi)) | (go_at_call 19; (with_reducible refine (fix_Add.calls a1 a2 t107 _ A10.out).mono ?_); rintro e w57 ⟨rfl, hb⟩; have n0_ := Aside0.mk (below_step (by repeat (first | (with_reducible first | exact HB.out | apply below_alloc | apply pw_below_drewN | apply below_drew1) | exact HB.out)) hb); clear HB; have HB := n0_; clear n0_; (try clear hb); (try clear hb2); (try clear hk); (try clear hi)) | (go_at_call 21; (with_reducible refine (fix_Sub.calls a2 a0 t108 _ A14.out).mono ?_); rintro e w58 ⟨rfl, hb⟩; have n0_ := Aside0.mk (below_step (by repeat (first | (with_reducible first | exact HB.out | apply below_alloc | apply pw_below_drewN | apply below_drew1) | exact HB.out)) hb); clear HB; have HB := n0_; clear n0_; (try clear hb); (try clear hb2); (try clear hk); (try clear hi)) | (go_at_call 21; (with_reducible refine (fix_Sub.calls a2 a1 t109 _ A15.out).mono ?_); rintro e w59 ⟨rfl, hb⟩; have n0_ := Aside0.mk (below_step (by repeat (first | (with_reducible first | exact HB.out | apply below_alloc | apply pw_below_drewN | apply below_drew1) | exact HB.out)) hb); clear HB; have HB := n0_; clear n0_; (try clear hb); (try clear hb2); (try clear hk); (try clear hi)) | (go_at_call 23; (with_reducible refine (fix_Neg.calls a0 t110 _ A21.out).mono ?_); rintro e w60 ⟨rfl, hb⟩; have n0_ := Aside0.mk (below_step (by repeat (first | (with_reducible first | exact HB.out | apply below_alloc | apply pw_below_drewN | apply below_drew1) | exact HB.out)) hb); clear HB; have HB := n0_; clear n0_; (try clear hb); (try clear hb2); (try clear hk); (try clear hi)) | (go_at_call 23; (with_reducible refine (fix_Neg.calls a1 t111 _ A22.out).mono ?_); rintro e w61 ⟨rfl, hb⟩; have n0_ := Aside0.mk (below_step (by repeat (first | (with_reducible first | exact HB.out | apply below_alloc | apply pw_below_drewN | apply below_drew1) | exact HB.out)) hb); clear HB; have HB := n0_; clear n0_; (try clear hb); (try clear hb2); (try clear hk); (try clear hi)) | (go_at_call 11; (with_reducible refine (fix_Floor.calls a0 t112 _ A30.out).mono ?_); rintro e w62 ⟨rfl, hb⟩; have n0_ := Aside0.mk (below_step (by repeat (first | (with_reducible first | exact HB.out | apply below_alloc | apply pw_below_drewN | apply below_drew1) | exact HB.out)) hb); clear HB; have HB := n0_; clear n0_; (try clear hb); (try clear hb2); (try clear hk); (try clear hi)) | (go_at_call 11; (with_reducible refine (fix_Floor.calls a1 t113 _ A31.out).mono ?_); rintro e w63 ⟨rfl, hb⟩; have n0_ := Aside0.mk (below_step (by repeat (first | (with_reducible first | exact HB.out | apply below_alloc | apply pw_below_drewN | apply below_drew1) | exact HB.out)) hb); clear HB; have HB := n0_; clear n0_; (try clear hb); (try clear hb2); (try clear hk); (try clear hi)) | (go_at_call 13; (with_reducible refine (fix_Ceil.calls a0 t114 _ A41.out).mono ?_); rintro e w64 ⟨rfl, hb⟩; have n0_ := Aside0.mk (below_step (by repeat (first | (with_reducible first | exact HB.out | apply below_alloc | apply pw_below_drewN | apply below_drew1) | exact HB.out)) hb); clear HB; have HB := n0_; clear n0_; (try clear hb); (try clear hb2); (try clear hk); (try clear hi)) | (go_at_call 13; (with_reducible refine (fix_Ceil.calls a1 t115 _ A42.out).mono ?_); rintro e w65 ⟨rfl, hb⟩; have n0_ := Aside0.mk (below_step (by repeat (first | (with_reducible first | exact HB.out | apply below_alloc | apply pw_below_drewN | apply below_drew1) | exact HB.out)) hb); clear HB; have HB := n0_; clear n0_; (try clear hb); (try clear hb2); (try clear hk); (try clear hi)) | (go_at_call 17; (with_reducible refine (fix_Count.calls a0 t116 _ A54.out).mono ?_); rintro e w66 ⟨rfl, hb⟩; have n0_ := Aside0.mk (below_step (by repeat (first | (with_reducible first | exact HB.out | apply below_alloc | apply pw_below_drewN | apply below_drew1) | exact HB.out)) hb); clear HB; have HB := n0_; clear n0_; (try clear hb); (try clear hb2); (try clear hk); (try clear hi)) | (go_at_call 17; (with_reducible refine (fix_Count.calls a1 t117 _ A55.out).mono ?_); rintro e w67 ⟨rfl, hb⟩; have n0_ := Aside0.mk (below_step (by repeat (first | (with_reducible first | exact HB.out | apply below_alloc | apply pw_below_drewN | apply below_drew1) | exact HB.out)) hb); clear HB; have HB := n0_; clear n0_; (try clear hb); (try clear hb2); (try clear hk); (try clear hi)))
                  go_meet
                  case rel => exact ⟨_, (decide (t116 > t117)), (by first | rfl | (simp; done) | (simp [*]; done)), H', ⟨by first | omega | exact Nat.le_refl _⟩, ⟨by repeat (first | (with_reducible first | exact HB.out | apply below_alloc | apply pw_below_drewN | apply below_drew1) | exact HB.out)⟩⟩
      · rw [if_neg c8] at H
        have c8b0 : decide (a0 ≤ a1) = false := decide_eq_false c8
        clear c8
        (first | rw [c8b0] | (simp only [i64_w, i32_w]; rw [c8b0]) | skip)
        have H' := Aside0.mk H
        clear H
        go_wp2
        go_meet
        case rel => exact ⟨_, (false), (by first | rfl | (simp; done) | (simp [*]; done)), H', ⟨by first | omega | exact Nat.le_refl _⟩, ⟨by repeat (first | (with_reducible first | exact HB.out | apply below_alloc | apply pw_below_drewN | apply below_drew1) | exact HB.out)⟩⟩
    case rest =>
      clear HC6
      try clear c1
      try clear c2
      try clear p2
      try clear c3
      try clear c4
      try clear c5
      try clear c8
      try clear c8b0
      try clear c10
      try clear c11
      try clear c11b0
      try clear c16
      try clear c16b0
      try clear c23
      try clear c23b0
      try clear c32
      try clear c32b0
      try clear c43
      try clear c43b0
      obtain ⟨kq, x59_5, rfl, HA, HJ5, HB⟩ := hcut
      cases kq with
      | zero => exact absurd HA.out (by simp [capstanlaw01_FixOrder.j0])
      | succ kj5 =>
        have H := HA.out
        clear HA
        simp only [capstanlaw01_FixOrder.j0] at H
        by_cases c68 : x59_5 = true
        · subst c68
          have H1 : (some false) = some r := by rw [if_pos rfl] at H; exact H
          clear H
          have H := H1
          clear H1
          obtain rfl := Option.some.inj H
          go_wp2
          go_ret
          exact ⟨by first | rfl | (simp [errW_none, errW_some] <;> rfl) | (simp [*, errW_none, errW_some] <;> rfl), by repeat (first | (with_reducible first | exact HB.out | apply below_alloc | apply pw_below_drewN | apply below_drew1) | exact HB.out)⟩
        · replace c68 := Bool.eq_false_iff.mpr c68
          subst c68
          have H1 : (if a0 ≤ a1 then (if a2 ≥ 0 then ((fix_Mul.f a0 a2).bind fun t118 => ((fix_Mul.f a1 a2).bind fun t119 => (capstanlaw01_FixOrder.j1 kj5 a0 a1 (decide (t118 > t119))))) else (capstanlaw01_FixOrder.j1 kj5 a0 a1 false)) else (capstanlaw01_FixOrder.j1 kj5 a0 a1 false)) = some r := by rw [if_neg (show ¬ (false = true) by decide)] at H; exact H
          clear H
          have H := H1
          clear H1
          have HC69 := Aside0.mk H
          clear H
          go_upto_region 5 with (fail)
          go_cut [75] (fun v75 wc => ∃ (kq : Nat) (x75_68 : Bool), v75 = .bool x75_68 ∧ Aside0 (capstanlaw01_FixOrder.j1 kq a0 a1 x75_68 = some r) ∧ Aside0 (kq ≤ kj5) ∧ Aside0 (Below w.heap.size w wc))
          case first =>
            have H := HC69.out
            clear HC69
            by_cases c70 : a0 ≤ a1
            · rw [if_pos c70] at H
              have c70b0 : decide (a0 ≤ a1) = true := decide_eq_true c70
              clear c70
              (first | rw [c70b0] | (simp only [i64_w, i32_w]; rw [c70b0]) | skip)
              by_cases c71 : a2 ≥ 0
              · rw [if_pos c71] at H
                have c71b0 : decide (0 ≤ a2) = true := decide_eq_true c71
                clear c71
                replace H := Option.bind_eq_some_iff.mp H
                obtain ⟨t118, A720, H⟩ := H
                replace H : ((fix_Mul.f a1 a2).bind fun t119 => (capstanlaw01_FixOrder.j1 kj5 a0 a1 (decide (t118 > t119)))) = some r := H
                have A72 := Aside0.mk A720
                clear A720
                replace H := Option.bind_eq_some_iff.mp H
                obtain ⟨t119, A730, H⟩ := H
                replace H : (capstanlaw01_FixOrder.j1 kj5 a0 a1 (decide (t118 > t119))) = some r := H
                have A73 := Aside0.mk A730
                clear A730
                have H' := Aside0.mk H
                clear H
                go_wp2_with (first | (go_at_call 27; (with_reducible refine (fix_Mul.calls a0 a2 t118 _ A72.out).mono ?_); rintro e w74 ⟨rfl, hb⟩; have n0_ := Aside0.mk (below_step (by repeat (first | (with_reducible first | exact HB.out | apply below_alloc | apply pw_below_drewN | apply below_drew1) | exact HB.out)) hb); clear HB; have HB := n0_; clear n0_; (try clear hb); (try clear hb2); (try clear hk); (try clear hi)) | (go_at_call 27; (with_reducible refine (fix_Mul.calls a1 a2 t119 _ A73.out).mono ?_); rintro e w75 ⟨rfl, hb⟩; have n0_ := Aside0.mk (below_step (by repeat (first | (with_reducible first | exact HB.out | apply below_alloc | apply pw_below_drewN | apply below_drew1) | exact HB.out)) hb); clear HB; have HB := n0_; clear n0_; (try clear hb); (try clear hb2); (try clear hk); (try clear hi)))
                go_meet
                case rel => exact ⟨_, (decide (t118 > t119)), (by first | rfl | (simp; done) | (simp [*]; done)), H', ⟨by have := HJ5.out; first | omega | exact Nat.le_refl _⟩, ⟨by repeat (first | (with_reducible first | exact HB.out | apply below_alloc | apply pw_below_drewN | apply below_drew1) | exact HB.out)⟩⟩
              · rw [if_neg c71] at H
                have c71b0 : decide (0 ≤ a2) = false := decide_eq_false c71
                clear c71
                have H' := Aside0.mk H
                clear H
                go_wp2
                go_meet
                case rel => exact ⟨_, (false), (by first | rfl | (simp; done) | (simp [*]; done)), H', ⟨by have := HJ5.out; first | omega | exact Nat.le_refl _⟩, ⟨by repeat (first | (with_reducible first | exact HB.out | apply below_alloc | apply pw_below_drewN | apply below_drew1) | exact HB.out)⟩⟩
            · rw [if_neg c70] at H
              have c70b0 : decide (a0 ≤ a1) = false := decide_eq_false c70
              clear c70
              (first | rw [c70b0] | (simp only [i64_w, i32_w]; rw [c70b0]) | skip)
              have H' := Aside0.mk H
              clear H
              go_wp2
              go_meet
              case rel => exact ⟨_, (false), (by first | rfl | (simp; done) | (simp [*]; done)), H', ⟨by have := HJ5.out; first | omega | exact Nat.le_refl _⟩, ⟨by repeat (first | (with_reducible first | exact HB.out | apply below_alloc | apply pw_below_drewN | apply below_drew1) | exact HB.out)⟩⟩
          case rest =>
            clear HC69
            try clear c1
            try clear c2
            try clear p2
            try clear c3
            try clear c4
            try clear c5
            try clear c6
            try clear c7
            try clear c8
            try clear c8b0
            try clear c10
            try clear c11
            try clear c11b0
            try clear c16
            try clear c16b0
            try clear c23
            try clear c23b0
            try clear c32
            try clear c32b0
            try clear c43
            try clear c43b0
            try clear c68
            try clear c70
            try clear c70b0
            try clear c71
            try clear c71b0
            try clear p2
            obtain ⟨kq, x75_68, rfl, HA, HJ68, HB⟩ := hcut
            cases kq with
            | zero => exact absurd HA.out (by simp [capstanlaw01_FixOrder.j1])
            | succ kj68 =>
              have H := HA.out
              clear HA
              simp only [capstanlaw01_FixOrder.j1] at H
              by_cases c76 : x75_68 = true
              · subst c76
                have H1 : (some false) = some r := by rw [if_pos rfl] at H; exact H
                clear H
                have H := H1
                clear H1
                obtain rfl := Option.some.inj H
                go_wp2
                go_ret
                exact ⟨by first | rfl | (simp [errW_none, errW_some] <;> rfl) | (simp [*, errW_none, errW_some] <;> rfl), by repeat (first | (with_reducible first | exact HB.out | apply below_alloc | apply pw_below_drewN | apply below_drew1) | exact HB.out)⟩
              · replace c76 := Bool.eq_false_iff.mpr c76
                subst c76
                have H1 : ((fix_Floor.f a0).bind fun t120 => ((fix_Ceil.f a0).bind fun t121 => (if t120 > a0 then (capstanlaw01_FixOrder.j2 kj68 a0 a1 true) else (if t121 < a0 then (capstanlaw01_FixOrder.j2 kj68 a0 a1 true) else (if t120 > (-9223372036854775808) then (if (Int.tmod t120 1000000) = 0 then (if (wrap64 (a0 - t120)) ≥ 1000000 then (capstanlaw01_FixOrder.j2 kj68 a0 a1 true) else (if t121 < 9223372036854775807 then (if (Int.tmod t121 1000000) = 0 then (capstanlaw01_FixOrder.j2 kj68 a0 a1 (decide ((wrap64 (t121 - a0)) ≥ 1000000))) else (capstanlaw01_FixOrder.j2 kj68 a0 a1 true)) else (capstanlaw01_FixOrder.j2 kj68 a0 a1 false))) else (capstanlaw01_FixOrder.j2 kj68 a0 a1 true)) else (if t121 < 9223372036854775807 then (if (Int.tmod t121 1000000) = 0 then (capstanlaw01_FixOrder.j2 kj68 a0 a1 (decide ((wrap64 (t121 - a0)) ≥ 1000000))) else (capstanlaw01_FixOrder.j2 kj68 a0 a1 true)) else (capstanlaw01_FixOrder.j2 kj68 a0 a1 false))))))) = some r := by rw [if_neg (show ¬ (false = true) by decide)] at H; exact H
                clear H
                have H := H1
                clear H1
                replace H := Option.bind_eq_some_iff.mp H
                obtain ⟨t120, A770, H⟩ := H
                replace H : ((fix_Ceil.f a0).bind fun t121 => (if t120 > a0 then (capstanlaw01_FixOrder.j2 kj68 a0 a1 true) else (if t121 < a0 then (capstanlaw01_FixOrder.j2 kj68 a0 a1 true) else (if t120 > (-9223372036854775808) then (if (Int.tmod t120 1000000) = 0 then (if (wrap64 (a0 - t120)) ≥ 1000000 then (capstanlaw01_FixOrder.j2 kj68 a0 a1 true) else (if t121 < 9223372036854775807 then (if (Int.tmod t121 1000000) = 0 then (capstanlaw01_FixOrder.j2 kj68 a0 a1 (decide ((wrap64 (t121 - a0)) ≥ 1000000))) else (capstanlaw01_FixOrder.j2 kj68 a0 a1 true)) else (capstanlaw01_FixOrder.j2 kj68 a0 a1 false))) else (capstanlaw01_FixOrder.j2 kj68 a0 a1 true)) else (if t121 < 9223372036854775807 then (if (Int.tmod t121 1000000) = 0 then (capstanlaw01_FixOrder.j2 kj68 a0 a1 (decide ((wrap64 (t121 - a0)) ≥ 1000000))) else (capstanlaw01_FixOrder.j2 kj68 a0 a1 true)) else (capstanlaw01_FixOrder.j2 kj68 a0 a1 false)))))) = some r := H
                have A77 := Aside0.mk A770
                clear A770
                replace H := Option.bind_eq_some_iff.mp H
                obtain ⟨t121, A780, H⟩ := H
                replace H : (if t120 > a0 then (capstanlaw01_FixOrder.j2 kj68 a0 a1 true) else (if t121 < a0 then (capstanlaw01_FixOrder.j2 kj68 a0 a1 true) else (if t120 > (-9223372036854775808) then (if (Int.tmod t120 1000000) = 0 then (if (wrap64 (a0 - t120)) ≥ 1000000 then (capstanlaw01_FixOrder.j2 kj68 a0 a1 true) else (if t121 < 9223372036854775807 then (if (Int.tmod t121 1000000) = 0 then (capstanlaw01_FixOrder.j2 kj68 a0 a1 (decide ((wrap64 (t121 - a0)) ≥ 1000000))) else (capstanlaw01_FixOrder.j2 kj68 a0 a1 true)) else (capstanlaw01_FixOrder.j2 kj68 a0 a1 false))) else (capstanlaw01_FixOrder.j2 kj68 a0 a1 true)) else (if t121 < 9223372036854775807 then (if (Int.tmod t121 1000000) = 0 then (capstanlaw01_FixOrder.j2 kj68 a0 a1 (decide ((wrap64 (t121 - a0)) ≥ 1000000))) else (capstanlaw01_FixOrder.j2 kj68 a0 a1 true)) else (capstanlaw01_FixOrder.j2 kj68 a0 a1 false))))) = some r := H
                have A78 := Aside0.mk A780
                clear A780
                have HC79 := Aside0.mk H
                clear H
                go_upto_region 8 with (first | ((with_reducible refine gate_callee (f := 11) rfl ?_); refine goesL_ (some 77) rfl rfl Try.func11 (by kernel_rfl) rfl #[.int .i64 a0] rfl (by (try simp only [List.map_toArray, List.map_cons, List.map_nil]); first | done | rfl | (simp only [List.length_drop, List.length_take]; rfl)) ?_; (with_reducible refine (fix_Floor.calls a0 t120 _ A77.out).mono ?_); rintro e w80 ⟨rfl, hb⟩; refine ⟨_, rfl, ?_⟩; have n0_ := Aside0.mk (below_step (by repeat (first | (with_reducible first | exact HB.out | apply below_alloc | apply pw_below_drewN | apply below_drew1) | exact HB.out)) hb); clear HB; have HB := n0_; clear n0_; (try clear hb); (try clear hb2); (try clear hk); (try clear hi)) | ((with_reducible refine gate_callee (f := 13) rfl ?_); refine goesL_ (some 79) rfl rfl Try.func13 (by kernel_rfl) rfl #[.int .i64 a0] rfl (by (try simp only [List.map_toArray, List.map_cons, List.map_nil]); first | done | rfl | (simp only [List.length_drop, List.length_take]; rfl)) ?_; (with_reducible refine (fix_Ceil.calls a0 t121 _ A78.out).mono ?_); rintro e w81 ⟨rfl, hb⟩; refine ⟨_, rfl, ?_⟩; have n0_ := Aside0.mk (below_step (by repeat (first | (with_reducible first | exact HB.out | apply below_alloc | apply pw_below_drewN | apply below_drew1) | exact HB.out)) hb); clear HB; have HB := n0_; clear n0_; (try clear hb); (try clear hb2); (try clear hk); (try clear hi)))
                (try simp only [Act.put, List.setIfInBounds_toArray, List.set_cons_zero, List.set_cons_succ])
                go_cut [117] (fun v117 wc => ∃ (kq : Nat) (x117_78 : Bool), v117 = .bool x117_78 ∧ Aside0 (capstanlaw01_FixOrder.j2 kq a0 a1 x117_78 = some r) ∧ Aside0 (kq ≤ kj68) ∧ Aside0 (Below w.heap.size w wc))
                case first =>
                  have H := HC79.out
                  clear HC79
                  by_cases c82 : t120 > a0
                  · rw [if_pos c82] at H
                    have c82b0 : decide (a0 < t120) = true := decide_eq_true c82
                    clear c82
                    (first | rw [c82b0] | (simp only [i64_w, i32_w]; rw [c82b0]) | skip)
                    have H' := Aside0.mk H
                    clear H
                    go_wp2
                    go_meet
                    case rel => exact ⟨_, (true), (by first | rfl | (simp; done) | (simp [*]; done)), H', ⟨by have := HJ5.out; have := HJ68.out; first | omega | exact Nat.le_refl _⟩, ⟨by repeat (first | (with_reducible first | exact HB.out | apply below_alloc | apply pw_below_drewN | apply below_drew1) | exact HB.out)⟩⟩
                  · rw [if_neg c82] at H
                    have c82b0 : decide (a0 < t120) = false := decide_eq_false c82
                    clear c82
                    (first | rw [c82b0] | (simp only [i64_w, i32_w]; rw [c82b0]) | skip)
                    by_cases c83 : t121 < a0
                    · rw [if_pos c83] at H
                      have c83b0 : decide (t121 < a0) = true := decide_eq_true c83
                      clear c83
                      have H' := Aside0.mk H
                      clear H
                      go_wp2
                      go_meet
                      case rel => exact ⟨_, (true), (by first | rfl | (simp; done) | (simp [*]; done)), H', ⟨by have := HJ5.out; have := HJ68.out; first | omega | exact Nat.le_refl _⟩, ⟨by repeat (first | (with_reducible first | exact HB.out | apply below_alloc | apply pw_below_drewN | apply below_drew1) | exact HB.out)⟩⟩
                    · rw [if_neg c83] at H
                      have c83b0 : decide (t121 < a0) = false := decide_eq_false c83
                      clear c83
                      by_cases c84 : t120 > (-9223372036854775808)
                      · rw [if_pos c84] at H
                        have c84b0 : decide ((-9223372036854775808) < t120) = true := decide_eq_true c84
                        clear c84
                        by_cases c85 : (Int.tmod t120 1000000) = 0
                        · rw [if_pos c85] at H
                          have c85b0 : ((Int.tmod t120 1000000) == 0) = true := beq_iff_eq.mpr c85
                          have c85b1 : ((Int.tmod t120 1000000) != 0) = false := bne_eq_false_iff_eq.mpr c85
                          clear c85
                          by_cases c86 : (wrap64 (a0 - t120)) ≥ 1000000
                          · rw [if_pos c86] at H
                            have c86b0 : decide (1000000 ≤ (wrap64 (a0 - t120))) = true := decide_eq_true c86
                            clear c86
                            have H' := Aside0.mk H
                            clear H
                            go_wp2
                            go_meet
                            case rel => exact ⟨_, (true), (by first | rfl | (simp; done) | (simp [*]; done)), H', ⟨by have := HJ5.out; have := HJ68.out; first | omega | exact Nat.le_refl _⟩, ⟨by repeat (first | (with_reducible first | exact HB.out | apply below_alloc | apply pw_below_drewN | apply below_drew1) | exact HB.out)⟩⟩
                          · rw [if_neg c86] at H
                            have c86b0 : decide (1000000 ≤ (wrap64 (a0 - t120))) = false := decide_eq_false c86
                            clear c86
                            by_cases c87 : t121 < 9223372036854775807
                            · rw [if_pos c87] at H
                              have c87b0 : decide (t121 < 9223372036854775807) = true := decide_eq_true c87
                              clear c87
                              by_cases c88 : (Int.tmod t121 1000000) = 0
                              · rw [if_pos c88] at H
                                have c88b0 : ((Int.tmod t121 1000000) == 0) = true := beq_iff_eq.mpr c88
                                have c88b1 : ((Int.tmod t121 1000000) != 0) = false := bne_eq_false_iff_eq.mpr c88
                                clear c88
                                have H' := Aside0.mk H
                                clear H
                                go_wp2
                                go_meet
                                case rel => exact ⟨_, (decide ((wrap64 (t121 - a0)) ≥ 1000000)), (by first | rfl | (simp; done) | (simp [*]; done)), H', ⟨by have := HJ5.out; have := HJ68.out; first | omega | exact Nat.le_refl _⟩, ⟨by repeat (first | (with_reducible first | exact HB.out | apply below_alloc | apply pw_below_drewN | apply below_drew1) | exact HB.out)⟩⟩
                              · rw [if_neg c88] at H
                                have c88b0 : ((Int.tmod t121 1000000) == 0) = false := beq_eq_false_iff_ne.mpr c88
                                have c88b1 : ((Int.tmod t121 1000000) != 0) = true := bne_iff_ne.mpr c88
                                have H' := Aside0.mk H
                                clear H
                                go_wp2
                                go_meet
                                case rel => exact ⟨_, (true), (by first | rfl | (simp; done) | (simp [*]; done)), H', ⟨by have := HJ5.out; have := HJ68.out; first | omega | exact Nat.le_refl _⟩, ⟨by repeat (first | (with_reducible first | exact HB.out | apply below_alloc | apply pw_below_drewN | apply below_drew1) | exact HB.out)⟩⟩
                            · rw [if_neg c87] at H
                              have c87b0 : decide (t121 < 9223372036854775807) = false := decide_eq_false c87
                              clear c87
                              have H' := Aside0.mk H
                              clear H
                              go_wp2
                              go_meet
                              case rel => exact ⟨_, (false), (by first | rfl | (simp; done) | (simp [*]; done)), H', ⟨by have := HJ5.out; have := HJ68.out; first | omega | exact Nat.le_refl _⟩, ⟨by repeat (first | (with_reducible first | exact HB.out | apply below_alloc | apply pw_below_drewN | apply below_drew1) | exact HB.out)⟩⟩
                        · rw [if_neg c85] at H
                          have c85b0 : ((Int.tmod t120 1000000) == 0) = false := beq_eq_false_iff_ne.mpr c85
                          have c85b1 : ((Int.tmod t120 1000000) != 0) = true := bne_iff_ne.mpr c85
                          have H' := Aside0.mk H
                          clear H
                          go_wp2
                          go_meet
                          case rel => exact ⟨_, (true), (by first | rfl | (simp; done) | (simp [*]; done)), H', ⟨by have := HJ5.out; have := HJ68.out; first | omega | exact Nat.le_refl _⟩, ⟨by repeat (first | (with_reducible first | exact HB.out | apply below_alloc | apply pw_below_drewN | apply below_drew1) | exact HB.out)⟩⟩
                      · rw [if_neg c84] at H
                        have c84b0 : decide ((-9223372036854775808) < t120) = false := decide_eq_false c84
                        clear c84
                        by_cases c89 : t121 < 9223372036854775807
                        · rw [if_pos c89] at H
                          have c89b0 : decide (t121 < 9223372036854775807) = true := decide_eq_true c89
                          clear c89
                          by_cases c90 : (Int.tmod t121 1000000) = 0
                          · rw [if_pos c90] at H
                            have c90b0 : ((Int.tmod t121 1000000) == 0) = true := beq_iff_eq.mpr c90
                            have c90b1 : ((Int.tmod t121 1000000) != 0) = false := bne_eq_false_iff_eq.mpr c90
                            clear c90
                            have H' := Aside0.mk H
                            clear H
                            go_wp2
                            go_meet
                            case rel => exact ⟨_, (decide ((wrap64 (t121 - a0)) ≥ 1000000)), (by first | rfl | (simp; done) | (simp [*]; done)), H', ⟨by have := HJ5.out; have := HJ68.out; first | omega | exact Nat.le_refl _⟩, ⟨by repeat (first | (with_reducible first | exact HB.out | apply below_alloc | apply pw_below_drewN | apply below_drew1) | exact HB.out)⟩⟩
                          · rw [if_neg c90] at H
                            have c90b0 : ((Int.tmod t121 1000000) == 0) = false := beq_eq_false_iff_ne.mpr c90
                            have c90b1 : ((Int.tmod t121 1000000) != 0) = true := bne_iff_ne.mpr c90
                            have H' := Aside0.mk H
                            clear H
                            go_wp2
                            go_meet
                            case rel => exact ⟨_, (true), (by first | rfl | (simp; done) | (simp [*]; done)), H', ⟨by have := HJ5.out; have := HJ68.out; first | omega | exact Nat.le_refl _⟩, ⟨by repeat (first | (with_reducible first | exact HB.out | apply below_alloc | apply pw_below_drewN | apply below_drew1) | exact HB.out)⟩⟩
                        · rw [if_neg c89] at H
                          have c89b0 : decide (t121 < 9223372036854775807) = false := decide_eq_false c89
                          clear c89
                          have H' := Aside0.mk H
                          clear H
                          go_wp2
                          go_meet
                          case rel => exact ⟨_, (false), (by first | rfl | (simp; done) | (simp [*]; done)), H', ⟨by have := HJ5.out; have := HJ68.out; first | omega | exact Nat.le_refl _⟩, ⟨by repeat (first | (with_reducible first | exact HB.out | apply below_alloc | apply pw_below_drewN | apply below_drew1) | exact HB.out)⟩⟩
                case rest =>
                  clear HC79
                  try clear c1
                  try clear c2
                  try clear p2
                  try clear c3
                  try clear c4
                  try clear c5
                  try clear c6
                  try clear p6
                  try clear c7
                  try clear c8
                  try clear c8b0
                  try clear c9
                  try clear c10
                  try clear c11
                  try clear c11b0
                  try clear c13
                  try clear c16
                  try clear c16b0
                  try clear c23
                  try clear c23b0
                  try clear c32
                  try clear c32b0
                  try clear c43
                  try clear c43b0
                  try clear p64
                  try clear c68
                  try clear c70
                  try clear c70b0
                  try clear c71
                  try clear c71b0
                  try clear c76
                  try clear c82
                  try clear c82b0
                  try clear c83
                  try clear c83b0
                  try clear c84
                  try clear c84b0
                  try clear c85
                  try clear c85b0
                  try clear c85b1
                  try clear c86
                  try clear c86b0
                  try clear c87
                  try clear c87b0
                  try clear c88
                  try clear c88b0
                  try clear c88b1
                  try clear c89
                  try clear c89b0
                  try clear c90
                  try clear c90b0
                  try clear c90b1
                  try clear p2
                  obtain ⟨kq, x117_78, rfl, HA, HJ78, HB⟩ := hcut
                  cases kq with
                  | zero => exact absurd HA.out (by simp [capstanlaw01_FixOrder.j2])
                  | succ kj78 =>
                    have H := HA.out
                    clear HA
                    simp only [capstanlaw01_FixOrder.j2] at H
                    by_cases c91 : x117_78 = true
                    · subst c91
                      have H1 : (some false) = some r := by rw [if_pos rfl] at H; exact H
                      clear H
                      have H := H1
                      clear H1
                      obtain rfl := Option.some.inj H
                      go_wp2
                      go_ret
                      exact ⟨by first | rfl | (simp [errW_none, errW_some] <;> rfl) | (simp [*, errW_none, errW_some] <;> rfl), by repeat (first | (with_reducible first | exact HB.out | apply below_alloc | apply pw_below_drewN | apply below_drew1) | exact HB.out)⟩
                    · replace c91 := Bool.eq_false_iff.mpr c91
                      subst c91
                      have H1 : ((fix_Add.f a0 a1).bind fun t122 => ((fix_Add.f a1 a0).bind fun t123 => (if t122 = t123 then ((fix_Mul.f a0 a1).bind fun t124 => ((fix_Mul.f a1 a0).bind fun t125 => (if t124 = t125 then ((fix_Mul.f a0 1000000).bind fun t126 => (if t126 = a0 then ((fix_Add.f a0 0).bind fun t127 => (if t127 = a0 then ((fix_Abs.f a0).bind fun t128 => (some (decide (t128 ≥ 0)))) else (some false))) else (some false))) else (some false)))) else (some false)))) = some r := by rw [if_neg (show ¬ (false = true) by decide)] at H; exact H
                      clear H
                      have H := H1
                      clear H1
                      replace H := Option.bind_eq_some_iff.mp H
                      obtain ⟨t122, A920, H⟩ := H
                      replace H : ((fix_Add.f a1 a0).bind fun t123 => (if t122 = t123 then ((fix_Mul.f a0 a1).bind fun t124 => ((fix_Mul.f a1 a0).bind fun t125 => (if t124 = t125 then ((fix_Mul.f a0 1000000).bind fun t126 => (if t126 = a0 then ((fix_Add.f a0 0).bind fun t127 => (if t127 = a0 then ((fix_Abs.f a0).bind fun t128 => (some (decide (t128 ≥ 0)))) else (some false))) else (some false))) else (some false)))) else (some false))) = some r := H
                      have A92 := Aside0.mk A920
                      clear A920
                      replace H := Option.bind_eq_some_iff.mp H
                      obtain ⟨t123, A930, H⟩ := H
                      replace H : (if t122 = t123 then ((fix_Mul.f a0 a1).bind fun t124 => ((fix_Mul.f a1 a0).bind fun t125 => (if t124 = t125 then ((fix_Mul.f a0 1000000).bind fun t126 => (if t126 = a0 then ((fix_Add.f a0 0).bind fun t127 => (if t127 = a0 then ((fix_Abs.f a0).bind fun t128 => (some (decide (t128 ≥ 0)))) else (some false))) else (some false))) else (some false)))) else (some false)) = some r := H
                      have A93 := Aside0.mk A930
                      clear A930
                      by_cases c94 : t122 = t123
                      · rw [if_pos c94] at H
                        have c94b0 : (t122 == t123) = true := beq_iff_eq.mpr c94
                        have c94b1 : (t122 != t123) = false := bne_eq_false_iff_eq.mpr c94
                        clear c94
                        replace H := Option.bind_eq_some_iff.mp H
                        obtain ⟨t124, A950, H⟩ := H
                        replace H : ((fix_Mul.f a1 a0).bind fun t125 => (if t124 = t125 then ((fix_Mul.f a0 1000000).bind fun t126 => (if t126 = a0 then ((fix_Add.f a0 0).bind fun t127 => (if t127 = a0 then ((fix_Abs.f a0).bind fun t128 => (some (decide (t128 ≥ 0)))) else (some false))) else (some false))) else (some false))) = some r := H
                        have A95 := Aside0.mk A950
                        clear A950
                        replace H := Option.bind_eq_some_iff.mp H
                        obtain ⟨t125, A960, H⟩ := H
                        replace H : (if t124 = t125 then ((fix_Mul.f a0 1000000).bind fun t126 => (if t126 = a0 then ((fix_Add.f a0 0).bind fun t127 => (if t127 = a0 then ((fix_Abs.f a0).bind fun t128 => (some (decide (t128 ≥ 0)))) else (some false))) else (some false))) else (some false)) = some r := H
                        have A96 := Aside0.mk A960
                        clear A960
                        by_cases c97 : t124 = t125
                        · rw [if_pos c97] at H
                          have c97b0 : (t124 == t125) = true := beq_iff_eq.mpr c97
                          have c97b1 : (t124 != t125) = false := bne_eq_false_iff_eq.mpr c97
                          clear c97
                          replace H := Option.bind_eq_some_iff.mp H
                          obtain ⟨t126, A980, H⟩ := H
                          replace H : (if t126 = a0 then ((fix_Add.f a0 0).bind fun t127 => (if t127 = a0 then ((fix_Abs.f a0).bind fun t128 => (some (decide (t128 ≥ 0)))) else (some false))) else (some false)) = some r := H
                          have A98 := Aside0.mk A980
                          clear A980
                          by_cases c99 : t126 = a0
                          · rw [if_pos c99] at H
                            have c99b0 : (t126 == a0) = true := beq_iff_eq.mpr c99
                            have c99b1 : (t126 != a0) = false := bne_eq_false_iff_eq.mpr c99
                            clear c99
                            replace H := Option.bind_eq_some_iff.mp H
                            obtain ⟨t127, A1000, H⟩ := H
                            replace H : (if t127 = a0 then ((fix_Abs.f a0).bind fun t128 => (some (decide (t128 ≥ 0)))) else (some false)) = some r := H
                            have A100 := Aside0.mk A1000
                            clear A1000
                            by_cases c101 : t127 = a0
                            · rw [if_pos c101] at H
                              have c101b0 : (t127 == a0) = true := beq_iff_eq.mpr c101
                              have c101b1 : (t127 != a0) = false := bne_eq_false_iff_eq.mpr c101
                              clear c101
                              replace H := Option.bind_eq_some_iff.mp H
                              obtain ⟨t128, A1020, H⟩ := H
                              replace H : (some (decide (t128 ≥ 0))) = some r := H
                              have A102 := Aside0.mk A1020
                              clear A1020
                              obtain rfl := Option.some.inj H
                              go_wp2_with (first | ((with_reducible refine gate_callee (f := 19) rfl ?_); refine goesL_ (some 120) rfl rfl Try.func19 (by kernel_rfl) rfl #[.int .i64 a0, .int .i64 a1] rfl (by (try simp only [List.map_toArray, List.map_cons, List.map_nil]); first | done | rfl | (simp only [List.length_drop, List.length_take]; rfl)) ?_; (with_reducible refine (fix_Add.calls a0 a1 t122 _ A92.out).mono ?_); rintro e w103 ⟨rfl, hb⟩; refine ⟨_, rfl, ?_⟩; have n0_ := Aside0.mk (below_step (by repeat (first | (with_reducible first | exact HB.out | apply below_alloc | apply pw_below_drewN | apply below_drew1) | exact HB.out)) hb); clear HB; have HB := n0_; clear n0_; (try clear hb); (try clear hb2); (try clear hk); (try clear hi)) | ((with_reducible refine gate_callee (f := 19) rfl ?_); refine goesL_ (some 123) rfl rfl Try.func19 (by kernel_rfl) rfl #[.int .i64 a1, .int .i64 a0] rfl (by (try simp only [List.map_toArray, List.map_cons, List.map_nil]); first | done | rfl | (simp only [List.length_drop, List.length_take]; rfl)) ?_; (with_reducible refine (fix_Add.calls a1 a0 t123 _ A93.out).mono ?_); rintro e w104 ⟨rfl, hb⟩; refine ⟨_, rfl, ?_⟩; have n0_ := Aside0.mk (below_step (by repeat (first | (with_reducible first | exact HB.out | apply below_alloc | apply pw_below_drewN | apply below_drew1) | exact HB.out)) hb); clear HB; have HB := n0_; clear n0_; (try clear hb); (try clear hb2); (try clear hk); (try clear hi)) | (go_at_call 27; (with_reducible refine (fix_Mul.calls a0 a1 t124 _ A95.out).mono ?_); rintro e w105 ⟨rfl, hb⟩; have n0_ := Aside0.mk (below_step (by repeat (first | (with_reducible first | exact HB.out | apply below_alloc | apply pw_below_drewN | apply below_drew1) | exact HB.out)) hb); clear HB; have HB := n0_; clear n0_; (try clear hb); (try clear hb2); (try clear hk); (try clear hi)) | (go_at_call 27; (with_reducible refine (fix_Mul.calls a1 a0 t125 _ A96.out).mono ?_); rintro e w106 ⟨rfl, hb⟩; have n0_ := Aside0.mk (below_step (by repeat (first | (with_reducible first | exact HB.out | apply below_alloc | apply pw_below_drewN | apply below_drew1) | exact HB.out)) hb); clear HB; have HB := n0_; clear n0_; (try clear hb); (try clear hb2); (try clear hk); (try clear hi)) | (go_at_call 27; (with_reducible refine (fix_Mul.calls a0 1000000 t126 _ A98.out).mono ?_); rintro e w107 ⟨rfl, hb⟩; have n0_ := Aside0.mk (below_step (by repeat (first | (with_reducible first | exact HB.out | apply below_alloc | apply pw_below_drewN | apply below_drew1) | exact HB.out)) hb); clear HB; have HB := n0_; clear n0_; (try clear hb); (try clear hb2); (try clear hk); (try clear hi)) | (go_at_call 19; (with_reducible refine (fix_Add.calls a0 0 t127 _ A100.out).mono ?_); rintro e w108 ⟨rfl, hb⟩; have n0_ := Aside0.mk (below_step (by repeat (first | (with_reducible first | exact HB.out | apply below_alloc | apply pw_below_drewN | apply below_drew1) | exact HB.out)) hb); clear HB; have HB := n0_; clear n0_; (try clear hb); (try clear hb2); (try clear hk); (try clear hi)) | (go_at_call 25; (with_reducible refine (fix_Abs.calls a0 t128 _ A102.out).mono ?_); rintro e w109 ⟨rfl, hb⟩; have n0_ := Aside0.mk (below_step (by repeat (first | (with_reducible first | exact HB.out | apply below_alloc | apply pw_below_drewN | apply below_drew1) | exact HB.out)) hb); clear HB; have HB := n0_; clear n0_; (try clear hb); (try clear hb2); (try clear hk); (try clear hi)))
                              go_ret
                              exact ⟨by first | rfl | (simp [errW_none, errW_some] <;> rfl) | (simp [*, errW_none, errW_some] <;> rfl), by repeat (first | (with_reducible first | exact HB.out | apply below_alloc | apply pw_below_drewN | apply below_drew1) | exact HB.out)⟩
                            · rw [if_neg c101] at H
                              have c101b0 : (t127 == a0) = false := beq_eq_false_iff_ne.mpr c101
                              have c101b1 : (t127 != a0) = true := bne_iff_ne.mpr c101
                              obtain rfl := Option.some.inj H
                              go_wp2_with (first | ((with_reducible refine gate_callee (f := 19) rfl ?_); refine goesL_ (some 120) rfl rfl Try.func19 (by kernel_rfl) rfl #[.int .i64 a0, .int .i64 a1] rfl (by (try simp only [List.map_toArray, List.map_cons, List.map_nil]); first | done | rfl | (simp only [List.length_drop, List.length_take]; rfl)) ?_; (with_reducible refine (fix_Add.calls a0 a1 t122 _ A92.out).mono ?_); rintro e w110 ⟨rfl, hb⟩; refine ⟨_, rfl, ?_⟩; have n0_ := Aside0.mk (below_step (by repeat (first | (with_reducible first | exact HB.out | apply below_alloc | apply pw_below_drewN | apply below_drew1) | exact HB.out)) hb); clear HB; have HB := n0_; clear n0_; (try clear hb); (try clear hb2); (try clear hk); (try clear hi)) | ((with_reducible refine gate_callee (f := 19) rfl ?_); refine goesL_ (some 123) rfl rfl Try.func19 (by kernel_rfl) rfl #[.int .i64 a1, .int .i64 a0] rfl (by (try simp only [List.map_toArray, List.map_cons, List.map_nil]); first | done | rfl | (simp only [List.length_drop, List.length_take]; rfl)) ?_; (with_reducible refine (fix_Add.calls a1 a0 t123 _ A93.out).mono ?_); rintro e w111 ⟨rfl, hb⟩; refine ⟨_, rfl, ?_⟩; have n0_ := Aside0.mk (below_step (by repeat (first | (with_reducible first | exact HB.out | apply below_alloc | apply pw_below_drewN | apply below_drew1) | exact HB.out)) hb); clear HB; have HB := n0_; clear n0_; (try clear hb); (try clear hb2); (try clear hk); (try clear hi)) | (go_at_call 27; (with_reducible refine (fix_Mul.calls a0 a1 t124 _ A95.out).mono ?_); rintro e w112 ⟨rfl, hb⟩; have n0_ := Aside0.mk (below_step (by repeat (first | (with_reducible first | exact HB.out | apply below_alloc | apply pw_below_drewN | apply below_drew1) | exact HB.out)) hb); clear HB; have HB := n0_; clear n0_; (try clear hb); (try clear hb2); (try clear hk); (try clear hi)) | (go_at_call 27; (with_reducible refine (fix_Mul.calls a1 a0 t125 _ A96.out).mono ?_); rintro e w113 ⟨rfl, hb⟩; have n0_ := Aside0.mk (below_step (by repeat (first | (with_reducible first | exact HB.out | apply below_alloc | apply pw_below_drewN | apply below_drew1) | exact HB.out)) hb); clear HB; have HB := n0_; clear n0_; (try clear hb); (try clear hb2); (try clear hk); (try clear hi)) | (go_at_call 27; (with_reducible refine (fix_Mul.calls a0 1000000 t126 _ A98.out).mono ?_); rintro e w114 ⟨rfl, hb⟩; have n0_ := Aside0.mk (below_step (by repeat (first | (with_reducible first | exact HB.out | apply below_alloc | apply pw_below_drewN | apply below_drew1) | exact HB.out)) hb); clear HB; have HB := n0_; clear n0_; (try clear hb); (try clear hb2); (try clear hk); (try clear hi)) | (go_at_call 19; (with_reducible refine (fix_Add.calls a0 0 t127 _ A100.out).mono ?_); rintro e w115 ⟨rfl, hb⟩; have n0_ := Aside0.mk (below_step (by repeat (first | (with_reducible first | exact HB.out | apply below_alloc | apply pw_below_drewN | apply below_drew1) | exact HB.out)) hb); clear HB; have HB := n0_; clear n0_; (try clear hb); (try clear hb2); (try clear hk); (try clear hi)))
                              go_ret
                              exact ⟨by first | rfl | (simp [errW_none, errW_some] <;> rfl) | (simp [*, errW_none, errW_some] <;> rfl), by repeat (first | (with_reducible first | exact HB.out | apply below_alloc | apply pw_below_drewN | apply below_drew1) | exact HB.out)⟩
                          · rw [if_neg c99] at H
                            have c99b0 : (t126 == a0) = false := beq_eq_false_iff_ne.mpr c99
                            have c99b1 : (t126 != a0) = true := bne_iff_ne.mpr c99
                            obtain rfl := Option.some.inj H
                            go_wp2_with (first | ((with_reducible refine gate_callee (f := 19) rfl ?_); refine goesL_ (some 120) rfl rfl Try.func19 (by kernel_rfl) rfl #[.int .i64 a0, .int .i64 a1] rfl (by (try simp only [List.map_toArray, List.map_cons, List.map_nil]); first | done | rfl | (simp only [List.length_drop, List.length_take]; rfl)) ?_; (with_reducible refine (fix_Add.calls a0 a1 t122 _ A92.out).mono ?_); rintro e w116 ⟨rfl, hb⟩; refine ⟨_, rfl, ?_⟩; have n0_ := Aside0.mk (below_step (by repeat (first | (with_reducible first | exact HB.out | apply below_alloc | apply pw_below_drewN | apply below_drew1) | exact HB.out)) hb); clear HB; have HB := n0_; clear n0_; (try clear hb); (try clear hb2); (try clear hk); (try clear hi)) | ((with_reducible refine gate_callee (f := 19) rfl ?_); refine goesL_ (some 123) rfl rfl Try.func19 (by kernel_rfl) rfl #[.int .i64 a1, .int .i64 a0] rfl (by (try simp only [List.map_toArray, List.map_cons, List.map_nil]); first | done | rfl | (simp only [List.length_drop, List.length_take]; rfl)) ?_; (with_reducible refine (fix_Add.calls a1 a0 t123 _ A93.out).mono ?_); rintro e w117 ⟨rfl, hb⟩; refine ⟨_, rfl, ?_⟩; have n0_ := Aside0.mk (below_step (by repeat (first | (with_reducible first | exact HB.out | apply below_alloc | apply pw_below_drewN | apply below_drew1) | exact HB.out)) hb); clear HB; have HB := n0_; clear n0_; (try clear hb); (try clear hb2); (try clear hk); (try clear hi)) | (go_at_call 27; (with_reducible refine (fix_Mul.calls a0 a1 t124 _ A95.out).mono ?_); rintro e w118 ⟨rfl, hb⟩; have n0_ := Aside0.mk (below_step (by repeat (first | (with_reducible first | exact HB.out | apply below_alloc | apply pw_below_drewN | apply below_drew1) | exact HB.out)) hb); clear HB; have HB := n0_; clear n0_; (try clear hb); (try clear hb2); (try clear hk); (try clear hi)) | (go_at_call 27; (with_reducible refine (fix_Mul.calls a1 a0 t125 _ A96.out).mono ?_); rintro e w119 ⟨rfl, hb⟩; have n0_ := Aside0.mk (below_step (by repeat (first | (with_reducible first | exact HB.out | apply below_alloc | apply pw_below_drewN | apply below_drew1) | exact HB.out)) hb); clear HB; have HB := n0_; clear n0_; (try clear hb); (try clear hb2); (try clear hk); (try clear hi)) | (go_at_call 27; (with_reducible refine (fix_Mul.calls a0 1000000 t126 _ A98.out).mono ?_); rintro e w120 ⟨rfl, hb⟩; have n0_ := Aside0.mk (below_step (by repeat (first | (with_reducible first | exact HB.out | apply below_alloc | apply pw_below_drewN | apply below_drew1) | exact HB.out)) hb); clear HB; have HB := n0_; clear n0_; (try clear hb); (try clear hb2); (try clear hk); (try clear hi)))
                            go_ret
                            exact ⟨by first | rfl | (simp [errW_none, errW_some] <;> rfl) | (simp [*, errW_none, errW_some] <;> rfl), by repeat (first | (with_reducible first | exact HB.out | apply below_alloc | apply pw_below_drewN | apply below_drew1) | exact HB.out)⟩
                        · rw [if_neg c97] at H
                          have c97b0 : (t124 == t125) = false := beq_eq_false_iff_ne.mpr c97
                          have c97b1 : (t124 != t125) = true := bne_iff_ne.mpr c97
                          obtain rfl := Option.some.inj H
                          go_wp2_with (first | ((with_reducible refine gate_callee (f := 19) rfl ?_); refine goesL_ (some 120) rfl rfl Try.func19 (by kernel_rfl) rfl #[.int .i64 a0, .int .i64 a1] rfl (by (try simp only [List.map_toArray, List.map_cons, List.map_nil]); first | done | rfl | (simp only [List.length_drop, List.length_take]; rfl)) ?_; (with_reducible refine (fix_Add.calls a0 a1 t122 _ A92.out).mono ?_); rintro e w121 ⟨rfl, hb⟩; refine ⟨_, rfl, ?_⟩; have n0_ := Aside0.mk (below_step (by repeat (first | (with_reducible first | exact HB.out | apply below_alloc | apply pw_below_drewN | apply below_drew1) | exact HB.out)) hb); clear HB; have HB := n0_; clear n0_; (try clear hb); (try clear hb2); (try clear hk); (try clear hi)) | ((with_reducible refine gate_callee (f := 19) rfl ?_); refine goesL_ (some 123) rfl rfl Try.func19 (by kernel_rfl) rfl #[.int .i64 a1, .int .i64 a0] rfl (by (try simp only [List.map_toArray, List.map_cons, List.map_nil]); first | done | rfl | (simp only [List.length_drop, List.length_take]; rfl)) ?_; (with_reducible refine (fix_Add.calls a1 a0 t123 _ A93.out).mono ?_); rintro e w122 ⟨rfl, hb⟩; refine ⟨_, rfl, ?_⟩; have n0_ := Aside0.mk (below_step (by repeat (first | (with_reducible first | exact HB.out | apply below_alloc | apply pw_below_drewN | apply below_drew1) | exact HB.out)) hb); clear HB; have HB := n0_; clear n0_; (try clear hb); (try clear hb2); (try clear hk); (try clear hi)) | (go_at_call 27; (with_reducible refine (fix_Mul.calls a0 a1 t124 _ A95.out).mono ?_); rintro e w123 ⟨rfl, hb⟩; have n0_ := Aside0.mk (below_step (by repeat (first | (with_reducible first | exact HB.out | apply below_alloc | apply pw_below_drewN | apply below_drew1) | exact HB.out)) hb); clear HB; have HB := n0_; clear n0_; (try clear hb); (try clear hb2); (try clear hk); (try clear hi)) | (go_at_call 27; (with_reducible refine (fix_Mul.calls a1 a0 t125 _ A96.out).mono ?_); rintro e w124 ⟨rfl, hb⟩; have n0_ := Aside0.mk (below_step (by repeat (first | (with_reducible first | exact HB.out | apply below_alloc | apply pw_below_drewN | apply below_drew1) | exact HB.out)) hb); clear HB; have HB := n0_; clear n0_; (try clear hb); (try clear hb2); (try clear hk); (try clear hi)))
                          go_ret
                          exact ⟨by first | rfl | (simp [errW_none, errW_some] <;> rfl) | (simp [*, errW_none, errW_some] <;> rfl), by repeat (first | (with_reducible first | exact HB.out | apply below_alloc | apply pw_below_drewN | apply below_drew1) | exact HB.out)⟩
                      · rw [if_neg c94] at H
                        have c94b0 : (t122 == t123) = false := beq_eq_false_iff_ne.mpr c94
                        have c94b1 : (t122 != t123) = true := bne_iff_ne.mpr c94
                        obtain rfl := Option.some.inj H
                        go_wp2_with (first | ((with_reducible refine gate_callee (f := 19) rfl ?_); refine goesL_ (some 120) rfl rfl Try.func19 (by kernel_rfl) rfl #[.int .i64 a0, .int .i64 a1] rfl (by (try simp only [List.map_toArray, List.map_cons, List.map_nil]); first | done | rfl | (simp only [List.length_drop, List.length_take]; rfl)) ?_; (with_reducible refine (fix_Add.calls a0 a1 t122 _ A92.out).mono ?_); rintro e w125 ⟨rfl, hb⟩; refine ⟨_, rfl, ?_⟩; have n0_ := Aside0.mk (below_step (by repeat (first | (with_reducible first | exact HB.out | apply below_alloc | apply pw_below_drewN | apply below_drew1) | exact HB.out)) hb); clear HB; have HB := n0_; clear n0_; (try clear hb); (try clear hb2); (try clear hk); (try clear hi)) | ((with_reducible refine gate_callee (f := 19) rfl ?_); refine goesL_ (some 123) rfl rfl Try.func19 (by kernel_rfl) rfl #[.int .i64 a1, .int .i64 a0] rfl (by (try simp only [List.map_toArray, List.map_cons, List.map_nil]); first | done | rfl | (simp only [List.length_drop, List.length_take]; rfl)) ?_; (with_reducible refine (fix_Add.calls a1 a0 t123 _ A93.out).mono ?_); rintro e w126 ⟨rfl, hb⟩; refine ⟨_, rfl, ?_⟩; have n0_ := Aside0.mk (below_step (by repeat (first | (with_reducible first | exact HB.out | apply below_alloc | apply pw_below_drewN | apply below_drew1) | exact HB.out)) hb); clear HB; have HB := n0_; clear n0_; (try clear hb); (try clear hb2); (try clear hk); (try clear hi)))
                        go_ret
                        exact ⟨by first | rfl | (simp [errW_none, errW_some] <;> rfl) | (simp [*, errW_none, errW_some] <;> rfl), by repeat (first | (with_reducible first | exact HB.out | apply below_alloc | apply pw_below_drewN | apply below_drew1) | exact HB.out)⟩
  · replace c5 := Bool.eq_false_iff.mpr c5
    subst c5
    have H1 : (some false) = some r := by rw [if_neg (show ¬ (false = true) by decide)] at H; exact H
    clear H
    have H := H1
    clear H1
    obtain rfl := Option.some.inj H
    go_enter Try.func5, Try.ntmps5
    go_wp2_with (first | ((with_reducible refine gate_callee (f := 10) rfl ?_); refine goesL_ (some 9) rfl rfl Try.func10 (by kernel_rfl) rfl #[] rfl (by (try simp only [List.map_toArray, List.map_cons, List.map_nil]); first | done | rfl | (simp only [List.length_drop, List.length_take]; rfl)) ?_; (with_reducible refine (capstanlaw01_awake.calls  false _ A4.out).mono ?_); rintro e w127 ⟨rfl, hb⟩; refine ⟨_, rfl, ?_⟩; have n0_ := Aside0.mk (below_step (by repeat (first | (with_reducible first | exact HB.out | apply below_alloc | apply pw_below_drewN | apply below_drew1) | exact HB.out)) hb); clear HB; have HB := n0_; clear n0_; (try clear hb); (try clear hb2); (try clear hk); (try clear hi)))
    go_ret
    exact ⟨by first | rfl | (simp [errW_none, errW_some] <;> rfl) | (simp [*, errW_none, errW_some] <;> rfl), by repeat (first | (with_reducible first | exact HB.out | apply below_alloc | apply pw_below_drewN | apply below_drew1) | exact HB.out)⟩

/-- THE ONE PURE STATEMENT of capstanlaw01_FixOrder: yours. -/
def capstanlaw01_FixOrder.Pure : Prop := ∀ (a0 : Int) (a1 : Int) (a2 : Int), (Lit.int .i64 a0).wf = true → (Lit.int .i64 a1).wf = true → (Lit.int .i64 a2).wf = true → ∃ k, capstanlaw01_FixOrder.f k a0 a1 a2 = some true
theorem capstanlaw01_FixOrder.walk (P : capstanlaw01_FixOrder.Pure) (a0 : Int) (a1 : Int) (a2 : Int) (w : World) (w0 : (Lit.int .i64 a0).wf = true) (w1 : (Lit.int .i64 a1).wf = true) (w2 : (Lit.int .i64 a2).wf = true) :
    Calls Try.prog 5 #[.int .i64 a0, .int .i64 a1, .int .i64 a2] w fun e w' => e = .returned (.bool true) ∧ Below w.heap.size w w' := by
  obtain ⟨k, h⟩ := P a0 a1 a2 w0 w1 w2
  refine (capstanlaw01_FixOrder.calls k a0 a1 a2 true w h).mono ?_
  rintro e w' ⟨rfl, hd⟩
  exact ⟨rfl, hd⟩

end Go.Proofs.Ytbnmjfeacejngaa.XFixOrder
