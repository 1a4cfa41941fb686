/- FixBack of this seat: part of the proof that the law answers true at every input and leaves its arguments as they were, without a condition; written by xprint.sh, a program of this session, out of the translation. -/
import Derived.Test.YtbnmjfeacejngaaXFixBackx0
namespace Go.Proofs.Ytbnmjfeacejngaa.XFixBack
open Go.RowKit Go.Proofs.YtbnmjfeacejngaaW.PrintWords Go.Proofs.YtbnmjfeacejngaaW.PrintLast Go.Proofs.YtbnmjfeacejngaaW.PrintMore
attribute [local go_sem] max2_int min2_int max_two min_two max_three min_three max_four min_four   -- for this text's walks alone
set_option linter.unusedVariables false
set_option linter.unusedSimpArgs false

/-! ### capstanlaw01_awake: function 10 -/
def capstanlaw01_awake.f  : Option (Bool) := (fix_Div.f (-1) 3000000).bind fun bt101 => ((fix_Mul.f 1500000 (-1)).bind fun t103 => (if t103 = (-2) then (if bt101.1 = (-1) then (if bt101.2 = true then ((fix_Count.f 1).bind fun t104 => (some (t104 == 1))) else (some false)) else (some false)) else (some false)))
set_option maxHeartbeats 8000000 in
set_option maxRecDepth 100000 in
theorem capstanlaw01_awake.calls  (r : Bool) (w : World) (h : capstanlaw01_awake.f  = some r) :
    Calls Try.prog 10 #[] w fun e w' => e = .returned (.bool r) ∧ Below w.heap.size w w' := by
  have HB := Aside0.mk (Below.refl w.heap.size w)
  have H : ((fix_Div.f (-1) 3000000).bind fun bt101 => ((fix_Mul.f 1500000 (-1)).bind fun t103 => (if t103 = (-2) then (if bt101.1 = (-1) then (if bt101.2 = true then ((fix_Count.f 1).bind fun t104 => (some (t104 == 1))) else (some false)) else (some false)) else (some false)))) = some r := h
  clear h
  replace H := Option.bind_eq_some_iff.mp H
  obtain ⟨⟨t101, t102⟩, A10, H⟩ := H
  replace H : ((fix_Mul.f 1500000 (-1)).bind fun t103 => (if t103 = (-2) then (if t101 = (-1) then (if t102 = true then ((fix_Count.f 1).bind fun t104 => (some (t104 == 1))) else (some false)) else (some false)) else (some false))) = some r := H
  have A1 := Aside0.mk A10
  clear A10
  replace H := Option.bind_eq_some_iff.mp H
  obtain ⟨t103, A20, H⟩ := H
  replace H : (if t103 = (-2) then (if t101 = (-1) then (if t102 = true then ((fix_Count.f 1).bind fun t104 => (some (t104 == 1))) else (some false)) else (some false)) else (some false)) = some r := H
  have A2 := Aside0.mk A20
  clear A20
  by_cases c3 : t103 = (-2)
  · rw [if_pos c3] at H
    have c3b0 : (t103 == (-2)) = true := beq_iff_eq.mpr c3
    have c3b1 : (t103 != (-2)) = false := bne_eq_false_iff_eq.mpr c3
    clear c3
    by_cases c4 : t101 = (-1)
    · rw [if_pos c4] at H
      have c4b0 : (t101 == (-1)) = true := beq_iff_eq.mpr c4
      have c4b1 : (t101 != (-1)) = false := bne_eq_false_iff_eq.mpr c4
      clear c4
      by_cases c5 : t102 = true
      · subst c5
        have H1 : ((fix_Count.f 1).bind fun t104 => (some (t104 == 1))) = some r := by rw [if_pos rfl] at H; exact H
        clear H
        have H := H1
        clear H1
        replace H := Option.bind_eq_some_iff.mp H
        obtain ⟨t104, A60, H⟩ := H
        replace H : (some (t104 == 1)) = some r := H
        have A6 := Aside0.mk A60
        clear A60
        obtain rfl := Option.some.inj H
        go_enter Try.func10, Try.ntmps10
        go_wp2_with (first | ((with_reducible refine gate_callee (f := 28) rfl ?_); refine goesL_ (some 4) rfl rfl Try.func28 (by kernel_rfl) rfl #[.int .i64 (-1), .int .i64 3000000] rfl (by (try simp only [List.map_toArray, List.map_cons, List.map_nil]); first | done | rfl | (simp only [List.length_drop, List.length_take]; rfl)) ?_; (with_reducible refine (fix_Div.calls (-1) 3000000 t101 true _ A1.out).mono ?_); rintro e w7 ⟨rfl, hb⟩; refine ⟨_, rfl, ?_⟩; have n0_ := Aside0.mk (below_step (by repeat (first | (with_reducible first | exact HB.out | apply below_alloc | apply pw_below_drewN | apply below_drew1) | exact HB.out)) hb); clear HB; have HB := n0_; clear n0_; (try clear hb); (try clear hb2); (try clear hk); (try clear hi)) | ((with_reducible refine gate_callee (f := 27) rfl ?_); refine goesL_ (some 7) rfl rfl Try.func27 (by kernel_rfl) rfl #[.int .i64 1500000, .int .i64 (-1)] rfl (by (try simp only [List.map_toArray, List.map_cons, List.map_nil]); first | done | rfl | (simp only [List.length_drop, List.length_take]; rfl)) ?_; (with_reducible refine (fix_Mul.calls 1500000 (-1) t103 _ A2.out).mono ?_); rintro e w8 ⟨rfl, hb⟩; refine ⟨_, rfl, ?_⟩; have n0_ := Aside0.mk (below_step (by repeat (first | (with_reducible first | exact HB.out | apply below_alloc | apply pw_below_drewN | apply below_drew1) | exact HB.out)) hb); clear HB; have HB := n0_; clear n0_; (try clear hb); (try clear hb2); (try clear hk); (try clear hi)) | (go_at_call 17; (with_reducible refine (fix_Count.calls 1 t104 _ A6.out).mono ?_); rintro e w9 ⟨rfl, hb⟩; have n0_ := Aside0.mk (below_step (by repeat (first | (with_reducible first | exact HB.out | apply below_alloc | apply pw_below_drewN | apply below_drew1) | exact HB.out)) hb); clear HB; have HB := n0_; clear n0_; (try clear hb); (try clear hb2); (try clear hk); (try clear hi)))
        go_ret
        exact ⟨by first | rfl | (simp [errW_none, errW_some] <;> rfl) | (simp [*, errW_none, errW_some] <;> rfl), by repeat (first | (with_reducible first | exact HB.out | apply below_alloc | apply pw_below_drewN | apply below_drew1) | exact HB.out)⟩
      · replace c5 := Bool.eq_false_iff.mpr c5
        subst c5
        have H1 : (some false) = some r := by rw [if_neg (show ¬ (false = true) by decide)] at H; exact H
        clear H
        have H := H1
        clear H1
        obtain rfl := Option.some.inj H
        go_enter Try.func10, Try.ntmps10
        go_wp2_with (first | ((with_reducible refine gate_callee (f := 28) rfl ?_); refine goesL_ (some 4) rfl rfl Try.func28 (by kernel_rfl) rfl #[.int .i64 (-1), .int .i64 3000000] rfl (by (try simp only [List.map_toArray, List.map_cons, List.map_nil]); first | done | rfl | (simp only [List.length_drop, List.length_take]; rfl)) ?_; (with_reducible refine (fix_Div.calls (-1) 3000000 t101 false _ A1.out).mono ?_); rintro e w10 ⟨rfl, hb⟩; refine ⟨_, rfl, ?_⟩; have n0_ := Aside0.mk (below_step (by repeat (first | (with_reducible first | exact HB.out | apply below_alloc | apply pw_below_drewN | apply below_drew1) | exact HB.out)) hb); clear HB; have HB := n0_; clear n0_; (try clear hb); (try clear hb2); (try clear hk); (try clear hi)) | ((with_reducible refine gate_callee (f := 27) rfl ?_); refine goesL_ (some 7) rfl rfl Try.func27 (by kernel_rfl) rfl #[.int .i64 1500000, .int .i64 (-1)] rfl (by (try simp only [List.map_toArray, List.map_cons, List.map_nil]); first | done | rfl | (simp only [List.length_drop, List.length_take]; rfl)) ?_; (with_reducible refine (fix_Mul.calls 1500000 (-1) t103 _ A2.out).mono ?_); rintro e w11 ⟨rfl, hb⟩; refine ⟨_, rfl, ?_⟩; have n0_ := Aside0.mk (below_step (by repeat (first | (with_reducible first | exact HB.out | apply below_alloc | apply pw_below_drewN | apply below_drew1) | exact HB.out)) hb); clear HB; have HB := n0_; clear n0_; (try clear hb); (try clear hb2); (try clear hk); (try clear hi)))
        go_ret
        exact ⟨by first | rfl | (simp [errW_none, errW_some] <;> rfl) | (simp [*, errW_none, errW_some] <;> rfl), by repeat (first | (with_reducible first | exact HB.out | apply below_alloc | apply pw_below_drewN | apply below_drew1) | exact HB.out)⟩
    · rw [if_neg c4] at H
      have c4b0 : (t101 == (-1)) = false := beq_eq_false_iff_ne.mpr c4
      have c4b1 : (t101 != (-1)) = true := bne_iff_ne.mpr c4
      obtain rfl := Option.some.inj H
      go_enter Try.func10, Try.ntmps10
      go_wp2_with (first | ((with_reducible refine gate_callee (f := 28) rfl ?_); refine goesL_ (some 4) rfl rfl Try.func28 (by kernel_rfl) rfl #[.int .i64 (-1), .int .i64 3000000] rfl (by (try simp only [List.map_toArray, List.map_cons, List.map_nil]); first | done | rfl | (simp only [List.length_drop, List.length_take]; rfl)) ?_; (with_reducible refine (fix_Div.calls (-1) 3000000 t101 t102 _ A1.out).mono ?_); rintro e w12 ⟨rfl, hb⟩; refine ⟨_, rfl, ?_⟩; have n0_ := Aside0.mk (below_step (by repeat (first | (with_reducible first | exact HB.out | apply below_alloc | apply pw_below_drewN | apply below_drew1) | exact HB.out)) hb); clear HB; have HB := n0_; clear n0_; (try clear hb); (try clear hb2); (try clear hk); (try clear hi)) | ((with_reducible refine gate_callee (f := 27) rfl ?_); refine goesL_ (some 7) rfl rfl Try.func27 (by kernel_rfl) rfl #[.int .i64 1500000, .int .i64 (-1)] rfl (by (try simp only [List.map_toArray, List.map_cons, List.map_nil]); first | done | rfl | (simp only [List.length_drop, List.length_take]; rfl)) ?_; (with_reducible refine (fix_Mul.calls 1500000 (-1) t103 _ A2.out).mono ?_); rintro e w13 ⟨rfl, hb⟩; refine ⟨_, rfl, ?_⟩; have n0_ := Aside0.mk (below_step (by repeat (first | (with_reducible first | exact HB.out | apply below_alloc | apply pw_below_drewN | apply below_drew1) | exact HB.out)) hb); clear HB; have HB := n0_; clear n0_; (try clear hb); (try clear hb2); (try clear hk); (try clear hi)))
      go_ret
      exact ⟨by first | rfl | (simp [errW_none, errW_some] <;> rfl) | (simp [*, errW_none, errW_some] <;> rfl), by repeat (first | (with_reducible first | exact HB.out | apply below_alloc | apply pw_below_drewN | apply below_drew1) | exact HB.out)⟩
  · rw [if_neg c3] at H
    have c3b0 : (t103 == (-2)) = false := beq_eq_false_iff_ne.mpr c3
    have c3b1 : (t103 != (-2)) = true := bne_iff_ne.mpr c3
    obtain rfl := Option.some.inj H
    go_enter Try.func10, Try.ntmps10
    go_wp2_with (first | ((with_reducible refine gate_callee (f := 28) rfl ?_); refine goesL_ (some 4) rfl rfl Try.func28 (by kernel_rfl) rfl #[.int .i64 (-1), .int .i64 3000000] rfl (by (try simp only [List.map_toArray, List.map_cons, List.map_nil]); first | done | rfl | (simp only [List.length_drop, List.length_take]; rfl)) ?_; (with_reducible refine (fix_Div.calls (-1) 3000000 t101 t102 _ A1.out).mono ?_); rintro e w14 ⟨rfl, hb⟩; refine ⟨_, rfl, ?_⟩; have n0_ := Aside0.mk (below_step (by repeat (first | (with_reducible first | exact HB.out | apply below_alloc | apply pw_below_drewN | apply below_drew1) | exact HB.out)) hb); clear HB; have HB := n0_; clear n0_; (try clear hb); (try clear hb2); (try clear hk); (try clear hi)) | ((with_reducible refine gate_callee (f := 27) rfl ?_); refine goesL_ (some 7) rfl rfl Try.func27 (by kernel_rfl) rfl #[.int .i64 1500000, .int .i64 (-1)] rfl (by (try simp only [List.map_toArray, List.map_cons, List.map_nil]); first | done | rfl | (simp only [List.length_drop, List.length_take]; rfl)) ?_; (with_reducible refine (fix_Mul.calls 1500000 (-1) t103 _ A2.out).mono ?_); rintro e w15 ⟨rfl, hb⟩; refine ⟨_, rfl, ?_⟩; have n0_ := Aside0.mk (below_step (by repeat (first | (with_reducible first | exact HB.out | apply below_alloc | apply pw_below_drewN | apply below_drew1) | exact HB.out)) hb); clear HB; have HB := n0_; clear n0_; (try clear hb); (try clear hb2); (try clear hk); (try clear hi)))
    go_ret
    exact ⟨by first | rfl | (simp [errW_none, errW_some] <;> rfl) | (simp [*, errW_none, errW_some] <;> rfl), by repeat (first | (with_reducible first | exact HB.out | apply below_alloc | apply pw_below_drewN | apply below_drew1) | exact HB.out)⟩

/-! ### capstanlaw01_FixBack: function 7 -/
def capstanlaw01_FixBack.f (a0 : Int) (a1 : Int) : Option (Bool) := (capstanlaw01_awake.f).bind fun t105 => (if t105 = true then ((fix_Div.f (wrap64 (a0)) (wrap64 (a1))).bind fun bt106 => (if (wrap64 (a1)) = 0 then (if bt106.2 = true then (some false) else (some (bt106.1 == 0))) else (if (wrap64 (a1)) < 0 then (if bt106.2 = true then (if (wrap64 (-(wrap64 ((wrap64 ((wrap64 (a0)) * 1000000)) - (wrap64 (bt106.1 * (wrap64 (a1)))))))) ≥ 0 then (if (wrap64 (-(wrap64 ((wrap64 ((wrap64 (a0)) * 1000000)) - (wrap64 (bt106.1 * (wrap64 (a1)))))))) < (wrap64 (-(wrap64 (a1)))) then ((fix_Scale.f (wrap64 (a0)) (wrap64 (-(wrap64 (a1)))) (wrap64 (-(wrap64 (a1))))).bind fun t108 => (some (t108 == (wrap64 (a0))))) else (some false)) else (some false)) else (some false)) else (if bt106.2 = true then (if (wrap64 ((wrap64 ((wrap64 (a0)) * 1000000)) - (wrap64 (bt106.1 * (wrap64 (a1)))))) ≥ 0 then (if (wrap64 ((wrap64 ((wrap64 (a0)) * 1000000)) - (wrap64 (bt106.1 * (wrap64 (a1)))))) < (wrap64 (a1)) then ((fix_Scale.f (wrap64 (a0)) (wrap64 (a1)) (wrap64 (a1))).bind fun t109 => (some (t109 == (wrap64 (a0))))) else (some false)) else (some false)) else (some false))))) else (some false))
set_option maxHeartbeats 8000000 in
set_option maxRecDepth 100000 in
theorem capstanlaw01_FixBack.calls (a0 : Int) (a1 : Int) (r : Bool) (w : World) (h : capstanlaw01_FixBack.f a0 a1 = some r) :
    Calls Try.prog 7 #[.int .i32 a0, .int .i32 a1] w fun e w' => e = .returned (.bool r) ∧ Below w.heap.size w w' := by
  have HB := Aside0.mk (Below.refl w.heap.size w)
  have H : ((capstanlaw01_awake.f).bind fun t105 => (if t105 = true then ((fix_Div.f (wrap64 (a0)) (wrap64 (a1))).bind fun bt106 => (if (wrap64 (a1)) = 0 then (if bt106.2 = true then (some false) else (some (bt106.1 == 0))) else (if (wrap64 (a1)) < 0 then (if bt106.2 = true then (if (wrap64 (-(wrap64 ((wrap64 ((wrap64 (a0)) * 1000000)) - (wrap64 (bt106.1 * (wrap64 (a1)))))))) ≥ 0 then (if (wrap64 (-(wrap64 ((wrap64 ((wrap64 (a0)) * 1000000)) - (wrap64 (bt106.1 * (wrap64 (a1)))))))) < (wrap64 (-(wrap64 (a1)))) then ((fix_Scale.f (wrap64 (a0)) (wrap64 (-(wrap64 (a1)))) (wrap64 (-(wrap64 (a1))))).bind fun t108 => (some (t108 == (wrap64 (a0))))) else (some false)) else (some false)) else (some false)) else (if bt106.2 = true then (if (wrap64 ((wrap64 ((wrap64 (a0)) * 1000000)) - (wrap64 (bt106.1 * (wrap64 (a1)))))) ≥ 0 then (if (wrap64 ((wrap64 ((wrap64 (a0)) * 1000000)) - (wrap64 (bt106.1 * (wrap64 (a1)))))) < (wrap64 (a1)) then ((fix_Scale.f (wrap64 (a0)) (wrap64 (a1)) (wrap64 (a1))).bind fun t109 => (some (t109 == (wrap64 (a0))))) else (some false)) else (some false)) else (some false))))) else (some false))) = some r := h
  clear h
  replace H := Option.bind_eq_some_iff.mp H
  obtain ⟨t105, A30, H⟩ := H
  replace H : (if t105 = true then ((fix_Div.f (wrap64 (a0)) (wrap64 (a1))).bind fun bt106 => (if (wrap64 (a1)) = 0 then (if bt106.2 = true then (some false) else (some (bt106.1 == 0))) else (if (wrap64 (a1)) < 0 then (if bt106.2 = true then (if (wrap64 (-(wrap64 ((wrap64 ((wrap64 (a0)) * 1000000)) - (wrap64 (bt106.1 * (wrap64 (a1)))))))) ≥ 0 then (if (wrap64 (-(wrap64 ((wrap64 ((wrap64 (a0)) * 1000000)) - (wrap64 (bt106.1 * (wrap64 (a1)))))))) < (wrap64 (-(wrap64 (a1)))) then ((fix_Scale.f (wrap64 (a0)) (wrap64 (-(wrap64 (a1)))) (wrap64 (-(wrap64 (a1))))).bind fun t108 => (some (t108 == (wrap64 (a0))))) else (some false)) else (some false)) else (some false)) else (if bt106.2 = true then (if (wrap64 ((wrap64 ((wrap64 (a0)) * 1000000)) - (wrap64 (bt106.1 * (wrap64 (a1)))))) ≥ 0 then (if (wrap64 ((wrap64 ((wrap64 (a0)) * 1000000)) - (wrap64 (bt106.1 * (wrap64 (a1)))))) < (wrap64 (a1)) then ((fix_Scale.f (wrap64 (a0)) (wrap64 (a1)) (wrap64 (a1))).bind fun t109 => (some (t109 == (wrap64 (a0))))) else (some false)) else (some false)) else (some false))))) else (some false)) = some r := H
  have A3 := Aside0.mk A30
  clear A30
  by_cases c4 : t105 = true
  · subst c4
    have H1 : ((fix_Div.f (wrap64 (a0)) (wrap64 (a1))).bind fun bt106 => (if (wrap64 (a1)) = 0 then (if bt106.2 = true then (some false) else (some (bt106.1 == 0))) else (if (wrap64 (a1)) < 0 then (if bt106.2 = true then (if (wrap64 (-(wrap64 ((wrap64 ((wrap64 (a0)) * 1000000)) - (wrap64 (bt106.1 * (wrap64 (a1)))))))) ≥ 0 then (if (wrap64 (-(wrap64 ((wrap64 ((wrap64 (a0)) * 1000000)) - (wrap64 (bt106.1 * (wrap64 (a1)))))))) < (wrap64 (-(wrap64 (a1)))) then ((fix_Scale.f (wrap64 (a0)) (wrap64 (-(wrap64 (a1)))) (wrap64 (-(wrap64 (a1))))).bind fun t108 => (some (t108 == (wrap64 (a0))))) else (some false)) else (some false)) else (some false)) else (if bt106.2 = true then (if (wrap64 ((wrap64 ((wrap64 (a0)) * 1000000)) - (wrap64 (bt106.1 * (wrap64 (a1)))))) ≥ 0 then (if (wrap64 ((wrap64 ((wrap64 (a0)) * 1000000)) - (wrap64 (bt106.1 * (wrap64 (a1)))))) < (wrap64 (a1)) then ((fix_Scale.f (wrap64 (a0)) (wrap64 (a1)) (wrap64 (a1))).bind fun t109 => (some (t109 == (wrap64 (a0))))) else (some false)) else (some false)) else (some false))))) = some r := by rw [if_pos rfl] at H; exact H
    clear H
    have H := H1
    clear H1
    replace H := Option.bind_eq_some_iff.mp H
    obtain ⟨⟨t106, t107⟩, A50, H⟩ := H
    replace H : (if (wrap64 (a1)) = 0 then (if t107 = true then (some false) else (some (t106 == 0))) else (if (wrap64 (a1)) < 0 then (if t107 = true then (if (wrap64 (-(wrap64 ((wrap64 ((wrap64 (a0)) * 1000000)) - (wrap64 (t106 * (wrap64 (a1)))))))) ≥ 0 then (if (wrap64 (-(wrap64 ((wrap64 ((wrap64 (a0)) * 1000000)) - (wrap64 (t106 * (wrap64 (a1)))))))) < (wrap64 (-(wrap64 (a1)))) then ((fix_Scale.f (wrap64 (a0)) (wrap64 (-(wrap64 (a1)))) (wrap64 (-(wrap64 (a1))))).bind fun t108 => (some (t108 == (wrap64 (a0))))) else (some false)) else (some false)) else (some false)) else (if t107 = true then (if (wrap64 ((wrap64 ((wrap64 (a0)) * 1000000)) - (wrap64 (t106 * (wrap64 (a1)))))) ≥ 0 then (if (wrap64 ((wrap64 ((wrap64 (a0)) * 1000000)) - (wrap64 (t106 * (wrap64 (a1)))))) < (wrap64 (a1)) then ((fix_Scale.f (wrap64 (a0)) (wrap64 (a1)) (wrap64 (a1))).bind fun t109 => (some (t109 == (wrap64 (a0))))) else (some false)) else (some false)) else (some false)))) = some r := H
    have A5 := Aside0.mk A50
    clear A50
    by_cases c6 : (wrap64 (a1)) = 0
    · rw [if_pos c6] at H
      have c6b0 : ((wrap64 (a1)) == 0) = true := beq_iff_eq.mpr c6
      have c6b1 : ((wrap64 (a1)) != 0) = false := bne_eq_false_iff_eq.mpr c6
      clear c6
      by_cases c7 : t107 = true
      · subst c7
        have H1 : (some false) = some r := by rw [if_pos rfl] at H; exact H
        clear H
        have H := H1
        clear H1
        obtain rfl := Option.some.inj H
        go_enter Try.func7, Try.ntmps7
        go_wp2_with (first | ((with_reducible refine gate_callee (f := 10) rfl ?_); refine goesL_ (some 10) rfl rfl Try.func10 (by kernel_rfl) rfl #[] rfl (by (try simp only [List.map_toArray, List.map_cons, List.map_nil]); first | done | rfl | (simp only [List.length_drop, List.length_take]; rfl)) ?_; (with_reducible refine (capstanlaw01_awake.calls  true _ A3.out).mono ?_); rintro e w8 ⟨rfl, hb⟩; refine ⟨_, rfl, ?_⟩; have n0_ := Aside0.mk (below_step (by repeat (first | (with_reducible first | exact HB.out | apply below_alloc | apply pw_below_drewN | apply below_drew1) | exact HB.out)) hb); clear HB; have HB := n0_; clear n0_; (try clear hb); (try clear hb2); (try clear hk); (try clear hi)) | ((with_reducible refine gate_callee (f := 28) rfl ?_); refine goesL_ (some 19) rfl rfl Try.func28 (by kernel_rfl) rfl #[.int .i64 (wrap64 (a0)), .int .i64 (wrap64 (a1))] rfl (by (try simp only [List.map_toArray, List.map_cons, List.map_nil]); first | done | rfl | (simp only [List.length_drop, List.length_take]; rfl)) ?_; (with_reducible refine (fix_Div.calls (wrap64 (a0)) (wrap64 (a1)) t106 true _ A5.out).mono ?_); rintro e w9 ⟨rfl, hb⟩; refine ⟨_, rfl, ?_⟩; have n0_ := Aside0.mk (below_step (by repeat (first | (with_reducible first | exact HB.out | apply below_alloc | apply pw_below_drewN | apply below_drew1) | exact HB.out)) hb); clear HB; have HB := n0_; clear n0_; (try clear hb); (try clear hb2); (try clear hk); (try clear hi)))
        go_ret
        exact ⟨by first | rfl | (simp [errW_none, errW_some] <;> rfl) | (simp [*, errW_none, errW_some] <;> rfl), by repeat (first | (with_reducible first | exact HB.out | apply below_alloc | apply pw_below_drewN | apply below_drew1) | exact HB.out)⟩
      · replace c7 := Bool.eq_false_iff.mpr c7
        subst c7
        have H1 : (some (t106 == 0)) = some r := by rw [if_neg (show ¬ (false = true) by decide)] at H; exact H
        clear H
        have H := H1
        clear H1
        obtain rfl := Option.some.inj H
        go_enter Try.func7, Try.ntmps7
        go_wp2_with (first | ((with_reducible refine gate_callee (f := 10) rfl ?_); refine goesL_ (some 10) rfl rfl Try.func10 (by kernel_rfl) rfl #[] rfl (by (try simp only [List.map_toArray, List.map_cons, List.map_nil]); first | done | rfl | (simp only [List.length_drop, List.length_take]; rfl)) ?_; (with_reducible refine (capstanlaw01_awake.calls  true _ A3.out).mono ?_); rintro e w10 ⟨rfl, hb⟩; refine ⟨_, rfl, ?_⟩; have n0_ := Aside0.mk (below_step (by repeat (first | (with_reducible first | exact HB.out | apply below_alloc | apply pw_below_drewN | apply below_drew1) | exact HB.out)) hb); clear HB; have HB := n0_; clear n0_; (try clear hb); (try clear hb2); (try clear hk); (try clear hi)) | ((with_reducible refine gate_callee (f := 28) rfl ?_); refine goesL_ (some 19) rfl rfl Try.func28 (by kernel_rfl) rfl #[.int .i64 (wrap64 (a0)), .int .i64 (wrap64 (a1))] rfl (by (try simp only [List.map_toArray, List.map_cons, List.map_nil]); first | done | rfl | (simp only [List.length_drop, List.length_take]; rfl)) ?_; (with_reducible refine (fix_Div.calls (wrap64 (a0)) (wrap64 (a1)) t106 false _ A5.out).mono ?_); rintro e w11 ⟨rfl, hb⟩; refine ⟨_, rfl, ?_⟩; have n0_ := Aside0.mk (below_step (by repeat (first | (with_reducible first | exact HB.out | apply below_alloc | apply pw_below_drewN | apply below_drew1) | exact HB.out)) hb); clear HB; have HB := n0_; clear n0_; (try clear hb); (try clear hb2); (try clear hk); (try clear hi)))
        go_ret
        exact ⟨by first | rfl | (simp [errW_none, errW_some] <;> rfl) | (simp [*, errW_none, errW_some] <;> rfl), by repeat (first | (with_reducible first | exact HB.out | apply below_alloc | apply pw_below_drewN | apply below_drew1) | exact HB.out)⟩
    · rw [if_neg c6] at H
      have c6b0 : ((wrap64 (a1)) == 0) = false := beq_eq_false_iff_ne.mpr c6
      have c6b1 : ((wrap64 (a1)) != 0) = true := bne_iff_ne.mpr c6
      by_cases c12 : (wrap64 (a1)) < 0
      · rw [if_pos c12] at H
        have c12b0 : decide ((wrap64 (a1)) < 0) = true := decide_eq_true c12
        clear c12
        by_cases c13 : t107 = true
        · subst c13
          have H1 : (if (wrap64 (-(wrap64 ((wrap64 ((wrap64 (a0)) * 1000000)) - (wrap64 (t106 * (wrap64 (a1)))))))) ≥ 0 then (if (wrap64 (-(wrap64 ((wrap64 ((wrap64 (a0)) * 1000000)) - (wrap64 (t106 * (wrap64 (a1)))))))) < (wrap64 (-(wrap64 (a1)))) then ((fix_Scale.f (wrap64 (a0)) (wrap64 (-(wrap64 (a1)))) (wrap64 (-(wrap64 (a1))))).bind fun t108 => (some (t108 == (wrap64 (a0))))) else (some false)) else (some false)) = some r := by rw [if_pos rfl] at H; exact H
          clear H
          have H := H1
          clear H1
          by_cases c14 : (wrap64 (-(wrap64 ((wrap64 ((wrap64 (a0)) * 1000000)) - (wrap64 (t106 * (wrap64 (a1)))))))) ≥ 0
          · rw [if_pos c14] at H
            have c14b0 : decide (0 ≤ (wrap64 (-(wrap64 ((wrap64 ((wrap64 (a0)) * 1000000)) - (wrap64 (t106 * (wrap64 (a1))))))))) = true := decide_eq_true c14
            clear c14
            by_cases c15 : (wrap64 (-(wrap64 ((wrap64 ((wrap64 (a0)) * 1000000)) - (wrap64 (t106 * (wrap64 (a1)))))))) < (wrap64 (-(wrap64 (a1))))
            · rw [if_pos c15] at H
              have c15b0 : decide ((wrap64 (-(wrap64 ((wrap64 ((wrap64 (a0)) * 1000000)) - (wrap64 (t106 * (wrap64 (a1)))))))) < (wrap64 (-(wrap64 (a1))))) = true := decide_eq_true c15
              clear c15
              replace H := Option.bind_eq_some_iff.mp H
              obtain ⟨t108, A160, H⟩ := H
              replace H : (some (t108 == (wrap64 (a0)))) = some r := H
              have A16 := Aside0.mk A160
              clear A160
              obtain rfl := Option.some.inj H
              go_enter Try.func7, Try.ntmps7
              go_wp2_with (first | ((with_reducible refine gate_callee (f := 10) rfl ?_); refine goesL_ (some 10) rfl rfl Try.func10 (by kernel_rfl) rfl #[] rfl (by (try simp only [List.map_toArray, List.map_cons, List.map_nil]); first | done | rfl | (simp only [List.length_drop, List.length_take]; rfl)) ?_; (with_reducible refine (capstanlaw01_awake.calls  true _ A3.out).mono ?_); rintro e w17 ⟨rfl, hb⟩; refine ⟨_, rfl, ?_⟩; have n0_ := Aside0.mk (below_step (by repeat (first | (with_reducible first | exact HB.out | apply below_alloc | apply pw_below_drewN | apply below_drew1) | exact HB.out)) hb); clear HB; have HB := n0_; clear n0_; (try clear hb); (try clear hb2); (try clear hk); (try clear hi)) | ((with_reducible refine gate_callee (f := 28) rfl ?_); refine goesL_ (some 19) rfl rfl Try.func28 (by kernel_rfl) rfl #[.int .i64 (wrap64 (a0)), .int .i64 (wrap64 (a1))] rfl (by (try simp only [List.map_toArray, List.map_cons, List.map_nil]); first | done | rfl | (simp only [List.length_drop, List.length_take]; rfl)) ?_; (with_reducible refine (fix_Div.calls (wrap64 (a0)) (wrap64 (a1)) t106 true _ A5.out).mono ?_); rintro e w18 ⟨rfl, hb⟩; refine ⟨_, rfl, ?_⟩; have n0_ := Aside0.mk (below_step (by repeat (first | (with_reducible first | exact HB.out | apply below_alloc | apply pw_below_drewN | apply below_drew1) | exact HB.out)) hb); clear HB; have HB := n0_; clear n0_; (try clear hb); (try clear hb2); (try clear hk); (try clear hi)) | (go_at_call 31; (with_reducible refine (fix_Scale.calls (wrap64 (a0)) (wrap64 (-(wrap64 (a1)))) (wrap64 (-(wrap64 (a1)))) t108 _ A16.out).mono ?_); rintro e w19 ⟨rfl, hb⟩; have n0_ := Aside0.mk (below_step (by repeat (first | (with_reducible first | exact HB.out | apply below_alloc | apply pw_below_drewN | apply below_drew1) | exact HB.out)) hb); clear HB; have HB := n0_; clear n0_; (try clear hb); (try clear hb2); (try clear hk); (try clear hi)))
              go_ret
              exact ⟨by first | rfl | (simp [errW_none, errW_some] <;> rfl) | (simp [*, errW_none, errW_some] <;> rfl), by repeat (first | (with_reducible first | exact HB.out | apply below_alloc | apply pw_below_drewN | apply below_drew1) | exact HB.out)⟩
            · rw [if_neg c15] at H
              have c15b0 : decide ((wrap64 (-(wrap64 ((wrap64 ((wrap64 (a0)) * 1000000)) - (wrap64 (t106 * (wrap64 (a1)))))))) < (wrap64 (-(wrap64 (a1))))) = false := decide_eq_false c15
              clear c15
              obtain rfl := Option.some.inj H
              go_enter Try.func7, Try.ntmps7
              go_wp2_with (first | ((with_reducible refine gate_callee (f := 10) rfl ?_); refine goesL_ (some 10) rfl rfl Try.func10 (by kernel_rfl) rfl #[] rfl (by (try simp only [List.map_toArray, List.map_cons, List.map_nil]); first | done | rfl | (simp only [List.length_drop, List.length_take]; rfl)) ?_; (with_reducible refine (capstanlaw01_awake.calls  true _ A3.out).mono ?_); rintro e w20 ⟨rfl, hb⟩; refine ⟨_, rfl, ?_⟩; have n0_ := Aside0.mk (below_step (by repeat (first | (with_reducible first | exact HB.out | apply below_alloc | apply pw_below_drewN | apply below_drew1) | exact HB.out)) hb); clear HB; have HB := n0_; clear n0_; (try clear hb); (try clear hb2); (try clear hk); (try clear hi)) | ((with_reducible refine gate_callee (f := 28) rfl ?_); refine goesL_ (some 19) rfl rfl Try.func28 (by kernel_rfl) rfl #[.int .i64 (wrap64 (a0)), .int .i64 (wrap64 (a1))] rfl (by (try simp only [List.map_toArray, List.map_cons, List.map_nil]); first | done | rfl | (simp only [List.length_drop, List.length_take]; rfl)) ?_; (with_reducible refine (fix_Div.calls (wrap64 (a0)) (wrap64 (a1)) t106 true _ A5.out).mono ?_); rintro e w21 ⟨rfl, hb⟩; refine ⟨_, rfl, ?_⟩; have n0_ := Aside0.mk (below_step (by repeat (first | (with_reducible first | exact HB.out | apply below_alloc | apply pw_below_drewN | apply below_drew1) | exact HB.out)) hb); clear HB; have HB := n0_; clear n0_; (try clear hb); (try clear hb2); (try clear hk); (try clear hi)))
              go_ret
              exact ⟨by first | rfl | (simp [errW_none, errW_some] <;> rfl) | (simp [*, errW_none, errW_some] <;> rfl), by repeat (first | (with_reducible first | exact HB.out | apply below_alloc | apply pw_below_drewN | apply below_drew1) | exact HB.out)⟩
          · rw [if_neg c14] at H
            have c14b0 : decide (0 ≤ (wrap64 (-(wrap64 ((wrap64 ((wrap64 (a0)) * 1000000)) - (wrap64 (t106 * (wrap64 (a1))))))))) = false := decide_eq_false c14
            clear c14
            obtain rfl := Option.some.inj H
            go_enter Try.func7, Try.ntmps7
            go_wp2_with (first | ((with_reducible refine gate_callee (f := 10) rfl ?_); refine goesL_ (some 10) rfl rfl Try.func10 (by kernel_rfl) rfl #[] rfl (by (try simp only [List.map_toArray, List.map_cons, List.map_nil]); first | done | rfl | (simp only [List.length_drop, List.length_take]; rfl)) ?_; (with_reducible refine (capstanlaw01_awake.calls  true _ A3.out).mono ?_); rintro e w22 ⟨rfl, hb⟩; refine ⟨_, rfl, ?_⟩; have n0_ := Aside0.mk (below_step (by repeat (first | (with_reducible first | exact HB.out | apply below_alloc | apply pw_below_drewN | apply below_drew1) | exact HB.out)) hb); clear HB; have HB := n0_; clear n0_; (try clear hb); (try clear hb2); (try clear hk); (try clear hi)) | ((with_reducible refine gate_callee (f := 28) rfl ?_); refine goesL_ (some 19) rfl rfl Try.func28 (by kernel_rfl) rfl #[.int .i64 (wrap64 (a0)), .int .i64 (wrap64 (a1))] rfl (by (try simp only [List.map_toArray, List.map_cons, List.map_nil]); first | done | rfl | (simp only [List.length_drop, List.length_take]; rfl)) ?_; (with_reducible refine (fix_Div.calls (wrap64 (a0)) (wrap64 (a1)) t106 true _ A5.out).mono ?_); rintro e w23 ⟨rfl, hb⟩; refine ⟨_, rfl, ?_⟩; have n0_ := Aside0.mk (below_step (by repeat (first | (with_reducible first | exact HB.out | apply below_alloc | apply pw_below_drewN | apply below_drew1) | exact HB.out)) hb); clear HB; have HB := n0_; clear n0_; (try clear hb); (try clear hb2); (try clear hk); (try clear hi)))
            go_ret
            exact ⟨by first | rfl | (simp [errW_none, errW_some] <;> rfl) | (simp [*, errW_none, errW_some] <;> rfl), by repeat (first | (with_reducible first | exact HB.out | apply below_alloc | apply pw_below_drewN | apply below_drew1) | exact HB.out)⟩
        · replace c13 := Bool.eq_false_iff.mpr c13
          subst c13
          have H1 : (some false) = some r := by rw [if_neg (show ¬ (false = true) by decide)] at H; exact H
          clear H
          have H := H1
          clear H1
          obtain rfl := Option.some.inj H
          go_enter Try.func7, Try.ntmps7
          go_wp2_with (first | ((with_reducible refine gate_callee (f := 10) rfl ?_); refine goesL_ (some 10) rfl rfl Try.func10 (by kernel_rfl) rfl #[] rfl (by (try simp only [List.map_toArray, List.map_cons, List.map_nil]); first | done | rfl | (simp only [List.length_drop, List.length_take]; rfl)) ?_; (with_reducible refine (capstanlaw01_awake.calls  true _ A3.out).mono ?_); rintro e w24 ⟨rfl, hb⟩; refine ⟨_, rfl, ?_⟩; have n0_ := Aside0.mk (below_step (by repeat (first | (with_reducible first | exact HB.out | apply below_alloc | apply pw_below_drewN | apply below_drew1) | exact HB.out)) hb); clear HB; have HB := n0_; clear n0_; (try clear hb); (try clear hb2); (try clear hk); (try clear hi)) | ((with_reducible refine gate_callee (f := 28) rfl ?_); refine goesL_ (some 19) rfl rfl Try.func28 (by kernel_rfl) rfl #[.int .i64 (wrap64 (a0)), .int .i64 (wrap64 (a1))] rfl (by (try simp only [List.map_toArray, List.map_cons, List.map_nil]); first | done | rfl | (simp only [List.length_drop, List.length_take]; rfl)) ?_; (with_reducible refine (fix_Div.calls (wrap64 (a0)) (wrap64 (a1)) t106 false _ A5.out).mono ?_); rintro e w25 ⟨rfl, hb⟩; refine ⟨_, rfl, ?_⟩; have n0_ := Aside0.mk (below_step (by repeat (first | (with_reducible first | exact HB.out | apply below_alloc | apply pw_below_drewN | apply below_drew1) | exact HB.out)) hb); clear HB; have HB := n0_; clear n0_; (try clear hb); (try clear hb2); (try clear hk); (try clear hi)))
          go_ret
          exact ⟨by first | rfl | (simp [errW_none, errW_some] <;> rfl) | (simp [*, errW_none, errW_some] <;> rfl), by repeat (first | (with_reducible first | exact HB.out | apply below_alloc | apply pw_below_drewN | apply below_drew1) | exact HB.out)⟩
      · rw [if_neg c12] at H
        have c12b0 : decide ((wrap64 (a1)) < 0) = false := decide_eq_false c12
        clear c12
        by_cases c26 : t107 = true
        · subst c26
          have H1 : (if (wrap64 ((wrap64 ((wrap64 (a0)) * 1000000)) - (wrap64 (t106 * (wrap64 (a1)))))) ≥ 0 then (if (wrap64 ((wrap64 ((wrap64 (a0)) * 1000000)) - (wrap64 (t106 * (wrap64 (a1)))))) < (wrap64 (a1)) then ((fix_Scale.f (wrap64 (a0)) (wrap64 (a1)) (wrap64 (a1))).bind fun t109 => (some (t109 == (wrap64 (a0))))) else (some false)) else (some false)) = some r := by rw [if_pos rfl] at H; exact H
          clear H
          have H := H1
          clear H1
          by_cases c27 : (wrap64 ((wrap64 ((wrap64 (a0)) * 1000000)) - (wrap64 (t106 * (wrap64 (a1)))))) ≥ 0
          · rw [if_pos c27] at H
            have c27b0 : decide (0 ≤ (wrap64 ((wrap64 ((wrap64 (a0)) * 1000000)) - (wrap64 (t106 * (wrap64 (a1))))))) = true := decide_eq_true c27
            clear c27
            by_cases c28 : (wrap64 ((wrap64 ((wrap64 (a0)) * 1000000)) - (wrap64 (t106 * (wrap64 (a1)))))) < (wrap64 (a1))
            · rw [if_pos c28] at H
              have c28b0 : decide ((wrap64 ((wrap64 ((wrap64 (a0)) * 1000000)) - (wrap64 (t106 * (wrap64 (a1)))))) < (wrap64 (a1))) = true := decide_eq_true c28
              clear c28
              replace H := Option.bind_eq_some_iff.mp H
              obtain ⟨t109, A290, H⟩ := H
              replace H : (some (t109 == (wrap64 (a0)))) = some r := H
              have A29 := Aside0.mk A290
              clear A290
              obtain rfl := Option.some.inj H
              go_enter Try.func7, Try.ntmps7
              go_wp2_with (first | ((with_reducible refine gate_callee (f := 10) rfl ?_); refine goesL_ (some 10) rfl rfl Try.func10 (by kernel_rfl) rfl #[] rfl (by (try simp only [List.map_toArray, List.map_cons, List.map_nil]); first | done | rfl | (simp only [List.length_drop, List.length_take]; rfl)) ?_; (with_reducible refine (capstanlaw01_awake.calls  true _ A3.out).mono ?_); rintro e w30 ⟨rfl, hb⟩; refine ⟨_, rfl, ?_⟩; have n0_ := Aside0.mk (below_step (by repeat (first | (with_reducible first | exact HB.out | apply below_alloc | apply pw_below_drewN | apply below_drew1) | exact HB.out)) hb); clear HB; have HB := n0_; clear n0_; (try clear hb); (try clear hb2); (try clear hk); (try clear hi)) | ((with_reducible refine gate_callee (f := 28) rfl ?_); refine goesL_ (some 19) rfl rfl Try.func28 (by kernel_rfl) rfl #[.int .i64 (wrap64 (a0)), .int .i64 (wrap64 (a1))] rfl (by (try simp only [List.map_toArray, List.map_cons, List.map_nil]); first | done | rfl | (simp only [List.length_drop, List.length_take]; rfl)) ?_; (with_reducible refine (fix_Div.calls (wrap64 (a0)) (wrap64 (a1)) t106 true _ A5.out).mono ?_); rintro e w31 ⟨rfl, hb⟩; refine ⟨_, rfl, ?_⟩; have n0_ := Aside0.mk (below_step (by repeat (first | (with_reducible first | exact HB.out | apply below_alloc | apply pw_below_drewN | apply below_drew1) | exact HB.out)) hb); clear HB; have HB := n0_; clear n0_; (try clear hb); (try clear hb2); (try clear hk); (try clear hi)) | (go_at_call 31; (with_reducible refine (fix_Scale.calls (wrap64 (a0)) (wrap64 (a1)) (wrap64 (a1)) t109 _ A29.out).mono ?_); rintro e w32 ⟨rfl, hb⟩; have n0_ := Aside0.mk (below_step (by repeat (first | (with_reducible first | exact HB.out | apply below_alloc | apply pw_below_drewN | apply below_drew1) | exact HB.out)) hb); clear HB; have HB := n0_; clear n0_; (try clear hb); (try clear hb2); (try clear hk); (try clear hi)))
              go_ret
              exact ⟨by first | rfl | (simp [errW_none, errW_some] <;> rfl) | (simp [*, errW_none, errW_some] <;> rfl), by repeat (first | (with_reducible first | exact HB.out | apply below_alloc | apply pw_below_drewN | apply below_drew1) | exact HB.out)⟩
            · rw [if_neg c28] at H
              have c28b0 : decide ((wrap64 ((wrap64 ((wrap64 (a0)) * 1000000)) - (wrap64 (t106 * (wrap64 (a1)))))) < (wrap64 (a1))) = false := decide_eq_false c28
              clear c28
              obtain rfl := Option.some.inj H
              go_enter Try.func7, Try.ntmps7
              go_wp2_with (first | ((with_reducible refine gate_callee (f := 10) rfl ?_); refine goesL_ (some 10) rfl rfl Try.func10 (by kernel_rfl) rfl #[] rfl (by (try simp only [List.map_toArray, List.map_cons, List.map_nil]); first | done | rfl | (simp only [List.length_drop, List.length_take]; rfl)) ?_; (with_reducible refine (capstanlaw01_awake.calls  true _ A3.out).mono ?_); rintro e w33 ⟨rfl, hb⟩; refine ⟨_, rfl, ?_⟩; have n0_ := Aside0.mk (below_step (by repeat (first | (with_reducible first | exact HB.out | apply below_alloc | apply pw_below_drewN | apply below_drew1) | exact HB.out)) hb); clear HB; have HB := n0_; clear n0_; (try clear hb); (try clear hb2); (try clear hk); (try clear hi)) | ((with_reducible refine gate_callee (f := 28) rfl ?_); refine goesL_ (some 19) rfl rfl Try.func28 (by kernel_rfl) rfl #[.int .i64 (wrap64 (a0)), .int .i64 (wrap64 (a1))] rfl (by (try simp only [List.map_toArray, List.map_cons, List.map_nil]); first | done | rfl | (simp only [List.length_drop, List.length_take]; rfl)) ?_; (with_reducible refine (fix_Div.calls (wrap64 (a0)) (wrap64 (a1)) t106 true _ A5.out).mono ?_); rintro e w34 ⟨rfl, hb⟩; refine ⟨_, rfl, ?_⟩; have n0_ := Aside0.mk (below_step (by repeat (first | (with_reducible first | exact HB.out | apply below_alloc | apply pw_below_drewN | apply below_drew1) | exact HB.out)) hb); clear HB; have HB := n0_; clear n0_; (try clear hb); (try clear hb2); (try clear hk); (try clear hi)))
              go_ret
              exact ⟨by first | rfl | (simp [errW_none, errW_some] <;> rfl) | (simp [*, errW_none, errW_some] <;> rfl), by repeat (first | (with_reducible first | exact HB.out | apply below_alloc | apply pw_below_drewN | apply below_drew1) | exact HB.out)⟩
          · rw [if_neg c27] at H
            have c27b0 : decide (0 ≤ (wrap64 ((wrap64 ((wrap64 (a0)) * 1000000)) - (wrap64 (t106 * (wrap64 (a1))))))) = false := decide_eq_false c27
            clear c27
            obtain rfl := Option.some.inj H
            go_enter Try.func7, Try.ntmps7
            go_wp2_with (first | ((with_reducible refine gate_callee (f := 10) rfl ?_); refine goesL_ (some 10) rfl rfl Try.func10 (by kernel_rfl) rfl #[] rfl (by (try simp only [List.map_toArray, List.map_cons, List.map_nil]); first | done | rfl | (simp only [List.length_drop, List.length_take]; rfl)) ?_; (with_reducible refine (capstanlaw01_awake.calls  true _ A3.out).mono ?_); rintro e w35 ⟨rfl, hb⟩; refine ⟨_, rfl, ?_⟩; have n0_ := Aside0.mk (below_step (by repeat (first | (with_reducible first | exact HB.out | apply below_alloc | apply pw_below_drewN | apply below_drew1) | exact HB.out)) hb); clear HB; have HB := n0_; clear n0_; (try clear hb); (try clear hb2); (try clear hk); (try clear hi)) | ((with_reducible refine gate_callee (f := 28) rfl ?_); refine goesL_ (some 19) rfl rfl Try.func28 (by kernel_rfl) rfl #[.int .i64 (wrap64 (a0)), .int .i64 (wrap64 (a1))] rfl (by (try simp only [List.map_toArray, List.map_cons, List.map_nil]); first | done | rfl | (simp only [List.length_drop, List.length_take]; rfl)) ?_; (with_reducible refine (fix_Div.calls (wrap64 (a0)) (wrap64 (a1)) t106 true _ A5.out).mono ?_); rintro e w36 ⟨rfl, hb⟩; refine ⟨_, rfl, ?_⟩; have n0_ := Aside0.mk (below_step (by repeat (first | (with_reducible first | exact HB.out | apply below_alloc | apply pw_below_drewN | apply below_drew1) | exact HB.out)) hb); clear HB; have HB := n0_; clear n0_; (try clear hb); (try clear hb2); (try clear hk); (try clear hi)))
            go_ret
            exact ⟨by first | rfl | (simp [errW_none, errW_some] <;> rfl) | (simp [*, errW_none, errW_some] <;> rfl), by repeat (first | (with_reducible first | exact HB.out | apply below_alloc | apply pw_below_drewN | apply below_drew1) | exact HB.out)⟩
        · replace c26 := Bool.eq_false_iff.mpr c26
          subst c26
          have H1 : (some false) = some r := by rw [if_neg (show ¬ (false = true) by decide)] at H; exact H
          clear H
          have H := H1
          clear H1
          obtain rfl := Option.some.inj H
          go_enter Try.func7, Try.ntmps7
          go_wp2_with (first | ((with_reducible refine gate_callee (f := 10) rfl ?_); refine goesL_ (some 10) rfl rfl Try.func10 (by kernel_rfl) rfl #[] rfl (by (try simp only [List.map_toArray, List.map_cons, List.map_nil]); first | done | rfl | (simp only [List.length_drop, List.length_take]; rfl)) ?_; (with_reducible refine (capstanlaw01_awake.calls  true _ A3.out).mono ?_); rintro e w37 ⟨rfl, hb⟩; refine ⟨_, rfl, ?_⟩; have n0_ := Aside0.mk (below_step (by repeat (first | (with_reducible first | exact HB.out | apply below_alloc | apply pw_below_drewN | apply below_drew1) | exact HB.out)) hb); clear HB; have HB := n0_; clear n0_; (try clear hb); (try clear hb2); (try clear hk); (try clear hi)) | ((with_reducible refine gate_callee (f := 28) rfl ?_); refine goesL_ (some 19) rfl rfl Try.func28 (by kernel_rfl) rfl #[.int .i64 (wrap64 (a0)), .int .i64 (wrap64 (a1))] rfl (by (try simp only [List.map_toArray, List.map_cons, List.map_nil]); first | done | rfl | (simp only [List.length_drop, List.length_take]; rfl)) ?_; (with_reducible refine (fix_Div.calls (wrap64 (a0)) (wrap64 (a1)) t106 false _ A5.out).mono ?_); rintro e w38 ⟨rfl, hb⟩; refine ⟨_, rfl, ?_⟩; have n0_ := Aside0.mk (below_step (by repeat (first | (with_reducible first | exact HB.out | apply below_alloc | apply pw_below_drewN | apply below_drew1) | exact HB.out)) hb); clear HB; have HB := n0_; clear n0_; (try clear hb); (try clear hb2); (try clear hk); (try clear hi)))
          go_ret
          exact ⟨by first | rfl | (simp [errW_none, errW_some] <;> rfl) | (simp [*, errW_none, errW_some] <;> rfl), by repeat (first | (with_reducible first | exact HB.out | apply below_alloc | apply pw_below_drewN | apply below_drew1) | exact HB.out)⟩
  · replace c4 := Bool.eq_false_iff.mpr c4
    subst c4
    have H1 : (some false) = some r := by rw [if_neg (show ¬ (false = true) by decide)] at H; exact H
    clear H
    have H := H1
    clear H1
    obtain rfl := Option.some.inj H
    go_enter Try.func7, Try.ntmps7
    go_wp2_with (first | ((with_reducible refine gate_callee (f := 10) rfl ?_); refine goesL_ (some 10) rfl rfl Try.func10 (by kernel_rfl) rfl #[] rfl (by (try simp only [List.map_toArray, List.map_cons, List.map_nil]); first | done | rfl | (simp only [List.length_drop, List.length_take]; rfl)) ?_; (with_reducible refine (capstanlaw01_awake.calls  false _ A3.out).mono ?_); rintro e w39 ⟨rfl, hb⟩; refine ⟨_, rfl, ?_⟩; have n0_ := Aside0.mk (below_step (by repeat (first | (with_reducible first | exact HB.out | apply below_alloc | apply pw_below_drewN | apply below_drew1) | exact HB.out)) hb); clear HB; have HB := n0_; clear n0_; (try clear hb); (try clear hb2); (try clear hk); (try clear hi)))
    go_ret
    exact ⟨by first | rfl | (simp [errW_none, errW_some] <;> rfl) | (simp [*, errW_none, errW_some] <;> rfl), by repeat (first | (with_reducible first | exact HB.out | apply below_alloc | apply pw_below_drewN | apply below_drew1) | exact HB.out)⟩

/-- THE ONE PURE STATEMENT of capstanlaw01_FixBack: yours. -/
def capstanlaw01_FixBack.Pure : Prop := ∀ (a0 : Int) (a1 : Int), (Lit.int .i32 a0).wf = true → (Lit.int .i32 a1).wf = true → capstanlaw01_FixBack.f a0 a1 = some true
theorem capstanlaw01_FixBack.walk (P : capstanlaw01_FixBack.Pure) (a0 : Int) (a1 : Int) (w : World) (w0 : (Lit.int .i32 a0).wf = true) (w1 : (Lit.int .i32 a1).wf = true) :
    Calls Try.prog 7 #[.int .i32 a0, .int .i32 a1] w fun e w' => e = .returned (.bool true) ∧ Below w.heap.size w w' := by
  have h := P a0 a1 w0 w1
  refine (capstanlaw01_FixBack.calls a0 a1 true w h).mono ?_
  rintro e w' ⟨rfl, hd⟩
  exact ⟨rfl, hd⟩

end Go.Proofs.Ytbnmjfeacejngaa.XFixBack
