/-
  Texts of this seat, joined, less what CoreEvals does not lean on: XRef01x5, XRef01x.
-/
import Derived.Test.YtpljkcakijkklaaGreatDoorQCoreEvals9
import Derived.Test.YtpljkcakijkklaaGreatDoorQCoreEvals13
set_option linter.unusedVariables false
set_option linter.unusedSimpArgs false
set_option maxHeartbeats 8000000
set_option maxRecDepth 100000
namespace Go.Proofs.YtpljkcakijkklaaGreatDoor.Zz14
theorem z14_0 {p : Prop} (h : p := by (try simp only [List.map_toArray, List.map_cons, List.map_nil]); first | done | rfl | (simp only [List.length_drop, List.length_take]; rfl)) : p := h
theorem z14_1 {p : Prop} (h : p := by repeat (first | (with_reducible first | exact HB.out | apply below_alloc | apply pw_below_drewN | apply below_drew1) | exact HB.out)) : p := h
theorem z14_2 {p : Prop} (h : p := by (with_reducible repeat (first | apply Kd.R_alloc | apply Kd.R_drewN | apply Kd.R_drew)); exact HO316.out) : p := h
theorem z14_3 {p : Prop} (h : p := by (with_reducible repeat (first | apply Kd.R_alloc | apply Kd.R_drewN | apply Kd.R_drew)); exact HO320.out) : p := h
theorem z14_4 {p : Prop} (h : p := by (with_reducible repeat (first | apply Kd.R_alloc | apply Kd.R_drewN | apply Kd.R_drew)); exact HO324.out) : p := h
theorem z14_5 {p : Prop} (h : p := by (with_reducible repeat (first | apply Kd.R_alloc | apply Kd.R_drewN | apply Kd.R_drew)); exact HO337.out) : p := h
theorem z14_6 {p : Prop} (h : p := by (with_reducible repeat (first | apply Kd.R_alloc | apply Kd.R_drewN | apply Kd.R_drew)); exact HO345.out) : p := h
theorem z14_7 {p : Prop} (h : p := by (with_reducible repeat (first | apply Kd.R_alloc | apply Kd.R_drewN | apply Kd.R_drew)); exact HO349.out) : p := h
theorem z14_8 {p : Prop} (h : p := by (with_reducible repeat (first | apply Kd.R_alloc | apply Kd.R_drewN | apply Kd.R_drew)); exact HO358.out) : p := h
theorem z14_9 {p : Prop} (h : p := by (with_reducible repeat (first | apply Kd.R_alloc | apply Kd.R_drewN | apply Kd.R_drew)); exact HO362.out) : p := h
theorem z14_10 {p : Prop} (h : p := by (with_reducible repeat (first | apply Kd.R_alloc | apply Kd.R_drewN | apply Kd.R_drew)); exact HO372.out) : p := h
end Go.Proofs.YtpljkcakijkklaaGreatDoor.Zz14
open Go.Proofs.YtpljkcakijkklaaGreatDoor.Zz14
section
namespace Go.Proofs.YtpljkcakijkklaaGreatDoor.XRef01
open Go.RowKit Go.Proofs.YtpljkcakijkklaaGreatDoorW.PrintWords Go.Proofs.YtpljkcakijkklaaGreatDoorW.PrintLast Go.Proofs.YtpljkcakijkklaaGreatDoorW.PrintMore
attribute [local go_sem] max2_int max_two
def capstanref01_Floor.f (k : Nat) (a0 : Int) : Option (Int) := (capstanref01_Of.f k a0).bind fun bt313 => ((capstanref01_Over.f k bt313.1 bt313.2 1000000).bind fun bt317 => ((capstanref01_Of.f k 1000000).bind fun bt321 => ((capstanref01_Times.f k bt317.1 bt317.2 bt321.1 bt321.2).bind fun bt325 => ((capstanref01_Held.f k bt325.1 bt325.2).bind fun t329 => (some t329)))))
theorem capstanref01_Floor.mono : ∀ a0 k, LeO (capstanref01_Floor.f k a0) (capstanref01_Floor.f (k + 1) a0) := by
 intro a0 k
 unfold capstanref01_Floor.f
 repeat' first
   | (with_reducible exact capstanref01_Held.mono _ _ _)
   | (with_reducible exact capstanref01_Of.mono _ _)
   | (with_reducible exact capstanref01_Over.mono _ _ _ _)
   | (with_reducible exact capstanref01_Times.mono _ _ _ _ _)
   | (with_reducible exact LeO.refl _)
   | (with_reducible exact LeO.none _)
   | (with_reducible refine LeO.ite ?_ ?_)
   | (with_reducible refine LeO.bind ?_ (fun _ => ?_))
   | exact capstanref01_Held.mono _ _ _
   | exact capstanref01_Of.mono _ _
   | exact capstanref01_Over.mono _ _ _ _
   | exact capstanref01_Times.mono _ _ _ _ _
   | exact LeO.none _
   | refine LeO.ite ?_ ?_
   | refine LeO.bind ?_ (fun _ => ?_)
theorem capstanref01_Floor.calls (k : Nat) (a0 : Int) (r : Int) (w : World) (h : capstanref01_Floor.f k a0 = some r) :
  Calls Tryz.prog 55 #[.int .i64 a0] w fun e w' => e = .returned (.int .i64 r) ∧ Below w.heap.size w w' := by
 have HB := Aside0.mk (Below.refl w.heap.size w)
 have H : ((capstanref01_Of.f k a0).bind fun bt313 => ((capstanref01_Over.f k bt313.1 bt313.2 1000000).bind fun bt317 => ((capstanref01_Of.f k 1000000).bind fun bt321 => ((capstanref01_Times.f k bt317.1 bt317.2 bt321.1 bt321.2).bind fun bt325 => ((capstanref01_Held.f k bt325.1 bt325.2).bind fun t329 => (some t329)))))) = some r := h
 clear h
 replace H := Option.bind_eq_some_iff.mp H
 obtain ⟨⟨t313, t314⟩, A20, H⟩ := H
 replace H : ((capstanref01_Over.f k t313 t314 1000000).bind fun bt317 => ((capstanref01_Of.f k 1000000).bind fun bt321 => ((capstanref01_Times.f k bt317.1 bt317.2 bt321.1 bt321.2).bind fun bt325 => ((capstanref01_Held.f k bt325.1 bt325.2).bind fun t329 => (some t329))))) = some r := H
 have A2 := Aside0.mk A20
 clear A20
 replace H := Option.bind_eq_some_iff.mp H
 obtain ⟨⟨t317, t318⟩, A30, H⟩ := H
 replace H : ((capstanref01_Of.f k 1000000).bind fun bt321 => ((capstanref01_Times.f k t317 t318 bt321.1 bt321.2).bind fun bt325 => ((capstanref01_Held.f k bt325.1 bt325.2).bind fun t329 => (some t329)))) = some r := H
 have A3 := Aside0.mk A30
 clear A30
 replace H := Option.bind_eq_some_iff.mp H
 obtain ⟨⟨t321, t322⟩, A40, H⟩ := H
 replace H : ((capstanref01_Times.f k t317 t318 t321 t322).bind fun bt325 => ((capstanref01_Held.f k bt325.1 bt325.2).bind fun t329 => (some t329))) = some r := H
 have A4 := Aside0.mk A40
 clear A40
 replace H := Option.bind_eq_some_iff.mp H
 obtain ⟨⟨t325, t326⟩, A50, H⟩ := H
 replace H : ((capstanref01_Held.f k t325 t326).bind fun t329 => (some t329)) = some r := H
 have A5 := Aside0.mk A50
 clear A50
 replace H := Option.bind_eq_some_iff.mp H
 obtain ⟨t329, A60, H⟩ := H
 replace H : (some t329) = some r := H
 have A6 := Aside0.mk A60
 clear A60
 obtain rfl := Option.some.inj H
 go_enter Tryz.func55, Tryz.ntmps55
 go_wp2_with (first | ((with_reducible refine gate_callee (f := 51) rfl ?_); refine goesL_ (some 4) rfl rfl Tryz.func51 (by kernel_rfl) rfl #[.int .i64 a0] rfl z14_0 ?_; (with_reducible refine (capstanref01_Of.calls k a0 t313 t314 _ A2.out).mono ?_); rintro e w7 ⟨v315, rfl, ho0, hb⟩; refine ⟨_, rfl, ?_⟩; have n0_ := Aside0.mk (Kd.R_lower ho0 (below_size z14_1)); have n1_ := Aside0.mk (below_step z14_1 hb); clear HB; have HO316 := n0_; have HB := n1_; clear n0_ n1_; (try clear hb); (try clear hb2); (try clear hk); (try clear hi); (try clear ho0); obtain ⟨Ao8, co8, eo8⟩ := Kd.R_slice HO316.out; subst eo8) | ((with_reducible refine gate_callee (f := 92) rfl ?_); refine goesL_ (some 5) rfl rfl Tryz.func92 (by kernel_rfl) rfl #[.agg #[.bool t313, .slice Ao8 t314.length co8], .int .i64 1000000] rfl z14_0 ?_; (with_reducible refine (capstanref01_Over.calls k t313 _ _ t314 1000000 t317 t318 _ ?side1 ?side2 A3.out).mono ?_); (case side1 => repeat (first | exact (Kd.R_reads' HO316.out).2.2 | (with_reducible refine Kd.C_alloc ?_ _) | (with_reducible refine Kd.C_drewN ?_ _) | (with_reducible refine Kd.C_drew ?_))); (case side2 => exact (Kd.R_reads' HO316.out).2.1); rintro e w9 ⟨v319, rfl, ho0, hb⟩; refine ⟨_, rfl, ?_⟩; have n0_ := Aside0.mk (Kd.R_elder' z14_2 (Kd.R_base ho0) hb); have n1_ := Aside0.mk (Kd.R_lower (Kd.R_new' ho0 (Kd.R_lt z14_2)) (below_size z14_1)); have n2_ := Aside0.mk (below_step z14_1 hb); clear HO316; clear HB; have HO316 := n0_; have HO320 := n1_; have HB := n2_; clear n0_ n1_ n2_; (try clear hb); (try clear hb2); (try clear hk); (try clear hi); (try clear ho0)) | ((with_reducible refine gate_callee (f := 51) rfl ?_); refine goesL_ (some 6) rfl rfl Tryz.func51 (by kernel_rfl) rfl #[.int .i64 1000000] rfl z14_0 ?_; (with_reducible refine (capstanref01_Of.calls k 1000000 t321 t322 _ A4.out).mono ?_); rintro e w10 ⟨v323, rfl, ho0, hb⟩; refine ⟨_, rfl, ?_⟩; have n0_ := Aside0.mk (Kd.R_elder' z14_2 (Kd.R_base ho0) hb); have n1_ := Aside0.mk (Kd.R_elder' z14_3 (Kd.R_base ho0) hb); have n2_ := Aside0.mk (Kd.R_lower (Kd.R_new' (Kd.R_new' ho0 (Kd.R_lt z14_2)) (Kd.R_lt z14_3)) (below_size z14_1)); have n3_ := Aside0.mk (below_step z14_1 hb); clear HO316; clear HO320; clear HB; have HO316 := n0_; have HO320 := n1_; have HO324 := n2_; have HB := n3_; clear n0_ n1_ n2_ n3_; (try clear hb); (try clear hb2); (try clear hk); (try clear hi); (try clear ho0); obtain ⟨Ao11, co11, eo11⟩ := Kd.R_slice HO320.out; subst eo11; obtain ⟨Ao12, co12, eo12⟩ := Kd.R_slice HO324.out; subst eo12) | ((with_reducible refine gate_callee (f := 50) rfl ?_); refine goesL_ (some 7) rfl rfl Tryz.func50 (by kernel_rfl) rfl #[.agg #[.bool t317, .slice Ao11 t318.length co11], .agg #[.bool t321, .slice Ao12 t322.length co12]] rfl z14_0 ?_; (with_reducible refine (capstanref01_Times.calls k t317 _ _ t318 t321 _ _ t322 t325 t326 _ ?side1 ?side2 ?side3 ?side4 A5.out).mono ?_); (case side1 => repeat (first | exact (Kd.R_reads' HO320.out).2.2 | (with_reducible refine Kd.C_alloc ?_ _) | (with_reducible refine Kd.C_drewN ?_ _) | (with_reducible refine Kd.C_drew ?_))); (case side2 => exact (Kd.R_reads' HO320.out).2.1); (case side3 => repeat (first | exact (Kd.R_reads' HO324.out).2.2 | (with_reducible refine Kd.C_alloc ?_ _) | (with_reducible refine Kd.C_drewN ?_ _) | (with_reducible refine Kd.C_drew ?_))); (case side4 => exact (Kd.R_reads' HO324.out).2.1); rintro e w13 ⟨v327, rfl, ho0, hb⟩; refine ⟨_, rfl, ?_⟩; have n0_ := Aside0.mk (Kd.R_elder' z14_2 (Kd.R_base ho0) hb); have n1_ := Aside0.mk (Kd.R_elder' z14_3 (Kd.R_base ho0) hb); have n2_ := Aside0.mk (Kd.R_elder' z14_4 (Kd.R_base ho0) hb); have n3_ := Aside0.mk (Kd.R_lower (Kd.R_new' (Kd.R_new' (Kd.R_new' ho0 (Kd.R_lt z14_2)) (Kd.R_lt z14_3)) (Kd.R_lt z14_4)) (below_size z14_1)); have n4_ := Aside0.mk (below_step z14_1 hb); clear HO316; clear HO320; clear HO324; clear HB; have HO316 := n0_; have HO320 := n1_; have HO324 := n2_; have HO328 := n3_; have HB := n4_; clear n0_ n1_ n2_ n3_ n4_; (try clear hb); (try clear hb2); (try clear hk); (try clear hi); (try clear ho0); obtain ⟨Ao14, co14, eo14⟩ := Kd.R_slice HO328.out; subst eo14) | ((with_reducible refine gate_callee (f := 49) rfl ?_); refine goesL_ (some 8) rfl rfl Tryz.func49 (by kernel_rfl) rfl #[.agg #[.bool t325, .slice Ao14 t326.length co14]] rfl z14_0 ?_; (with_reducible refine (capstanref01_Held.calls k t325 _ _ t326 t329 _ ?side1 ?side2 A6.out).mono ?_); (case side1 => repeat (first | exact (Kd.R_reads' HO328.out).2.2 | (with_reducible refine Kd.C_alloc ?_ _) | (with_reducible refine Kd.C_drewN ?_ _) | (with_reducible refine Kd.C_drew ?_))); (case side2 => exact (Kd.R_reads' HO328.out).2.1); rintro e w15 ⟨rfl, hb⟩; refine ⟨_, rfl, ?_⟩; have n0_ := Aside0.mk (Kd.R_below z14_2 hb); have n1_ := Aside0.mk (Kd.R_below z14_3 hb); have n2_ := Aside0.mk (Kd.R_below z14_4 hb); have n3_ := Aside0.mk (Kd.R_below (by (with_reducible repeat (first | apply Kd.R_alloc | apply Kd.R_drewN | apply Kd.R_drew)); exact HO328.out) hb); have n4_ := Aside0.mk (below_step z14_1 hb); clear HO316; clear HO320; clear HO324; clear HO328; clear HB; have HO316 := n0_; have HO320 := n1_; have HO324 := n2_; have HO328 := n3_; have HB := n4_; clear n0_ n1_ n2_ n3_ n4_; (try clear hb); (try clear hb2); (try clear hk); (try clear hi)))
 go_ret
 exact ⟨by first | rfl | (simp [errW_none, errW_some] <;> rfl) | (simp [*, errW_none, errW_some] <;> rfl), by repeat (first | (with_reducible first | exact HB.out | apply below_alloc | apply pw_below_drewN | apply below_drew1) | exact HB.out)⟩
/-! ### capstanref01_Ceil: function 54 -/
def capstanref01_Ceil.f (k : Nat) (a0 : Int) : Option (Int) := (capstanref01_Of.f k a0).bind fun bt330 => ((capstanref01_Minus.f bt330.1 bt330.2).bind fun bt334 => ((capstanref01_Over.f k bt334.1 bt334.2 1000000).bind fun bt338 => ((capstanref01_Minus.f bt338.1 bt338.2).bind fun bt342 => ((capstanref01_Of.f k 1000000).bind fun bt346 => ((capstanref01_Times.f k bt342.1 bt342.2 bt346.1 bt346.2).bind fun bt350 => ((capstanref01_Held.f k bt350.1 bt350.2).bind fun t354 => (some t354)))))))
theorem capstanref01_Ceil.mono : ∀ a0 k, LeO (capstanref01_Ceil.f k a0) (capstanref01_Ceil.f (k + 1) a0) := by
 intro a0 k
 unfold capstanref01_Ceil.f
 repeat' first
   | (with_reducible exact capstanref01_Held.mono _ _ _)
   | (with_reducible exact capstanref01_Of.mono _ _)
   | (with_reducible exact capstanref01_Over.mono _ _ _ _)
   | (with_reducible exact capstanref01_Times.mono _ _ _ _ _)
   | (with_reducible exact LeO.refl _)
   | (with_reducible exact LeO.none _)
   | (with_reducible refine LeO.ite ?_ ?_)
   | (with_reducible refine LeO.bind ?_ (fun _ => ?_))
   | exact capstanref01_Held.mono _ _ _
   | exact capstanref01_Of.mono _ _
   | exact capstanref01_Over.mono _ _ _ _
   | exact capstanref01_Times.mono _ _ _ _ _
   | exact LeO.none _
   | refine LeO.ite ?_ ?_
   | refine LeO.bind ?_ (fun _ => ?_)
theorem capstanref01_Ceil.calls (k : Nat) (a0 : Int) (r : Int) (w : World) (h : capstanref01_Ceil.f k a0 = some r) :
  Calls Tryz.prog 54 #[.int .i64 a0] w fun e w' => e = .returned (.int .i64 r) ∧ Below w.heap.size w w' := by
 have HB := Aside0.mk (Below.refl w.heap.size w)
 have H : ((capstanref01_Of.f k a0).bind fun bt330 => ((capstanref01_Minus.f bt330.1 bt330.2).bind fun bt334 => ((capstanref01_Over.f k bt334.1 bt334.2 1000000).bind fun bt338 => ((capstanref01_Minus.f bt338.1 bt338.2).bind fun bt342 => ((capstanref01_Of.f k 1000000).bind fun bt346 => ((capstanref01_Times.f k bt342.1 bt342.2 bt346.1 bt346.2).bind fun bt350 => ((capstanref01_Held.f k bt350.1 bt350.2).bind fun t354 => (some t354)))))))) = some r := h
 clear h
 replace H := Option.bind_eq_some_iff.mp H
 obtain ⟨⟨t330, t331⟩, A20, H⟩ := H
 replace H : ((capstanref01_Minus.f t330 t331).bind fun bt334 => ((capstanref01_Over.f k bt334.1 bt334.2 1000000).bind fun bt338 => ((capstanref01_Minus.f bt338.1 bt338.2).bind fun bt342 => ((capstanref01_Of.f k 1000000).bind fun bt346 => ((capstanref01_Times.f k bt342.1 bt342.2 bt346.1 bt346.2).bind fun bt350 => ((capstanref01_Held.f k bt350.1 bt350.2).bind fun t354 => (some t354))))))) = some r := H
 have A2 := Aside0.mk A20
 clear A20
 replace H := Option.bind_eq_some_iff.mp H
 obtain ⟨⟨t334, t335⟩, A30, H⟩ := H
 replace H : ((capstanref01_Over.f k t334 t335 1000000).bind fun bt338 => ((capstanref01_Minus.f bt338.1 bt338.2).bind fun bt342 => ((capstanref01_Of.f k 1000000).bind fun bt346 => ((capstanref01_Times.f k bt342.1 bt342.2 bt346.1 bt346.2).bind fun bt350 => ((capstanref01_Held.f k bt350.1 bt350.2).bind fun t354 => (some t354)))))) = some r := H
 have A3 := Aside0.mk A30
 clear A30
 replace H := Option.bind_eq_some_iff.mp H
 obtain ⟨⟨t338, t339⟩, A40, H⟩ := H
 replace H : ((capstanref01_Minus.f t338 t339).bind fun bt342 => ((capstanref01_Of.f k 1000000).bind fun bt346 => ((capstanref01_Times.f k bt342.1 bt342.2 bt346.1 bt346.2).bind fun bt350 => ((capstanref01_Held.f k bt350.1 bt350.2).bind fun t354 => (some t354))))) = some r := H
 have A4 := Aside0.mk A40
 clear A40
 replace H := Option.bind_eq_some_iff.mp H
 obtain ⟨⟨t342, t343⟩, A50, H⟩ := H
 replace H : ((capstanref01_Of.f k 1000000).bind fun bt346 => ((capstanref01_Times.f k t342 t343 bt346.1 bt346.2).bind fun bt350 => ((capstanref01_Held.f k bt350.1 bt350.2).bind fun t354 => (some t354)))) = some r := H
 have A5 := Aside0.mk A50
 clear A50
 replace H := Option.bind_eq_some_iff.mp H
 obtain ⟨⟨t346, t347⟩, A60, H⟩ := H
 replace H : ((capstanref01_Times.f k t342 t343 t346 t347).bind fun bt350 => ((capstanref01_Held.f k bt350.1 bt350.2).bind fun t354 => (some t354))) = some r := H
 have A6 := Aside0.mk A60
 clear A60
 replace H := Option.bind_eq_some_iff.mp H
 obtain ⟨⟨t350, t351⟩, A70, H⟩ := H
 replace H : ((capstanref01_Held.f k t350 t351).bind fun t354 => (some t354)) = some r := H
 have A7 := Aside0.mk A70
 clear A70
 replace H := Option.bind_eq_some_iff.mp H
 obtain ⟨t354, A80, H⟩ := H
 replace H : (some t354) = some r := H
 have A8 := Aside0.mk A80
 clear A80
 obtain rfl := Option.some.inj H
 go_enter Tryz.func54, Tryz.ntmps54
 go_wp2_with (first | ((with_reducible refine gate_callee (f := 51) rfl ?_); refine goesL_ (some 4) rfl rfl Tryz.func51 (by kernel_rfl) rfl #[.int .i64 a0] rfl z14_0 ?_; (with_reducible refine (capstanref01_Of.calls k a0 t330 t331 _ A2.out).mono ?_); rintro e w9 ⟨v332, rfl, ho0, hb⟩; refine ⟨_, rfl, ?_⟩; have n0_ := Aside0.mk (Kd.R_lower ho0 (below_size z14_1)); have n1_ := Aside0.mk (below_step z14_1 hb); clear HB; have HO333 := n0_; have HB := n1_; clear n0_ n1_; (try clear hb); (try clear hb2); (try clear hk); (try clear hi); (try clear ho0); obtain ⟨Ao10, co10, eo10⟩ := Kd.R_slice HO333.out; subst eo10) | ((with_reducible refine gate_callee (f := 91) rfl ?_); refine goesL_ (some 5) rfl rfl Tryz.func91 (by kernel_rfl) rfl #[.agg #[.bool t330, .slice Ao10 t331.length co10]] rfl z14_0 ?_; (with_reducible refine (capstanref01_Minus.calls t330 (fun k_ => some k_ = (.slice Ao10 t331.length co10 : Value).ownBlock) (.slice Ao10 t331.length co10) t331 t334 t335 w _ ?side1 ?side2 A3.out).mono ?_); (case side1 => repeat (first | (with_reducible first | exact HB.out | apply below_alloc | apply pw_below_drewN | apply below_drew1) | exact HB.out)); (case side2 => exact Kd.R_tight rfl HO333.out); rintro e w11 ⟨v336, rfl, ho0, hb, hkp⟩; refine ⟨_, rfl, ?_⟩; have n0_ := Aside0.mk (Kd.R_mono (ok' := fun k_ => True) ho0 (fun k_ hk_ => trivial)); have n1_ := Aside0.mk (hb); clear HB; clear HO333; have HO337 := n0_; have HB := n1_; clear n0_ n1_; (try clear hb); (try clear hkp); (try clear ho0); obtain ⟨Ao12, co12, eo12⟩ := Kd.R_slice HO337.out; subst eo12) | ((with_reducible refine gate_callee (f := 92) rfl ?_); refine goesL_ (some 6) rfl rfl Tryz.func92 (by kernel_rfl) rfl #[.agg #[.bool t334, .slice Ao12 t335.length co12], .int .i64 1000000] rfl z14_0 ?_; (with_reducible refine (capstanref01_Over.calls k t334 _ _ t335 1000000 t338 t339 _ ?side1 ?side2 A4.out).mono ?_); (case side1 => repeat (first | exact (Kd.R_reads' HO337.out).2.2 | (with_reducible refine Kd.C_alloc ?_ _) | (with_reducible refine Kd.C_drewN ?_ _) | (with_reducible refine Kd.C_drew ?_))); (case side2 => exact (Kd.R_reads' HO337.out).2.1); rintro e w13 ⟨v340, rfl, ho0, hb⟩; refine ⟨_, rfl, ?_⟩; have n0_ := Aside0.mk (Kd.R_elder' z14_5 (Kd.R_base ho0) hb); have n1_ := Aside0.mk (Kd.R_lower (Kd.R_new' ho0 (Kd.R_lt z14_5)) (below_size z14_1)); have n2_ := Aside0.mk (below_step z14_1 hb); clear HO337; clear HB; have HO337 := n0_; have HO341 := n1_; have HB := n2_; clear n0_ n1_ n2_; (try clear hb); (try clear hb2); (try clear hk); (try clear hi); (try clear ho0); obtain ⟨Ao14, co14, eo14⟩ := Kd.R_slice HO341.out; subst eo14) | ((with_reducible refine gate_callee (f := 91) rfl ?_); refine goesL_ (some 7) rfl rfl Tryz.func91 (by kernel_rfl) rfl #[.agg #[.bool t338, .slice Ao14 t339.length co14]] rfl z14_0 ?_; (with_reducible refine (capstanref01_Minus.calls t338 (fun k_ => some k_ = (.slice Ao14 t339.length co14 : Value).ownBlock) (.slice Ao14 t339.length co14) t339 t342 t343 w _ ?side1 ?side2 A5.out).mono ?_); (case side1 => repeat (first | (with_reducible first | exact HB.out | apply below_alloc | apply pw_below_drewN | apply below_drew1) | exact HB.out)); (case side2 => exact Kd.R_tight rfl HO341.out); rintro e w15 ⟨v344, rfl, ho0, hb, hkp⟩; refine ⟨_, rfl, ?_⟩; have n0_ := Aside0.mk (Kd.R_mono (ok' := fun k_ => some k_ ≠ (v344 : Value).ownBlock) (Kd.R_keptB (HO337.out) hkp (fun k_ hk_ hs_ => (hk_.2) hs_)) (fun k_ hk_ => fun e_ => Or.elim (ho0.1 k_ e_.symm) (fun hs_ => hk_.2.1 hs_) (fun hn_ => Nat.not_le.2 hk_.2.2 hn_))); have n1_ := Aside0.mk (Kd.R_mono (ok' := fun k_ => some k_ ≠ (.slice Ao12 t335.length co12 : Value).ownBlock) ho0 (fun k_ hk_ => Or.elim hk_ (fun hs_ => fun e_ => (((HO337.out).1 k_ e_.symm).2) hs_) (fun hn_ => (Kd.fresh' (Kd.R_lt z14_5) k_ hn_)))); have n2_ := Aside0.mk (hb); clear HO337; clear HB; clear HO341; have HO337 := n0_; have HO345 := n1_; have HB := n2_; clear n0_ n1_ n2_; (try clear hb); (try clear hkp); (try clear ho0)) | ((with_reducible refine gate_callee (f := 51) rfl ?_); refine goesL_ (some 8) rfl rfl Tryz.func51 (by kernel_rfl) rfl #[.int .i64 1000000] rfl z14_0 ?_; (with_reducible refine (capstanref01_Of.calls k 1000000 t346 t347 _ A6.out).mono ?_); rintro e w16 ⟨v348, rfl, ho0, hb⟩; refine ⟨_, rfl, ?_⟩; have n0_ := Aside0.mk (Kd.R_elder' z14_5 (Kd.R_base ho0) hb); have n1_ := Aside0.mk (Kd.R_elder' z14_6 (Kd.R_base ho0) hb); have n2_ := Aside0.mk (Kd.R_lower (Kd.R_new' (Kd.R_new' ho0 (Kd.R_lt z14_5)) (Kd.R_lt z14_6)) (below_size z14_1)); have n3_ := Aside0.mk (below_step z14_1 hb); clear HO337; clear HO345; clear HB; have HO337 := n0_; have HO345 := n1_; have HO349 := n2_; have HB := n3_; clear n0_ n1_ n2_ n3_; (try clear hb); (try clear hb2); (try clear hk); (try clear hi); (try clear ho0); obtain ⟨Ao17, co17, eo17⟩ := Kd.R_slice HO345.out; subst eo17; obtain ⟨Ao18, co18, eo18⟩ := Kd.R_slice HO349.out; subst eo18) | ((with_reducible refine gate_callee (f := 50) rfl ?_); refine goesL_ (some 9) rfl rfl Tryz.func50 (by kernel_rfl) rfl #[.agg #[.bool t342, .slice Ao17 t343.length co17], .agg #[.bool t346, .slice Ao18 t347.length co18]] rfl z14_0 ?_; (with_reducible refine (capstanref01_Times.calls k t342 _ _ t343 t346 _ _ t347 t350 t351 _ ?side1 ?side2 ?side3 ?side4 A7.out).mono ?_); (case side1 => repeat (first | exact (Kd.R_reads' HO345.out).2.2 | (with_reducible refine Kd.C_alloc ?_ _) | (with_reducible refine Kd.C_drewN ?_ _) | (with_reducible refine Kd.C_drew ?_))); (case side2 => exact (Kd.R_reads' HO345.out).2.1); (case side3 => repeat (first | exact (Kd.R_reads' HO349.out).2.2 | (with_reducible refine Kd.C_alloc ?_ _) | (with_reducible refine Kd.C_drewN ?_ _) | (with_reducible refine Kd.C_drew ?_))); (case side4 => exact (Kd.R_reads' HO349.out).2.1); rintro e w19 ⟨v352, rfl, ho0, hb⟩; refine ⟨_, rfl, ?_⟩; have n0_ := Aside0.mk (Kd.R_elder' z14_5 (Kd.R_base ho0) hb); have n1_ := Aside0.mk (Kd.R_elder' z14_6 (Kd.R_base ho0) hb); have n2_ := Aside0.mk (Kd.R_elder' z14_7 (Kd.R_base ho0) hb); have n3_ := Aside0.mk (Kd.R_lower (Kd.R_new' (Kd.R_new' (Kd.R_new' ho0 (Kd.R_lt z14_5)) (Kd.R_lt z14_6)) (Kd.R_lt z14_7)) (below_size z14_1)); have n4_ := Aside0.mk (below_step z14_1 hb); clear HO337; clear HO345; clear HO349; clear HB; have HO337 := n0_; have HO345 := n1_; have HO349 := n2_; have HO353 := n3_; have HB := n4_; clear n0_ n1_ n2_ n3_ n4_; (try clear hb); (try clear hb2); (try clear hk); (try clear hi); (try clear ho0); obtain ⟨Ao20, co20, eo20⟩ := Kd.R_slice HO353.out; subst eo20) | ((with_reducible refine gate_callee (f := 49) rfl ?_); refine goesL_ (some 10) rfl rfl Tryz.func49 (by kernel_rfl) rfl #[.agg #[.bool t350, .slice Ao20 t351.length co20]] rfl z14_0 ?_; (with_reducible refine (capstanref01_Held.calls k t350 _ _ t351 t354 _ ?side1 ?side2 A8.out).mono ?_); (case side1 => repeat (first | exact (Kd.R_reads' HO353.out).2.2 | (with_reducible refine Kd.C_alloc ?_ _) | (with_reducible refine Kd.C_drewN ?_ _) | (with_reducible refine Kd.C_drew ?_))); (case side2 => exact (Kd.R_reads' HO353.out).2.1); rintro e w21 ⟨rfl, hb⟩; refine ⟨_, rfl, ?_⟩; have n0_ := Aside0.mk (Kd.R_below z14_5 hb); have n1_ := Aside0.mk (Kd.R_below z14_6 hb); have n2_ := Aside0.mk (Kd.R_below z14_7 hb); have n3_ := Aside0.mk (Kd.R_below (by (with_reducible repeat (first | apply Kd.R_alloc | apply Kd.R_drewN | apply Kd.R_drew)); exact HO353.out) hb); have n4_ := Aside0.mk (below_step z14_1 hb); clear HO337; clear HO345; clear HO349; clear HO353; clear HB; have HO337 := n0_; have HO345 := n1_; have HO349 := n2_; have HO353 := n3_; have HB := n4_; clear n0_ n1_ n2_ n3_ n4_; (try clear hb); (try clear hb2); (try clear hk); (try clear hi)))
 go_ret
 exact ⟨by first | rfl | (simp [errW_none, errW_some] <;> rfl) | (simp [*, errW_none, errW_some] <;> rfl), by repeat (first | (with_reducible first | exact HB.out | apply below_alloc | apply pw_below_drewN | apply below_drew1) | exact HB.out)⟩
/-! ### capstanref01_Whole: function 29 -/
def capstanref01_Whole.f (k : Nat) (a0 : Int) : Option (Int) := (capstanref01_Of.f k a0).bind fun bt355 => ((capstanref01_Of.f k 1000000).bind fun bt359 => ((capstanref01_Times.f k bt355.1 bt355.2 bt359.1 bt359.2).bind fun bt363 => ((capstanref01_Held.f k bt363.1 bt363.2).bind fun t367 => (some t367))))
theorem capstanref01_Whole.mono : ∀ a0 k, LeO (capstanref01_Whole.f k a0) (capstanref01_Whole.f (k + 1) a0) := by
 intro a0 k
 unfold capstanref01_Whole.f
 repeat' first
   | (with_reducible exact capstanref01_Held.mono _ _ _)
   | (with_reducible exact capstanref01_Of.mono _ _)
   | (with_reducible exact capstanref01_Times.mono _ _ _ _ _)
   | (with_reducible exact LeO.refl _)
   | (with_reducible exact LeO.none _)
   | (with_reducible refine LeO.ite ?_ ?_)
   | (with_reducible refine LeO.bind ?_ (fun _ => ?_))
   | exact capstanref01_Held.mono _ _ _
   | exact capstanref01_Of.mono _ _
   | exact capstanref01_Times.mono _ _ _ _ _
   | exact LeO.none _
   | refine LeO.ite ?_ ?_
   | refine LeO.bind ?_ (fun _ => ?_)
theorem capstanref01_Whole.calls (k : Nat) (a0 : Int) (r : Int) (w : World) (h : capstanref01_Whole.f k a0 = some r) :
  Calls Tryz.prog 29 #[.int .i64 a0] w fun e w' => e = .returned (.int .i64 r) ∧ Below w.heap.size w w' := by
 have HB := Aside0.mk (Below.refl w.heap.size w)
 have H : ((capstanref01_Of.f k a0).bind fun bt355 => ((capstanref01_Of.f k 1000000).bind fun bt359 => ((capstanref01_Times.f k bt355.1 bt355.2 bt359.1 bt359.2).bind fun bt363 => ((capstanref01_Held.f k bt363.1 bt363.2).bind fun t367 => (some t367))))) = some r := h
 clear h
 replace H := Option.bind_eq_some_iff.mp H
 obtain ⟨⟨t355, t356⟩, A20, H⟩ := H
 replace H : ((capstanref01_Of.f k 1000000).bind fun bt359 => ((capstanref01_Times.f k t355 t356 bt359.1 bt359.2).bind fun bt363 => ((capstanref01_Held.f k bt363.1 bt363.2).bind fun t367 => (some t367)))) = some r := H
 have A2 := Aside0.mk A20
 clear A20
 replace H := Option.bind_eq_some_iff.mp H
 obtain ⟨⟨t359, t360⟩, A30, H⟩ := H
 replace H : ((capstanref01_Times.f k t355 t356 t359 t360).bind fun bt363 => ((capstanref01_Held.f k bt363.1 bt363.2).bind fun t367 => (some t367))) = some r := H
 have A3 := Aside0.mk A30
 clear A30
 replace H := Option.bind_eq_some_iff.mp H
 obtain ⟨⟨t363, t364⟩, A40, H⟩ := H
 replace H : ((capstanref01_Held.f k t363 t364).bind fun t367 => (some t367)) = some r := H
 have A4 := Aside0.mk A40
 clear A40
 replace H := Option.bind_eq_some_iff.mp H
 obtain ⟨t367, A50, H⟩ := H
 replace H : (some t367) = some r := H
 have A5 := Aside0.mk A50
 clear A50
 obtain rfl := Option.some.inj H
 go_enter Tryz.func29, Tryz.ntmps29
 go_wp2_with (first | ((with_reducible refine gate_callee (f := 51) rfl ?_); refine goesL_ (some 4) rfl rfl Tryz.func51 (by kernel_rfl) rfl #[.int .i64 a0] rfl z14_0 ?_; (with_reducible refine (capstanref01_Of.calls k a0 t355 t356 _ A2.out).mono ?_); rintro e w6 ⟨v357, rfl, ho0, hb⟩; refine ⟨_, rfl, ?_⟩; have n0_ := Aside0.mk (Kd.R_lower ho0 (below_size z14_1)); have n1_ := Aside0.mk (below_step z14_1 hb); clear HB; have HO358 := n0_; have HB := n1_; clear n0_ n1_; (try clear hb); (try clear hb2); (try clear hk); (try clear hi); (try clear ho0)) | ((with_reducible refine gate_callee (f := 51) rfl ?_); refine goesL_ (some 5) rfl rfl Tryz.func51 (by kernel_rfl) rfl #[.int .i64 1000000] rfl z14_0 ?_; (with_reducible refine (capstanref01_Of.calls k 1000000 t359 t360 _ A3.out).mono ?_); rintro e w7 ⟨v361, rfl, ho0, hb⟩; refine ⟨_, rfl, ?_⟩; have n0_ := Aside0.mk (Kd.R_elder' z14_8 (Kd.R_base ho0) hb); have n1_ := Aside0.mk (Kd.R_lower (Kd.R_new' ho0 (Kd.R_lt z14_8)) (below_size z14_1)); have n2_ := Aside0.mk (below_step z14_1 hb); clear HO358; clear HB; have HO358 := n0_; have HO362 := n1_; have HB := n2_; clear n0_ n1_ n2_; (try clear hb); (try clear hb2); (try clear hk); (try clear hi); (try clear ho0); obtain ⟨Ao8, co8, eo8⟩ := Kd.R_slice HO358.out; subst eo8; obtain ⟨Ao9, co9, eo9⟩ := Kd.R_slice HO362.out; subst eo9) | ((with_reducible refine gate_callee (f := 50) rfl ?_); refine goesL_ (some 6) rfl rfl Tryz.func50 (by kernel_rfl) rfl #[.agg #[.bool t355, .slice Ao8 t356.length co8], .agg #[.bool t359, .slice Ao9 t360.length co9]] rfl z14_0 ?_; (with_reducible refine (capstanref01_Times.calls k t355 _ _ t356 t359 _ _ t360 t363 t364 _ ?side1 ?side2 ?side3 ?side4 A4.out).mono ?_); (case side1 => repeat (first | exact (Kd.R_reads' HO358.out).2.2 | (with_reducible refine Kd.C_alloc ?_ _) | (with_reducible refine Kd.C_drewN ?_ _) | (with_reducible refine Kd.C_drew ?_))); (case side2 => exact (Kd.R_reads' HO358.out).2.1); (case side3 => repeat (first | exact (Kd.R_reads' HO362.out).2.2 | (with_reducible refine Kd.C_alloc ?_ _) | (with_reducible refine Kd.C_drewN ?_ _) | (with_reducible refine Kd.C_drew ?_))); (case side4 => exact (Kd.R_reads' HO362.out).2.1); rintro e w10 ⟨v365, rfl, ho0, hb⟩; refine ⟨_, rfl, ?_⟩; have n0_ := Aside0.mk (Kd.R_elder' z14_8 (Kd.R_base ho0) hb); have n1_ := Aside0.mk (Kd.R_elder' z14_9 (Kd.R_base ho0) hb); have n2_ := Aside0.mk (Kd.R_lower (Kd.R_new' (Kd.R_new' ho0 (Kd.R_lt z14_8)) (Kd.R_lt z14_9)) (below_size z14_1)); have n3_ := Aside0.mk (below_step z14_1 hb); clear HO358; clear HO362; clear HB; have HO358 := n0_; have HO362 := n1_; have HO366 := n2_; have HB := n3_; clear n0_ n1_ n2_ n3_; (try clear hb); (try clear hb2); (try clear hk); (try clear hi); (try clear ho0); obtain ⟨Ao11, co11, eo11⟩ := Kd.R_slice HO366.out; subst eo11) | ((with_reducible refine gate_callee (f := 49) rfl ?_); refine goesL_ (some 7) rfl rfl Tryz.func49 (by kernel_rfl) rfl #[.agg #[.bool t363, .slice Ao11 t364.length co11]] rfl z14_0 ?_; (with_reducible refine (capstanref01_Held.calls k t363 _ _ t364 t367 _ ?side1 ?side2 A5.out).mono ?_); (case side1 => repeat (first | exact (Kd.R_reads' HO366.out).2.2 | (with_reducible refine Kd.C_alloc ?_ _) | (with_reducible refine Kd.C_drewN ?_ _) | (with_reducible refine Kd.C_drew ?_))); (case side2 => exact (Kd.R_reads' HO366.out).2.1); rintro e w12 ⟨rfl, hb⟩; refine ⟨_, rfl, ?_⟩; have n0_ := Aside0.mk (Kd.R_below z14_8 hb); have n1_ := Aside0.mk (Kd.R_below z14_9 hb); have n2_ := Aside0.mk (Kd.R_below (by (with_reducible repeat (first | apply Kd.R_alloc | apply Kd.R_drewN | apply Kd.R_drew)); exact HO366.out) hb); have n3_ := Aside0.mk (below_step z14_1 hb); clear HO358; clear HO362; clear HO366; clear HB; have HO358 := n0_; have HO362 := n1_; have HO366 := n2_; have HB := n3_; clear n0_ n1_ n2_ n3_; (try clear hb); (try clear hb2); (try clear hk); (try clear hi)))
 go_ret
 exact ⟨by first | rfl | (simp [errW_none, errW_some] <;> rfl) | (simp [*, errW_none, errW_some] <;> rfl), by repeat (first | (with_reducible first | exact HB.out | apply below_alloc | apply pw_below_drewN | apply below_drew1) | exact HB.out)⟩
/-! ### capstanref01_Count: function 77 -/
def capstanref01_Count.f (k : Nat) (a0 : Int) : Option (Int) := (capstanref01_Ceil.f k a0).bind fun t368 => ((capstanref01_Of.f k t368).bind fun bt369 => ((capstanref01_Over.f k bt369.1 bt369.2 1000000).bind fun bt373 => ((capstanref01_Held.f k bt373.1 bt373.2).bind fun t377 => (some t377))))
theorem capstanref01_Count.mono : ∀ a0 k, LeO (capstanref01_Count.f k a0) (capstanref01_Count.f (k + 1) a0) := by
 intro a0 k
 unfold capstanref01_Count.f
 repeat' first
   | (with_reducible exact capstanref01_Ceil.mono _ _)
   | (with_reducible exact capstanref01_Held.mono _ _ _)
   | (with_reducible exact capstanref01_Of.mono _ _)
   | (with_reducible exact capstanref01_Over.mono _ _ _ _)
   | (with_reducible exact LeO.refl _)
   | (with_reducible exact LeO.none _)
   | (with_reducible refine LeO.ite ?_ ?_)
   | (with_reducible refine LeO.bind ?_ (fun _ => ?_))
   | exact capstanref01_Ceil.mono _ _
   | exact capstanref01_Held.mono _ _ _
   | exact capstanref01_Of.mono _ _
   | exact capstanref01_Over.mono _ _ _ _
   | exact LeO.none _
   | refine LeO.ite ?_ ?_
   | refine LeO.bind ?_ (fun _ => ?_)
theorem capstanref01_Count.calls (k : Nat) (a0 : Int) (r : Int) (w : World) (h : capstanref01_Count.f k a0 = some r) :
  Calls Tryz.prog 77 #[.int .i64 a0] w fun e w' => e = .returned (.int .i64 r) ∧ Below w.heap.size w w' := by
 have HB := Aside0.mk (Below.refl w.heap.size w)
 have H : ((capstanref01_Ceil.f k a0).bind fun t368 => ((capstanref01_Of.f k t368).bind fun bt369 => ((capstanref01_Over.f k bt369.1 bt369.2 1000000).bind fun bt373 => ((capstanref01_Held.f k bt373.1 bt373.2).bind fun t377 => (some t377))))) = some r := h
 clear h
 replace H := Option.bind_eq_some_iff.mp H
 obtain ⟨t368, A20, H⟩ := H
 replace H : ((capstanref01_Of.f k t368).bind fun bt369 => ((capstanref01_Over.f k bt369.1 bt369.2 1000000).bind fun bt373 => ((capstanref01_Held.f k bt373.1 bt373.2).bind fun t377 => (some t377)))) = some r := H
 have A2 := Aside0.mk A20
 clear A20
 replace H := Option.bind_eq_some_iff.mp H
 obtain ⟨⟨t369, t370⟩, A30, H⟩ := H
 replace H : ((capstanref01_Over.f k t369 t370 1000000).bind fun bt373 => ((capstanref01_Held.f k bt373.1 bt373.2).bind fun t377 => (some t377))) = some r := H
 have A3 := Aside0.mk A30
 clear A30
 replace H := Option.bind_eq_some_iff.mp H
 obtain ⟨⟨t373, t374⟩, A40, H⟩ := H
 replace H : ((capstanref01_Held.f k t373 t374).bind fun t377 => (some t377)) = some r := H
 have A4 := Aside0.mk A40
 clear A40
 replace H := Option.bind_eq_some_iff.mp H
 obtain ⟨t377, A50, H⟩ := H
 replace H : (some t377) = some r := H
 have A5 := Aside0.mk A50
 clear A50
 obtain rfl := Option.some.inj H
 go_enter Tryz.func77, Tryz.ntmps77
 go_wp2_with (first | ((with_reducible refine gate_callee (f := 54) rfl ?_); refine goesL_ (some 4) rfl rfl Tryz.func54 (by kernel_rfl) rfl #[.int .i64 a0] rfl z14_0 ?_; (with_reducible refine (capstanref01_Ceil.calls k a0 t368 _ A2.out).mono ?_); rintro e w6 ⟨rfl, hb⟩; refine ⟨_, rfl, ?_⟩; have n0_ := Aside0.mk (below_step z14_1 hb); clear HB; have HB := n0_; clear n0_; (try clear hb); (try clear hb2); (try clear hk); (try clear hi)) | ((with_reducible refine gate_callee (f := 51) rfl ?_); refine goesL_ (some 5) rfl rfl Tryz.func51 (by kernel_rfl) rfl #[.int .i64 t368] rfl z14_0 ?_; (with_reducible refine (capstanref01_Of.calls k t368 t369 t370 _ A3.out).mono ?_); rintro e w7 ⟨v371, rfl, ho0, hb⟩; refine ⟨_, rfl, ?_⟩; have n0_ := Aside0.mk (Kd.R_lower ho0 (below_size z14_1)); have n1_ := Aside0.mk (below_step z14_1 hb); clear HB; have HO372 := n0_; have HB := n1_; clear n0_ n1_; (try clear hb); (try clear hb2); (try clear hk); (try clear hi); (try clear ho0); obtain ⟨Ao8, co8, eo8⟩ := Kd.R_slice HO372.out; subst eo8) | ((with_reducible refine gate_callee (f := 92) rfl ?_); refine goesL_ (some 6) rfl rfl Tryz.func92 (by kernel_rfl) rfl #[.agg #[.bool t369, .slice Ao8 t370.length co8], .int .i64 1000000] rfl z14_0 ?_; (with_reducible refine (capstanref01_Over.calls k t369 _ _ t370 1000000 t373 t374 _ ?side1 ?side2 A4.out).mono ?_); (case side1 => repeat (first | exact (Kd.R_reads' HO372.out).2.2 | (with_reducible refine Kd.C_alloc ?_ _) | (with_reducible refine Kd.C_drewN ?_ _) | (with_reducible refine Kd.C_drew ?_))); (case side2 => exact (Kd.R_reads' HO372.out).2.1); rintro e w9 ⟨v375, rfl, ho0, hb⟩; refine ⟨_, rfl, ?_⟩; have n0_ := Aside0.mk (Kd.R_elder' z14_10 (Kd.R_base ho0) hb); have n1_ := Aside0.mk (Kd.R_lower (Kd.R_new' ho0 (Kd.R_lt z14_10)) (below_size z14_1)); have n2_ := Aside0.mk (below_step z14_1 hb); clear HO372; clear HB; have HO372 := n0_; have HO376 := n1_; have HB := n2_; clear n0_ n1_ n2_; (try clear hb); (try clear hb2); (try clear hk); (try clear hi); (try clear ho0); obtain ⟨Ao10, co10, eo10⟩ := Kd.R_slice HO376.out; subst eo10) | ((with_reducible refine gate_callee (f := 49) rfl ?_); refine goesL_ (some 7) rfl rfl Tryz.func49 (by kernel_rfl) rfl #[.agg #[.bool t373, .slice Ao10 t374.length co10]] rfl z14_0 ?_; (with_reducible refine (capstanref01_Held.calls k t373 _ _ t374 t377 _ ?side1 ?side2 A5.out).mono ?_); (case side1 => repeat (first | exact (Kd.R_reads' HO376.out).2.2 | (with_reducible refine Kd.C_alloc ?_ _) | (with_reducible refine Kd.C_drewN ?_ _) | (with_reducible refine Kd.C_drew ?_))); (case side2 => exact (Kd.R_reads' HO376.out).2.1); rintro e w11 ⟨rfl, hb⟩; refine ⟨_, rfl, ?_⟩; have n0_ := Aside0.mk (Kd.R_below z14_10 hb); have n1_ := Aside0.mk (Kd.R_below (by (with_reducible repeat (first | apply Kd.R_alloc | apply Kd.R_drewN | apply Kd.R_drew)); exact HO376.out) hb); have n2_ := Aside0.mk (below_step z14_1 hb); clear HO372; clear HO376; clear HB; have HO372 := n0_; have HO376 := n1_; have HB := n2_; clear n0_ n1_ n2_; (try clear hb); (try clear hb2); (try clear hk); (try clear hi)))
 go_ret
 exact ⟨by first | rfl | (simp [errW_none, errW_some] <;> rfl) | (simp [*, errW_none, errW_some] <;> rfl), by repeat (first | (with_reducible first | exact HB.out | apply below_alloc | apply pw_below_drewN | apply below_drew1) | exact HB.out)⟩

end Go.Proofs.YtpljkcakijkklaaGreatDoor.XRef01

end
section
namespace Go.Proofs.YtpljkcakijkklaaGreatDoor.XRef01
open Go.RowKit Go.Proofs.YtpljkcakijkklaaGreatDoorW.PrintWords Go.Proofs.YtpljkcakijkklaaGreatDoorW.PrintLast Go.Proofs.YtpljkcakijkklaaGreatDoorW.PrintMore
attribute [local go_sem] max2_int max_two
end Go.Proofs.YtpljkcakijkklaaGreatDoor.XRef01

end
