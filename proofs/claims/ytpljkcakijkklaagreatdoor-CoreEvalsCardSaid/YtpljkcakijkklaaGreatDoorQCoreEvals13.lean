/-
  Texts of this seat, joined, less what CoreEvals does not lean on: XRef01x3, XRef01x4.
-/
import Derived.Test.YtpljkcakijkklaaGreatDoorQCoreEvals9
set_option linter.unusedVariables false
set_option linter.unusedSimpArgs false
set_option maxHeartbeats 8000000
set_option maxRecDepth 100000
namespace Go.Proofs.YtpljkcakijkklaaGreatDoor.Zz13
theorem z13_0 {p : Prop} (h : p := by (with_reducible repeat (first | apply Kd.R_alloc | apply Kd.R_drewN | apply Kd.R_drew)); exact (Kd.R_mono (Kd.R_far (p := ⟨gb268, 1, none⟩) (Kd.R_far (p := ⟨gb268, 0, none⟩) (Kd.R_types HO267.out BK268.out (by decide)) (fun _ hk => hk.2) (.bool t264)) (fun _ hk => hk.2) (.slice Ao19 t265.length co19)) (fun _ h_ => h_.1))) : p := h
theorem z13_1 {p : Prop} (h : p := by (with_reducible repeat (first | apply Kd.R_alloc | apply Kd.R_drewN | apply Kd.R_drew)); exact (Kd.R_mono (Kd.R_far (p := ⟨gb268, 1, none⟩) (Kd.R_far (p := ⟨gb268, 0, none⟩) (Kd.R_types HO259.out BK268.out (by decide)) (fun _ hk => hk.2) (.bool t264)) (fun _ hk => hk.2) (.slice Ao19 t265.length co19)) (fun _ h_ => h_.1))) : p := h
theorem z13_2 {p : Prop} (h : p := by (with_reducible repeat (first | apply Kd.R_alloc | apply Kd.R_drewN | apply Kd.R_drew)); exact (Kd.R_mono (Kd.R_far (p := ⟨gb268, 1, none⟩) (Kd.R_far (p := ⟨gb268, 0, none⟩) (Kd.R_types HO263.out BK268.out (by decide)) (fun _ hk => hk.2) (.bool t264)) (fun _ hk => hk.2) (.slice Ao19 t265.length co19)) (fun _ h_ => h_.1))) : p := h
theorem z13_3 {p : Prop} (h : p := by (with_reducible repeat (first | apply Kd.R_alloc | apply Kd.R_drewN | apply Kd.R_drew)); exact (Kd.R_mono (Kd.R_far (p := ⟨gb268, 1, none⟩) (Kd.R_far (p := ⟨gb268, 0, none⟩) (Kd.R_types HO267.out BK268.out (by decide)) (fun _ hk => hk.2) (.bool t264)) (fun _ hk => hk.2) (.slice Ao55 t265.length co55)) (fun _ h_ => h_.1))) : p := h
theorem z13_4 {p : Prop} (h : p := by (with_reducible repeat (first | apply Kd.R_alloc | apply Kd.R_drewN | apply Kd.R_drew)); exact (Kd.R_mono (Kd.R_far (p := ⟨gb268, 1, none⟩) (Kd.R_far (p := ⟨gb268, 0, none⟩) (Kd.R_types HO259.out BK268.out (by decide)) (fun _ hk => hk.2) (.bool t264)) (fun _ hk => hk.2) (.slice Ao55 t265.length co55)) (fun _ h_ => h_.1))) : p := h
theorem z13_5 {p : Prop} (h : p := by (with_reducible repeat (first | apply Kd.R_alloc | apply Kd.R_drewN | apply Kd.R_drew)); exact (Kd.R_mono (Kd.R_far (p := ⟨gb268, 1, none⟩) (Kd.R_far (p := ⟨gb268, 0, none⟩) (Kd.R_types HO263.out BK268.out (by decide)) (fun _ hk => hk.2) (.bool t264)) (fun _ hk => hk.2) (.slice Ao55 t265.length co55)) (fun _ h_ => h_.1))) : p := h
theorem z13_6 {p : Prop} (h : p := by (try simp only [List.map_toArray, List.map_cons, List.map_nil]); first | done | rfl | (simp only [List.length_drop, List.length_take]; rfl)) : p := h
theorem z13_7 {p : Prop} (h : p := by repeat (first | (with_reducible first | exact HB.out | apply below_alloc | apply pw_below_drewN | apply below_drew1) | exact HB.out)) : p := h
theorem z13_8 {p : Prop} (h : p := by (with_reducible repeat (first | apply Kd.R_alloc | apply Kd.R_drewN | apply Kd.R_drew)); exact HO157.out) : p := h
theorem z13_9 {p : Prop} (h : p := by (with_reducible repeat (first | apply Kd.R_alloc | apply Kd.R_drewN | apply Kd.R_drew)); exact HO161.out) : p := h
theorem z13_10 {p : Prop} (h : p := by (with_reducible repeat (first | apply Kd.R_alloc | apply Kd.R_drewN | apply Kd.R_drew)); exact HO0_1.out) : p := h
theorem z13_11 {p : Prop} (h : p := by (with_reducible repeat (first | apply Kd.R_alloc | apply Kd.R_drewN | apply Kd.R_drew)); exact HO172.out) : p := h
theorem z13_12 {p : Prop} (h : p := by (with_reducible repeat (first | apply Kd.R_alloc | apply Kd.R_drewN | apply Kd.R_drew)); exact HO180.out) : p := h
theorem z13_13 {p : Prop} (h : p := by (with_reducible repeat (first | apply Kd.R_alloc | apply Kd.R_drewN | apply Kd.R_drew)); exact HO226.out) : p := h
theorem z13_14 {p : Prop} (h : p := by (with_reducible repeat (first | apply Kd.R_alloc | apply Kd.R_drewN | apply Kd.R_drew)); exact HO229.out) : p := h
theorem z13_15 {p : Prop} (h : p := by (with_reducible repeat (first | apply Kd.R_alloc | apply Kd.R_drewN | apply Kd.R_drew)); exact HO236.out) : p := h
theorem z13_16 {p : Prop} (h : p := by (with_reducible repeat (first | apply Kd.R_alloc | apply Kd.R_drewN | apply Kd.R_drew)); exact HO240.out) : p := h
theorem z13_17 {p : Prop} (h : p := by (with_reducible repeat (first | apply Kd.R_alloc | apply Kd.R_drewN | apply Kd.R_drew)); exact HO244.out) : p := h
theorem z13_18 {p : Prop} (h : p := by (with_reducible repeat (first | apply Kd.R_alloc | apply Kd.R_drewN | apply Kd.R_drew)); exact HO259.out) : p := h
theorem z13_19 {p : Prop} (h : p := by (with_reducible repeat (first | apply Kd.R_alloc | apply Kd.R_drewN | apply Kd.R_drew)); exact HO263.out) : p := h
theorem z13_20 {p : Prop} (h : p := by (with_reducible repeat (first | apply Kd.R_alloc | apply Kd.R_drewN | apply Kd.R_drew)); exact HO267.out) : p := h
theorem z13_21 {p : Prop} (h : p := by (with_reducible repeat (first | apply Kd.R_alloc | apply Kd.R_drewN | apply Kd.R_drew)); exact HO276.out) : p := h
theorem z13_22 {p : Prop} (h : p := by (with_reducible repeat (first | apply Kd.R_alloc | apply Kd.R_drewN | apply Kd.R_drew)); exact HO285.out) : p := h
theorem z13_23 {p : Prop} (h : p := by (with_reducible repeat (first | apply Kd.R_alloc | apply Kd.R_drewN | apply Kd.R_drew)); exact HO299.out) : p := h
theorem z13_24 {p : Prop} (h : p := by (with_reducible repeat (first | apply Kd.R_alloc | apply Kd.R_drewN | apply Kd.R_drew)); exact HO303.out) : p := h
theorem z13_25 {p : Prop} (h : p := by (with_reducible repeat (first | apply Kd.R_alloc | apply Kd.R_drewN | apply Kd.R_drew)); exact HO307.out) : p := h
theorem z13_26 {p : Prop} (h : p := by first | rfl | (simp; done) | (simp only [← hji18] <;> (first | rfl | simp)) | (simp [*]; done)) : p := h
theorem z13_27 {p : Prop} (h : p := by first | (with_reducible assumption) | assumption) : p := h
theorem z13_28 {p : Prop} (h : p := by first | rfl | (simp; done) | (simp [*]; done)) : p := h
end Go.Proofs.YtpljkcakijkklaaGreatDoor.Zz13
open Go.Proofs.YtpljkcakijkklaaGreatDoor.Zz13
section
namespace Go.Proofs.YtpljkcakijkklaaGreatDoor.XRef01
open Go.RowKit Go.Proofs.YtpljkcakijkklaaGreatDoorW.PrintWords Go.Proofs.YtpljkcakijkklaaGreatDoorW.PrintLast Go.Proofs.YtpljkcakijkklaaGreatDoorW.PrintMore
attribute [local go_sem] max2_int max_two
def capstanref01_Add.f (k : Nat) (a0 : Int) (a1 : Int) : Option (Int) := (capstanref01_Of.f k a0).bind fun bt154 => ((capstanref01_Of.f k a1).bind fun bt158 => ((capstanref01_Plus.f k bt154.1 bt154.2 bt158.1 bt158.2).bind fun bt162 => ((capstanref01_Held.f k bt162.1 bt162.2).bind fun t166 => (some t166))))
theorem capstanref01_Add.mono : ∀ a0 a1 k, LeO (capstanref01_Add.f k a0 a1) (capstanref01_Add.f (k + 1) a0 a1) := by
 intro a0 a1 k
 unfold capstanref01_Add.f
 repeat' first
   | (with_reducible exact capstanref01_Held.mono _ _ _)
   | (with_reducible exact capstanref01_Of.mono _ _)
   | (with_reducible exact capstanref01_Plus.mono _ _ _ _ _)
   | (with_reducible exact LeO.refl _)
   | (with_reducible exact LeO.none _)
   | (with_reducible refine LeO.ite ?_ ?_)
   | (with_reducible refine LeO.bind ?_ (fun _ => ?_))
   | exact capstanref01_Held.mono _ _ _
   | exact capstanref01_Of.mono _ _
   | exact capstanref01_Plus.mono _ _ _ _ _
   | exact LeO.none _
   | refine LeO.ite ?_ ?_
   | refine LeO.bind ?_ (fun _ => ?_)
theorem capstanref01_Add.calls (k : Nat) (a0 : Int) (a1 : Int) (r : Int) (w : World) (h : capstanref01_Add.f k a0 a1 = some r) :
  Calls Tryz.prog 57 #[.int .i64 a0, .int .i64 a1] w fun e w' => e = .returned (.int .i64 r) ∧ Below w.heap.size w w' := by
 have HB := Aside0.mk (Below.refl w.heap.size w)
 have H : ((capstanref01_Of.f k a0).bind fun bt154 => ((capstanref01_Of.f k a1).bind fun bt158 => ((capstanref01_Plus.f k bt154.1 bt154.2 bt158.1 bt158.2).bind fun bt162 => ((capstanref01_Held.f k bt162.1 bt162.2).bind fun t166 => (some t166))))) = some r := h
 clear h
 replace H := Option.bind_eq_some_iff.mp H
 obtain ⟨⟨t154, t155⟩, A30, H⟩ := H
 replace H : ((capstanref01_Of.f k a1).bind fun bt158 => ((capstanref01_Plus.f k t154 t155 bt158.1 bt158.2).bind fun bt162 => ((capstanref01_Held.f k bt162.1 bt162.2).bind fun t166 => (some t166)))) = some r := H
 have A3 := Aside0.mk A30
 clear A30
 replace H := Option.bind_eq_some_iff.mp H
 obtain ⟨⟨t158, t159⟩, A40, H⟩ := H
 replace H : ((capstanref01_Plus.f k t154 t155 t158 t159).bind fun bt162 => ((capstanref01_Held.f k bt162.1 bt162.2).bind fun t166 => (some t166))) = some r := H
 have A4 := Aside0.mk A40
 clear A40
 replace H := Option.bind_eq_some_iff.mp H
 obtain ⟨⟨t162, t163⟩, A50, H⟩ := H
 replace H : ((capstanref01_Held.f k t162 t163).bind fun t166 => (some t166)) = some r := H
 have A5 := Aside0.mk A50
 clear A50
 replace H := Option.bind_eq_some_iff.mp H
 obtain ⟨t166, A60, H⟩ := H
 replace H : (some t166) = some r := H
 have A6 := Aside0.mk A60
 clear A60
 obtain rfl := Option.some.inj H
 go_enter Tryz.func57, Tryz.ntmps57
 go_wp2_with (first | ((with_reducible refine gate_callee (f := 51) rfl ?_); refine goesL_ (some 6) rfl rfl Tryz.func51 (by kernel_rfl) rfl #[.int .i64 a0] rfl z13_6 ?_; (with_reducible refine (capstanref01_Of.calls k a0 t154 t155 _ A3.out).mono ?_); rintro e w7 ⟨v156, rfl, ho0, hb⟩; refine ⟨_, rfl, ?_⟩; have n0_ := Aside0.mk (Kd.R_lower ho0 (below_size z13_7)); have n1_ := Aside0.mk (below_step z13_7 hb); clear HB; have HO157 := n0_; have HB := n1_; clear n0_ n1_; (try clear hb); (try clear hb2); (try clear hk); (try clear hi); (try clear ho0)) | ((with_reducible refine gate_callee (f := 51) rfl ?_); refine goesL_ (some 8) rfl rfl Tryz.func51 (by kernel_rfl) rfl #[.int .i64 a1] rfl z13_6 ?_; (with_reducible refine (capstanref01_Of.calls k a1 t158 t159 _ A4.out).mono ?_); rintro e w8 ⟨v160, rfl, ho0, hb⟩; refine ⟨_, rfl, ?_⟩; have n0_ := Aside0.mk (Kd.R_elder' z13_8 (Kd.R_base ho0) hb); have n1_ := Aside0.mk (Kd.R_lower (Kd.R_new' ho0 (Kd.R_lt z13_8)) (below_size z13_7)); have n2_ := Aside0.mk (below_step z13_7 hb); clear HO157; clear HB; have HO157 := n0_; have HO161 := n1_; have HB := n2_; clear n0_ n1_ n2_; (try clear hb); (try clear hb2); (try clear hk); (try clear hi); (try clear ho0); obtain ⟨Ao9, co9, eo9⟩ := Kd.R_slice HO157.out; subst eo9; obtain ⟨Ao10, co10, eo10⟩ := Kd.R_slice HO161.out; subst eo10) | ((with_reducible refine gate_callee (f := 93) rfl ?_); refine goesL_ (some 9) rfl rfl Tryz.func93 (by kernel_rfl) rfl #[.agg #[.bool t154, .slice Ao9 t155.length co9], .agg #[.bool t158, .slice Ao10 t159.length co10]] rfl z13_6 ?_; (with_reducible refine (capstanref01_Plus.calls k t154 _ _ t155 t158 _ _ t159 t162 t163 _ ?side1 ?side2 ?side3 ?side4 A5.out).mono ?_); (case side1 => repeat (first | exact (Kd.R_reads' HO157.out).2.2 | (with_reducible refine Kd.C_alloc ?_ _) | (with_reducible refine Kd.C_drewN ?_ _) | (with_reducible refine Kd.C_drew ?_))); (case side2 => exact (Kd.R_reads' HO157.out).2.1); (case side3 => repeat (first | exact (Kd.R_reads' HO161.out).2.2 | (with_reducible refine Kd.C_alloc ?_ _) | (with_reducible refine Kd.C_drewN ?_ _) | (with_reducible refine Kd.C_drew ?_))); (case side4 => exact (Kd.R_reads' HO161.out).2.1); rintro e w11 ⟨v164, rfl, ho0, hb⟩; refine ⟨_, rfl, ?_⟩; have n0_ := Aside0.mk (Kd.R_elder' z13_8 (Kd.R_base ho0) hb); have n1_ := Aside0.mk (Kd.R_elder' z13_9 (Kd.R_base ho0) hb); have n2_ := Aside0.mk (Kd.R_lower (Kd.R_new' (Kd.R_new' ho0 (Kd.R_lt z13_8)) (Kd.R_lt z13_9)) (below_size z13_7)); have n3_ := Aside0.mk (below_step z13_7 hb); clear HO157; clear HO161; clear HB; have HO157 := n0_; have HO161 := n1_; have HO165 := n2_; have HB := n3_; clear n0_ n1_ n2_ n3_; (try clear hb); (try clear hb2); (try clear hk); (try clear hi); (try clear ho0); obtain ⟨Ao12, co12, eo12⟩ := Kd.R_slice HO165.out; subst eo12) | ((with_reducible refine gate_callee (f := 49) rfl ?_); refine goesL_ (some 10) rfl rfl Tryz.func49 (by kernel_rfl) rfl #[.agg #[.bool t162, .slice Ao12 t163.length co12]] rfl z13_6 ?_; (with_reducible refine (capstanref01_Held.calls k t162 _ _ t163 t166 _ ?side1 ?side2 A6.out).mono ?_); (case side1 => repeat (first | exact (Kd.R_reads' HO165.out).2.2 | (with_reducible refine Kd.C_alloc ?_ _) | (with_reducible refine Kd.C_drewN ?_ _) | (with_reducible refine Kd.C_drew ?_))); (case side2 => exact (Kd.R_reads' HO165.out).2.1); rintro e w13 ⟨rfl, hb⟩; refine ⟨_, rfl, ?_⟩; have n0_ := Aside0.mk (Kd.R_below z13_8 hb); have n1_ := Aside0.mk (Kd.R_below z13_9 hb); have n2_ := Aside0.mk (Kd.R_below (by (with_reducible repeat (first | apply Kd.R_alloc | apply Kd.R_drewN | apply Kd.R_drew)); exact HO165.out) hb); have n3_ := Aside0.mk (below_step z13_7 hb); clear HO157; clear HO161; clear HO165; clear HB; have HO157 := n0_; have HO161 := n1_; have HO165 := n2_; have HB := n3_; clear n0_ n1_ n2_ n3_; (try clear hb); (try clear hb2); (try clear hk); (try clear hi)))
 go_ret
 exact ⟨by first | rfl | (simp [errW_none, errW_some] <;> rfl) | (simp [*, errW_none, errW_some] <;> rfl), by repeat (first | (with_reducible first | exact HB.out | apply below_alloc | apply pw_below_drewN | apply below_drew1) | exact HB.out)⟩
/-! ### capstanref01_Minus: function 91 -/
def capstanref01_Minus.f (a0_0 : Bool) (l0_1 : List Int) : Option (Bool × List Int) := some (!a0_0, l0_1)
theorem capstanref01_Minus.calls (a0_0 : Bool) (P0_1_ : Nat → Prop) (u9000_ : Value) (l0_1 : List Int) (r1 : Bool) (r2 : List Int) (w0 w : World) (hB : Below w0.heap.size w0 w) (ho0_1 : Kd.R (Kd.int .i64) 3 w w0.heap.size P0_1_ u9000_ l0_1) (h : capstanref01_Minus.f a0_0 l0_1 = some (r1, r2)) :
  Calls Tryz.prog 91 #[.agg #[.bool a0_0, u9000_]] w fun e w' => ∃ v1_ : Value, e = .returned (.agg #[.bool r1, v1_]) ∧ Kd.R (Kd.int .i64) 3 w' w0.heap.size (fun k_ => (P0_1_ k_ ∨ w.heap.size ≤ k_)) v1_ r2 ∧ Below w0.heap.size w0 w' ∧ Kept w w' (fun k_ => P0_1_ k_) := by
 have hu105 := Tryz.underlying105
 have HO0_1 := Aside0.mk (show Kd.R (Kd.int .i64) 3 w w0.heap.size (fun k_ => (P0_1_ k_ ∨ w.heap.size ≤ k_)) u9000_ l0_1 from Kd.R_mono ho0_1 (fun k_ hk => (.inl hk)))
 have HK := Aside0.mk (Kept.refl w (fun k_ => P0_1_ k_))
 have HW0 := Aside0.mk hB.size
 have HB := Aside0.mk hB
 clear hB
 have H : (some (!a0_0, l0_1)) = some (r1, r2) := h
 clear h
 simp only [Option.some.injEq, Prod.mk.injEq] at H
 obtain ⟨rfl, rfl⟩ := H
 obtain ⟨Ao2, co2, eo2⟩ := Kd.R_slice HO0_1.out
 subst eo2
 go_enter Tryz.func91, Tryz.ntmps91
 go_wp2_with (first | ((with_reducible refine gate_dst (N := 1) rfl ?_); refine box_event ?hg (N := 1) ?hd (cs := #[.bool a0_0, .slice Ao2 l0_1.length co2]) (t := 105) ?hr ?_; (case hd => rfl); (case hg => rfl); (case hr => first | (go_simp; done) | (go_simp; rfl)); intro gb167 hg w3 hbox hb; have n0_ := Aside0.mk (Kd.R_below z13_10 hb); have n1_ := Aside0.mk (Kept.below (S := (fun k_ => P0_1_ k_)) (by repeat (first | (with_reducible first | exact HK.out | apply Kept.alloc | apply Kept.drewN | apply Kept.drew) | exact HK.out)) hb); have n2_ := Aside0.mk (below_step z13_7 hb); have n3_ := Aside0.mk (hbox); have n4_ := Aside0.mk ((by rw [hg]; exact (by first | exact HK.out.1 | exact (show Kept w _ (fun k_ => P0_1_ k_) from by repeat (first | (with_reducible first | exact HK.out | apply Kept.alloc | apply Kept.drewN | apply Kept.drew) | exact HK.out)).1) : w.heap.size ≤ gb167)); have n5_ := Aside0.mk ((by rw [hg]; exact (below_size z13_7) : w0.heap.size ≤ gb167)); clear HO0_1; clear HK; clear HB; have HO0_1 := n0_; have HK := n1_; have HB := n2_; have BK167 := n3_; have GW167 := n4_; have GE167 := n5_; clear n0_ n1_ n2_ n3_ n4_ n5_; clear hb hbox hg) | ((with_reducible refine gate_dst (N := 2) rfl ?_); refine box_event ?hg (N := 2) ?hd (cs := #[.bool false, .slice none 0 0]) (t := 105) ?hr ?_; (case hd => rfl); (case hg => rfl); (case hr => first | (go_simp; done) | (go_simp; rfl)); intro gb168 hg w4 hbox hb; have n0_ := Aside0.mk (Kd.R_below z13_10 hb); have n1_ := Aside0.mk (blk_below (g := gb167) (o := .cells #[.bool a0_0, .slice Ao2 l0_1.length co2] 105 (0, 0)) (by (with_reducible repeat (first | refine blk_drewN ?_ _ | refine blk_drew ?_ | refine blk_alloc ?_ _)); exact BK167.out) hb); have n2_ := Aside0.mk (Kept.below (S := (fun k_ => P0_1_ k_)) (by repeat (first | (with_reducible first | exact HK.out | apply Kept.alloc | apply Kept.drewN | apply Kept.drew | refine Kept.setCell ?_ (.inr GW167.out) _) | exact HK.out)) hb); have n3_ := Aside0.mk (below_step (by repeat (first | (with_reducible first | exact HB.out | apply below_alloc | apply pw_below_drewN | apply below_drew1 | refine below_set ?_ GE167.out) | exact HB.out)) hb); have n4_ := Aside0.mk (hbox); have n5_ := Aside0.mk ((by rw [hg]; exact (by first | exact HK.out.1 | exact (show Kept w _ (fun k_ => P0_1_ k_) from by repeat (first | (with_reducible first | exact HK.out | apply Kept.alloc | apply Kept.drewN | apply Kept.drew | refine Kept.setCell ?_ (.inr GW167.out) _) | exact HK.out)).1) : w.heap.size ≤ gb168)); have n6_ := Aside0.mk ((by rw [hg]; exact (below_size (by repeat (first | (with_reducible first | exact HB.out | apply below_alloc | apply pw_below_drewN | apply below_drew1 | refine below_set ?_ GE167.out) | exact HB.out))) : w0.heap.size ≤ gb168)); have n7_ := Aside0.mk ((by rw [hg]; exact Nat.ne_of_lt (blk_lt (g := gb167) (o := .cells #[.bool a0_0, .slice Ao2 l0_1.length co2] 105 (0, 0)) (by (with_reducible repeat (first | refine blk_drewN ?_ _ | refine blk_drew ?_ | refine blk_alloc ?_ _)); exact BK167.out)) : gb167 ≠ gb168)); have n8_ := Aside0.mk ((by rw [hg]; exact Nat.ne_of_gt (blk_lt (g := gb167) (o := .cells #[.bool a0_0, .slice Ao2 l0_1.length co2] 105 (0, 0)) (by (with_reducible repeat (first | refine blk_drewN ?_ _ | refine blk_drew ?_ | refine blk_alloc ?_ _)); exact BK167.out)) : gb168 ≠ gb167)); clear HO0_1; clear BK167; clear HK; clear HB; have HO0_1 := n0_; have BK167 := n1_; have HK := n2_; have HB := n3_; have BK168 := n4_; have GW168 := n5_; have GE168 := n6_; have NB167_168 := n7_; have NB168_167 := n8_; clear n0_ n1_ n2_ n3_ n4_ n5_ n6_ n7_ n8_; clear hb hbox hg; have hnb5 := NB167_168.out; have hnc5 := NB168_167.out; have hcz6_0 : w4.cell? ⟨gb167, 0, none⟩ = some (.bool a0_0) := (blk_cell BK167.out 0).trans rfl; have hcz6_1 : w4.cell? ⟨gb167, 1, none⟩ = some (.slice Ao2 l0_1.length co2) := (blk_cell BK167.out 1).trans rfl; have hfz6_0 := blk_frozen BK167.out 0; have hfz6_1 := blk_frozen BK167.out 1; have hcz7_0 : w4.cell? ⟨gb168, 0, none⟩ = some (.bool false) := (blk_cell BK168.out 0).trans rfl; have hcz7_1 : w4.cell? ⟨gb168, 1, none⟩ = some (.slice none 0 0) := (blk_cell BK168.out 1).trans rfl; have hfz7_0 := blk_frozen BK168.out 0; have hfz7_1 := blk_frozen BK168.out 1))
 refine bodyPost_ret (results_cell_row rfl _ _ gb168 105 #[.bool (!a0_0), .slice Ao2 l0_1.length co2] (0, 0) _ rfl (by (with_reducible repeat (first | refine blk_drewN ?_ _ | refine blk_drew ?_ | refine blk_alloc ?_ _)); refine blk_put (cs := #[.bool (!a0_0), .slice none 0 0]) ?_ 1 _ rfl; (with_reducible repeat (first | refine blk_drewN ?_ _ | refine blk_drew ?_ | refine blk_alloc ?_ _)); refine blk_put (cs := #[.bool false, .slice none 0 0]) ?_ 0 _ rfl; (with_reducible repeat (first | refine blk_drewN ?_ _ | refine blk_drew ?_ | refine blk_alloc ?_ _)); exact BK168.out) Tryz.underlying105 rfl (by kernel_rfl)) rfl ?_
 exact ⟨_, by first | rfl | (simp [errW_none, errW_some] <;> rfl) | (simp [*, errW_none, errW_some] <;> rfl), by (with_reducible repeat (first | apply Kd.R_alloc | apply Kd.R_drewN | apply Kd.R_drew)); exact Kd.R_mono (Kd.R_far (p := ⟨gb168, 1, none⟩) (Kd.R_far (p := ⟨gb168, 0, none⟩) (Kd.R_types HO0_1.out BK168.out (by decide)) (fun _ hk => hk.2) (.bool (!a0_0))) (fun _ hk => hk.2) (.slice Ao2 l0_1.length co2)) (fun _ hk => hk.1), by repeat (first | (with_reducible first | exact HB.out | apply below_alloc | apply pw_below_drewN | apply below_drew1 | refine below_set ?_ GE167.out | refine below_set ?_ GE168.out) | exact HB.out), by repeat (first | (with_reducible first | exact HK.out | apply Kept.alloc | apply Kept.drewN | apply Kept.drew | refine Kept.setCell ?_ (.inr GW167.out) _ | refine Kept.setCell ?_ (.inr GW168.out) _) | exact HK.out)⟩
/-! ### capstanref01_Sub: function 58 -/
def capstanref01_Sub.f (k : Nat) (a0 : Int) (a1 : Int) : Option (Int) := (capstanref01_Of.f k a0).bind fun bt169 => ((capstanref01_Of.f k a1).bind fun bt173 => ((capstanref01_Minus.f bt173.1 bt173.2).bind fun bt177 => ((capstanref01_Plus.f k bt169.1 bt169.2 bt177.1 bt177.2).bind fun bt181 => ((capstanref01_Held.f k bt181.1 bt181.2).bind fun t185 => (some t185)))))
theorem capstanref01_Sub.mono : ∀ a0 a1 k, LeO (capstanref01_Sub.f k a0 a1) (capstanref01_Sub.f (k + 1) a0 a1) := by
 intro a0 a1 k
 unfold capstanref01_Sub.f
 repeat' first
   | (with_reducible exact capstanref01_Held.mono _ _ _)
   | (with_reducible exact capstanref01_Of.mono _ _)
   | (with_reducible exact capstanref01_Plus.mono _ _ _ _ _)
   | (with_reducible exact LeO.refl _)
   | (with_reducible exact LeO.none _)
   | (with_reducible refine LeO.ite ?_ ?_)
   | (with_reducible refine LeO.bind ?_ (fun _ => ?_))
   | exact capstanref01_Held.mono _ _ _
   | exact capstanref01_Of.mono _ _
   | exact capstanref01_Plus.mono _ _ _ _ _
   | exact LeO.none _
   | refine LeO.ite ?_ ?_
   | refine LeO.bind ?_ (fun _ => ?_)
theorem capstanref01_Sub.calls (k : Nat) (a0 : Int) (a1 : Int) (r : Int) (w : World) (h : capstanref01_Sub.f k a0 a1 = some r) :
  Calls Tryz.prog 58 #[.int .i64 a0, .int .i64 a1] w fun e w' => e = .returned (.int .i64 r) ∧ Below w.heap.size w w' := by
 have HB := Aside0.mk (Below.refl w.heap.size w)
 have H : ((capstanref01_Of.f k a0).bind fun bt169 => ((capstanref01_Of.f k a1).bind fun bt173 => ((capstanref01_Minus.f bt173.1 bt173.2).bind fun bt177 => ((capstanref01_Plus.f k bt169.1 bt169.2 bt177.1 bt177.2).bind fun bt181 => ((capstanref01_Held.f k bt181.1 bt181.2).bind fun t185 => (some t185)))))) = some r := h
 clear h
 replace H := Option.bind_eq_some_iff.mp H
 obtain ⟨⟨t169, t170⟩, A30, H⟩ := H
 replace H : ((capstanref01_Of.f k a1).bind fun bt173 => ((capstanref01_Minus.f bt173.1 bt173.2).bind fun bt177 => ((capstanref01_Plus.f k t169 t170 bt177.1 bt177.2).bind fun bt181 => ((capstanref01_Held.f k bt181.1 bt181.2).bind fun t185 => (some t185))))) = some r := H
 have A3 := Aside0.mk A30
 clear A30
 replace H := Option.bind_eq_some_iff.mp H
 obtain ⟨⟨t173, t174⟩, A40, H⟩ := H
 replace H : ((capstanref01_Minus.f t173 t174).bind fun bt177 => ((capstanref01_Plus.f k t169 t170 bt177.1 bt177.2).bind fun bt181 => ((capstanref01_Held.f k bt181.1 bt181.2).bind fun t185 => (some t185)))) = some r := H
 have A4 := Aside0.mk A40
 clear A40
 replace H := Option.bind_eq_some_iff.mp H
 obtain ⟨⟨t177, t178⟩, A50, H⟩ := H
 replace H : ((capstanref01_Plus.f k t169 t170 t177 t178).bind fun bt181 => ((capstanref01_Held.f k bt181.1 bt181.2).bind fun t185 => (some t185))) = some r := H
 have A5 := Aside0.mk A50
 clear A50
 replace H := Option.bind_eq_some_iff.mp H
 obtain ⟨⟨t181, t182⟩, A60, H⟩ := H
 replace H : ((capstanref01_Held.f k t181 t182).bind fun t185 => (some t185)) = some r := H
 have A6 := Aside0.mk A60
 clear A60
 replace H := Option.bind_eq_some_iff.mp H
 obtain ⟨t185, A70, H⟩ := H
 replace H : (some t185) = some r := H
 have A7 := Aside0.mk A70
 clear A70
 obtain rfl := Option.some.inj H
 go_enter Tryz.func58, Tryz.ntmps58
 go_wp2_with (first | ((with_reducible refine gate_callee (f := 51) rfl ?_); refine goesL_ (some 6) rfl rfl Tryz.func51 (by kernel_rfl) rfl #[.int .i64 a0] rfl z13_6 ?_; (with_reducible refine (capstanref01_Of.calls k a0 t169 t170 _ A3.out).mono ?_); rintro e w8 ⟨v171, rfl, ho0, hb⟩; refine ⟨_, rfl, ?_⟩; have n0_ := Aside0.mk (Kd.R_lower ho0 (below_size z13_7)); have n1_ := Aside0.mk (below_step z13_7 hb); clear HB; have HO172 := n0_; have HB := n1_; clear n0_ n1_; (try clear hb); (try clear hb2); (try clear hk); (try clear hi); (try clear ho0)) | ((with_reducible refine gate_callee (f := 51) rfl ?_); refine goesL_ (some 8) rfl rfl Tryz.func51 (by kernel_rfl) rfl #[.int .i64 a1] rfl z13_6 ?_; (with_reducible refine (capstanref01_Of.calls k a1 t173 t174 _ A4.out).mono ?_); rintro e w9 ⟨v175, rfl, ho0, hb⟩; refine ⟨_, rfl, ?_⟩; have n0_ := Aside0.mk (Kd.R_elder' z13_11 (Kd.R_base ho0) hb); have n1_ := Aside0.mk (Kd.R_lower (Kd.R_new' ho0 (Kd.R_lt z13_11)) (below_size z13_7)); have n2_ := Aside0.mk (below_step z13_7 hb); clear HO172; clear HB; have HO172 := n0_; have HO176 := n1_; have HB := n2_; clear n0_ n1_ n2_; (try clear hb); (try clear hb2); (try clear hk); (try clear hi); (try clear ho0); obtain ⟨Ao10, co10, eo10⟩ := Kd.R_slice HO176.out; subst eo10) | ((with_reducible refine gate_callee (f := 91) rfl ?_); refine goesL_ (some 9) rfl rfl Tryz.func91 (by kernel_rfl) rfl #[.agg #[.bool t173, .slice Ao10 t174.length co10]] rfl z13_6 ?_; (with_reducible refine (capstanref01_Minus.calls t173 (fun k_ => some k_ = (.slice Ao10 t174.length co10 : Value).ownBlock) (.slice Ao10 t174.length co10) t174 t177 t178 w _ ?side1 ?side2 A5.out).mono ?_); (case side1 => repeat (first | (with_reducible first | exact HB.out | apply below_alloc | apply pw_below_drewN | apply below_drew1) | exact HB.out)); (case side2 => exact Kd.R_tight rfl HO176.out); rintro e w11 ⟨v179, rfl, ho0, hb, hkp⟩; refine ⟨_, rfl, ?_⟩; have n0_ := Aside0.mk (Kd.R_mono (ok' := fun k_ => some k_ ≠ (v179 : Value).ownBlock) (Kd.R_keptB (HO172.out) hkp (fun k_ hk_ hs_ => (hk_.2) hs_)) (fun k_ hk_ => fun e_ => Or.elim (ho0.1 k_ e_.symm) (fun hs_ => hk_.2.1 hs_) (fun hn_ => Nat.not_le.2 hk_.2.2 hn_))); have n1_ := Aside0.mk (Kd.R_mono (ok' := fun k_ => some k_ ≠ (v171 : Value).ownBlock) ho0 (fun k_ hk_ => Or.elim hk_ (fun hs_ => fun e_ => (((HO172.out).1 k_ e_.symm).2) hs_) (fun hn_ => (Kd.fresh' (Kd.R_lt z13_11) k_ hn_)))); have n2_ := Aside0.mk (hb); clear HO172; clear HB; clear HO176; have HO172 := n0_; have HO180 := n1_; have HB := n2_; clear n0_ n1_ n2_; (try clear hb); (try clear hkp); (try clear ho0); obtain ⟨Ao12, co12, eo12⟩ := Kd.R_slice HO172.out; subst eo12; obtain ⟨Ao13, co13, eo13⟩ := Kd.R_slice HO180.out; subst eo13) | ((with_reducible refine gate_callee (f := 93) rfl ?_); refine goesL_ (some 10) rfl rfl Tryz.func93 (by kernel_rfl) rfl #[.agg #[.bool t169, .slice Ao12 t170.length co12], .agg #[.bool t177, .slice Ao13 t178.length co13]] rfl z13_6 ?_; (with_reducible refine (capstanref01_Plus.calls k t169 _ _ t170 t177 _ _ t178 t181 t182 _ ?side1 ?side2 ?side3 ?side4 A6.out).mono ?_); (case side1 => repeat (first | exact (Kd.R_reads' HO172.out).2.2 | (with_reducible refine Kd.C_alloc ?_ _) | (with_reducible refine Kd.C_drewN ?_ _) | (with_reducible refine Kd.C_drew ?_))); (case side2 => exact (Kd.R_reads' HO172.out).2.1); (case side3 => repeat (first | exact (Kd.R_reads' HO180.out).2.2 | (with_reducible refine Kd.C_alloc ?_ _) | (with_reducible refine Kd.C_drewN ?_ _) | (with_reducible refine Kd.C_drew ?_))); (case side4 => exact (Kd.R_reads' HO180.out).2.1); rintro e w14 ⟨v183, rfl, ho0, hb⟩; refine ⟨_, rfl, ?_⟩; have n0_ := Aside0.mk (Kd.R_elder' z13_11 (Kd.R_base ho0) hb); have n1_ := Aside0.mk (Kd.R_elder' z13_12 (Kd.R_base ho0) hb); have n2_ := Aside0.mk (Kd.R_lower (Kd.R_new' (Kd.R_new' ho0 (Kd.R_lt z13_11)) (Kd.R_lt z13_12)) (below_size z13_7)); have n3_ := Aside0.mk (below_step z13_7 hb); clear HO172; clear HO180; clear HB; have HO172 := n0_; have HO180 := n1_; have HO184 := n2_; have HB := n3_; clear n0_ n1_ n2_ n3_; (try clear hb); (try clear hb2); (try clear hk); (try clear hi); (try clear ho0); obtain ⟨Ao15, co15, eo15⟩ := Kd.R_slice HO184.out; subst eo15) | ((with_reducible refine gate_callee (f := 49) rfl ?_); refine goesL_ (some 11) rfl rfl Tryz.func49 (by kernel_rfl) rfl #[.agg #[.bool t181, .slice Ao15 t182.length co15]] rfl z13_6 ?_; (with_reducible refine (capstanref01_Held.calls k t181 _ _ t182 t185 _ ?side1 ?side2 A7.out).mono ?_); (case side1 => repeat (first | exact (Kd.R_reads' HO184.out).2.2 | (with_reducible refine Kd.C_alloc ?_ _) | (with_reducible refine Kd.C_drewN ?_ _) | (with_reducible refine Kd.C_drew ?_))); (case side2 => exact (Kd.R_reads' HO184.out).2.1); rintro e w16 ⟨rfl, hb⟩; refine ⟨_, rfl, ?_⟩; have n0_ := Aside0.mk (Kd.R_below z13_11 hb); have n1_ := Aside0.mk (Kd.R_below z13_12 hb); have n2_ := Aside0.mk (Kd.R_below (by (with_reducible repeat (first | apply Kd.R_alloc | apply Kd.R_drewN | apply Kd.R_drew)); exact HO184.out) hb); have n3_ := Aside0.mk (below_step z13_7 hb); clear HO172; clear HO180; clear HO184; clear HB; have HO172 := n0_; have HO180 := n1_; have HO184 := n2_; have HB := n3_; clear n0_ n1_ n2_ n3_; (try clear hb); (try clear hb2); (try clear hk); (try clear hi)))
 go_ret
 exact ⟨by first | rfl | (simp [errW_none, errW_some] <;> rfl) | (simp [*, errW_none, errW_some] <;> rfl), by repeat (first | (with_reducible first | exact HB.out | apply below_alloc | apply pw_below_drewN | apply below_drew1) | exact HB.out)⟩
/-! ### capstanref01_Neg: function 52 -/
def capstanref01_Neg.f (k : Nat) (a0 : Int) : Option (Int) := (capstanref01_Of.f k a0).bind fun bt186 => ((capstanref01_Minus.f bt186.1 bt186.2).bind fun bt190 => ((capstanref01_Held.f k bt190.1 bt190.2).bind fun t194 => (some t194)))
theorem capstanref01_Neg.mono : ∀ a0 k, LeO (capstanref01_Neg.f k a0) (capstanref01_Neg.f (k + 1) a0) := by
 intro a0 k
 unfold capstanref01_Neg.f
 repeat' first
   | (with_reducible exact capstanref01_Held.mono _ _ _)
   | (with_reducible exact capstanref01_Of.mono _ _)
   | (with_reducible exact LeO.refl _)
   | (with_reducible exact LeO.none _)
   | (with_reducible refine LeO.ite ?_ ?_)
   | (with_reducible refine LeO.bind ?_ (fun _ => ?_))
   | exact capstanref01_Held.mono _ _ _
   | exact capstanref01_Of.mono _ _
   | exact LeO.none _
   | refine LeO.ite ?_ ?_
   | refine LeO.bind ?_ (fun _ => ?_)
theorem capstanref01_Neg.calls (k : Nat) (a0 : Int) (r : Int) (w : World) (h : capstanref01_Neg.f k a0 = some r) :
  Calls Tryz.prog 52 #[.int .i64 a0] w fun e w' => e = .returned (.int .i64 r) ∧ Below w.heap.size w w' := by
 have HB := Aside0.mk (Below.refl w.heap.size w)
 have H : ((capstanref01_Of.f k a0).bind fun bt186 => ((capstanref01_Minus.f bt186.1 bt186.2).bind fun bt190 => ((capstanref01_Held.f k bt190.1 bt190.2).bind fun t194 => (some t194)))) = some r := h
 clear h
 replace H := Option.bind_eq_some_iff.mp H
 obtain ⟨⟨t186, t187⟩, A20, H⟩ := H
 replace H : ((capstanref01_Minus.f t186 t187).bind fun bt190 => ((capstanref01_Held.f k bt190.1 bt190.2).bind fun t194 => (some t194))) = some r := H
 have A2 := Aside0.mk A20
 clear A20
 replace H := Option.bind_eq_some_iff.mp H
 obtain ⟨⟨t190, t191⟩, A30, H⟩ := H
 replace H : ((capstanref01_Held.f k t190 t191).bind fun t194 => (some t194)) = some r := H
 have A3 := Aside0.mk A30
 clear A30
 replace H := Option.bind_eq_some_iff.mp H
 obtain ⟨t194, A40, H⟩ := H
 replace H : (some t194) = some r := H
 have A4 := Aside0.mk A40
 clear A40
 obtain rfl := Option.some.inj H
 go_enter Tryz.func52, Tryz.ntmps52
 go_wp2_with (first | ((with_reducible refine gate_callee (f := 51) rfl ?_); refine goesL_ (some 4) rfl rfl Tryz.func51 (by kernel_rfl) rfl #[.int .i64 a0] rfl z13_6 ?_; (with_reducible refine (capstanref01_Of.calls k a0 t186 t187 _ A2.out).mono ?_); rintro e w5 ⟨v188, rfl, ho0, hb⟩; refine ⟨_, rfl, ?_⟩; have n0_ := Aside0.mk (Kd.R_lower ho0 (below_size z13_7)); have n1_ := Aside0.mk (below_step z13_7 hb); clear HB; have HO189 := n0_; have HB := n1_; clear n0_ n1_; (try clear hb); (try clear hb2); (try clear hk); (try clear hi); (try clear ho0); obtain ⟨Ao6, co6, eo6⟩ := Kd.R_slice HO189.out; subst eo6) | ((with_reducible refine gate_callee (f := 91) rfl ?_); refine goesL_ (some 5) rfl rfl Tryz.func91 (by kernel_rfl) rfl #[.agg #[.bool t186, .slice Ao6 t187.length co6]] rfl z13_6 ?_; (with_reducible refine (capstanref01_Minus.calls t186 (fun k_ => some k_ = (.slice Ao6 t187.length co6 : Value).ownBlock) (.slice Ao6 t187.length co6) t187 t190 t191 w _ ?side1 ?side2 A3.out).mono ?_); (case side1 => repeat (first | (with_reducible first | exact HB.out | apply below_alloc | apply pw_below_drewN | apply below_drew1) | exact HB.out)); (case side2 => exact Kd.R_tight rfl HO189.out); rintro e w7 ⟨v192, rfl, ho0, hb, hkp⟩; refine ⟨_, rfl, ?_⟩; have n0_ := Aside0.mk (Kd.R_mono (ok' := fun k_ => True) ho0 (fun k_ hk_ => trivial)); have n1_ := Aside0.mk (hb); clear HB; clear HO189; have HO193 := n0_; have HB := n1_; clear n0_ n1_; (try clear hb); (try clear hkp); (try clear ho0); obtain ⟨Ao8, co8, eo8⟩ := Kd.R_slice HO193.out; subst eo8) | ((with_reducible refine gate_callee (f := 49) rfl ?_); refine goesL_ (some 6) rfl rfl Tryz.func49 (by kernel_rfl) rfl #[.agg #[.bool t190, .slice Ao8 t191.length co8]] rfl z13_6 ?_; (with_reducible refine (capstanref01_Held.calls k t190 _ _ t191 t194 _ ?side1 ?side2 A4.out).mono ?_); (case side1 => repeat (first | exact (Kd.R_reads' HO193.out).2.2 | (with_reducible refine Kd.C_alloc ?_ _) | (with_reducible refine Kd.C_drewN ?_ _) | (with_reducible refine Kd.C_drew ?_))); (case side2 => exact (Kd.R_reads' HO193.out).2.1); rintro e w9 ⟨rfl, hb⟩; refine ⟨_, rfl, ?_⟩; have n0_ := Aside0.mk (Kd.R_below (by (with_reducible repeat (first | apply Kd.R_alloc | apply Kd.R_drewN | apply Kd.R_drew)); exact HO193.out) hb); have n1_ := Aside0.mk (below_step z13_7 hb); clear HO193; clear HB; have HO193 := n0_; have HB := n1_; clear n0_ n1_; (try clear hb); (try clear hb2); (try clear hk); (try clear hi)))
 go_ret
 exact ⟨by first | rfl | (simp [errW_none, errW_some] <;> rfl) | (simp [*, errW_none, errW_some] <;> rfl), by repeat (first | (with_reducible first | exact HB.out | apply below_alloc | apply pw_below_drewN | apply below_drew1) | exact HB.out)⟩
/-! ### capstanref01_Abs: function 53 -/
def capstanref01_Abs.f (k : Nat) (a0 : Int) : Option (Int) := (capstanref01_Of.f k a0).bind fun bt195 => ((capstanref01_Held.f k false bt195.2).bind fun t199 => (some t199))
theorem capstanref01_Abs.mono : ∀ a0 k, LeO (capstanref01_Abs.f k a0) (capstanref01_Abs.f (k + 1) a0) := by
 intro a0 k
 unfold capstanref01_Abs.f
 repeat' first
   | (with_reducible exact capstanref01_Held.mono _ _ _)
   | (with_reducible exact capstanref01_Of.mono _ _)
   | (with_reducible exact LeO.refl _)
   | (with_reducible exact LeO.none _)
   | (with_reducible refine LeO.ite ?_ ?_)
   | (with_reducible refine LeO.bind ?_ (fun _ => ?_))
   | exact capstanref01_Held.mono _ _ _
   | exact capstanref01_Of.mono _ _
   | exact LeO.none _
   | refine LeO.ite ?_ ?_
   | refine LeO.bind ?_ (fun _ => ?_)
theorem capstanref01_Abs.calls (k : Nat) (a0 : Int) (r : Int) (w : World) (h : capstanref01_Abs.f k a0 = some r) :
  Calls Tryz.prog 53 #[.int .i64 a0] w fun e w' => e = .returned (.int .i64 r) ∧ Below w.heap.size w w' := by
 have hu105 := Tryz.underlying105
 have hfld : ∀ (b : Bool) (v : Value) (W : World), (Instr.field 105 (.agg #[.bool b, v]) 1).run Tryz.prog W = .ok v W := fun b v W => by kernel_rfl
 have HB := Aside0.mk (Below.refl w.heap.size w)
 have H : ((capstanref01_Of.f k a0).bind fun bt195 => ((capstanref01_Held.f k false bt195.2).bind fun t199 => (some t199))) = some r := h
 clear h
 replace H := Option.bind_eq_some_iff.mp H
 obtain ⟨⟨t195, t196⟩, A20, H⟩ := H
 replace H : ((capstanref01_Held.f k false t196).bind fun t199 => (some t199)) = some r := H
 have A2 := Aside0.mk A20
 clear A20
 replace H := Option.bind_eq_some_iff.mp H
 obtain ⟨t199, A30, H⟩ := H
 replace H : (some t199) = some r := H
 have A3 := Aside0.mk A30
 clear A30
 obtain rfl := Option.some.inj H
 go_enter Tryz.func53, Tryz.ntmps53
 go_wp2_with (first | ((with_reducible refine gate_callee (f := 51) rfl ?_); refine goesL_ (some 4) rfl rfl Tryz.func51 (by kernel_rfl) rfl #[.int .i64 a0] rfl z13_6 ?_; (with_reducible refine (capstanref01_Of.calls k a0 t195 t196 _ A2.out).mono ?_); rintro e w4 ⟨v197, rfl, ho0, hb⟩; refine ⟨_, rfl, ?_⟩; have n0_ := Aside0.mk (Kd.R_lower ho0 (below_size z13_7)); have n1_ := Aside0.mk (below_step z13_7 hb); clear HB; have HO198 := n0_; have HB := n1_; clear n0_ n1_; (try clear hb); (try clear hb2); (try clear hk); (try clear hi); (try clear ho0); obtain ⟨Ao5, co5, eo5⟩ := Kd.R_slice HO198.out; subst eo5) | ((with_reducible refine gate_callee (f := 49) rfl ?_); refine goesL_ (some 7) rfl rfl Tryz.func49 (by kernel_rfl) rfl #[.agg #[.bool false, .slice Ao5 t196.length co5]] rfl z13_6 ?_; (with_reducible refine (capstanref01_Held.calls k false _ _ t196 t199 _ ?side1 ?side2 A3.out).mono ?_); (case side1 => repeat (first | exact (Kd.R_reads' HO198.out).2.2 | (with_reducible refine Kd.C_alloc ?_ _) | (with_reducible refine Kd.C_drewN ?_ _) | (with_reducible refine Kd.C_drew ?_))); (case side2 => exact (Kd.R_reads' HO198.out).2.1); rintro e w6 ⟨rfl, hb⟩; refine ⟨_, rfl, ?_⟩; have n0_ := Aside0.mk (Kd.R_below (by (with_reducible repeat (first | apply Kd.R_alloc | apply Kd.R_drewN | apply Kd.R_drew)); exact HO198.out) hb); have n1_ := Aside0.mk (below_step z13_7 hb); clear HO198; clear HB; have HO198 := n0_; have HB := n1_; clear n0_ n1_; (try clear hb); (try clear hb2); (try clear hk); (try clear hi)))
 go_ret
 exact ⟨by first | rfl | (simp [errW_none, errW_some] <;> rfl) | (simp [*, errW_none, errW_some] <;> rfl), by repeat (first | (with_reducible first | exact HB.out | apply below_alloc | apply pw_below_drewN | apply below_drew1) | exact HB.out)⟩
/-! ### capstanref01_Times: function 50 -/
mutual
def capstanref01_Times.l0 : Nat → List Int → Int → Bool → List Int → Bool → List Int → Option (Bool × List Int)
 | 0, _, _, _, _, _, _ => none
 | k + 1, x5, x6, x201000, x201001, x202000, x202001 => if x6 < (x201001.length : Int) then (capstanref01_Times.l1 k x5 x6 0 0 x201000 x201001 x202000 x202001) else ((capstanref01_trim.f k x5).bind fun t206 => (some ((x201000 != x202000), t206)))
def capstanref01_Times.l1 : Nat → List Int → Int → Int → Int → Bool → List Int → Bool → List Int → Option (Bool × List Int)
 | 0, _, _, _, _, _, _, _, _ => none
 | k + 1, x5, x6, x7, x8, x201000, x201001, x202000, x202001 => if x8 < (x202001.length : Int) then (if 0 ≤ (wrap64 (x6 + x8)) then (if (wrap64 (x6 + x8)) < (x5.length : Int) then (if 0 ≤ x6 then (if x6 < (x201001.length : Int) then (if 0 ≤ x8 then (capstanref01_Times.l1 k (x5.set ((wrap64 (x6 + x8)) : Int).toNat (Int.tmod (wrap64 ((wrap64 ((rd x5 (wrap64 (x6 + x8))) + (wrap64 ((rd x201001 x6) * (rd x202001 x8))))) + x7)) 65536)) x6 (wrap64 (Int.tdiv (wrap64 ((wrap64 ((rd x5 (wrap64 (x6 + x8))) + (wrap64 ((rd x201001 x6) * (rd x202001 x8))))) + x7)) 65536)) (wrap64 (x8 + 1)) x201000 x201001 x202000 x202001) else (none)) else (none)) else (none)) else (none)) else (none)) else (if 0 ≤ (wrap64 (x6 + (x202001.length : Int))) then (if (wrap64 (x6 + (x202001.length : Int))) < (x5.length : Int) then (capstanref01_Times.l0 k (x5.set ((wrap64 (x6 + (x202001.length : Int))) : Int).toNat x7) (wrap64 (x6 + 1)) x201000 x201001 x202000 x202001) else (none)) else (none))
end
def capstanref01_Times.f (k : Nat) (a0_0 : Bool) (l0_1 : List Int) (a1_0 : Bool) (l1_1 : List Int) : Option (Bool × List Int) := if 0 ≤ (wrap64 ((l0_1.length : Int) + (l1_1.length : Int))) then (if (wrap64 ((l0_1.length : Int) + (l1_1.length : Int)) : Int).toNat ≤ 35184372088832 then (capstanref01_Times.l0 k (List.replicate (wrap64 ((l0_1.length : Int) + (l1_1.length : Int)) : Int).toNat 0) 0 a0_0 l0_1 a1_0 l1_1) else (none)) else (none)
theorem capstanref01_Times.mono_l : ∀ k, (∀ y0 y1 y2 y3 y4 y5, LeO (capstanref01_Times.l0 k y0 y1 y2 y3 y4 y5) (capstanref01_Times.l0 (k + 1) y0 y1 y2 y3 y4 y5)) ∧ (∀ y0 y1 y2 y3 y4 y5 y6 y7, LeO (capstanref01_Times.l1 k y0 y1 y2 y3 y4 y5 y6 y7) (capstanref01_Times.l1 (k + 1) y0 y1 y2 y3 y4 y5 y6 y7))
 | 0 => ⟨fun _ _ _ _ _ _ r h => by simp [capstanref01_Times.l0] at h, fun _ _ _ _ _ _ _ _ r h => by simp [capstanref01_Times.l1] at h⟩
 | k + 1 => by
  obtain ⟨ih0, ih1⟩ := capstanref01_Times.mono_l k
  refine ⟨?_, ?_⟩
  ·intro y0 y1 y2 y3 y4 y5
   unfold capstanref01_Times.l0
   repeat' first
   | (with_reducible exact ih0 _ _ _ _ _ _)
   | (with_reducible exact ih1 _ _ _ _ _ _ _ _)
   | (with_reducible exact capstanref01_trim.mono _ _)
   | (with_reducible exact LeO.refl _)
   | (with_reducible exact LeO.none _)
   | (with_reducible refine LeO.ite ?_ ?_)
   | (with_reducible refine LeO.bind ?_ (fun _ => ?_))
   | exact ih0 _ _ _ _ _ _
   | exact ih1 _ _ _ _ _ _ _ _
   | exact capstanref01_trim.mono _ _
   | exact LeO.none _
   | refine LeO.ite ?_ ?_
   | refine LeO.bind ?_ (fun _ => ?_)
  ·intro y0 y1 y2 y3 y4 y5 y6 y7
   unfold capstanref01_Times.l1
   repeat' first
   | (with_reducible exact ih0 _ _ _ _ _ _)
   | (with_reducible exact ih1 _ _ _ _ _ _ _ _)
   | (with_reducible exact capstanref01_trim.mono _ _)
   | (with_reducible exact LeO.refl _)
   | (with_reducible exact LeO.none _)
   | (with_reducible refine LeO.ite ?_ ?_)
   | (with_reducible refine LeO.bind ?_ (fun _ => ?_))
   | exact ih0 _ _ _ _ _ _
   | exact ih1 _ _ _ _ _ _ _ _
   | exact capstanref01_trim.mono _ _
   | exact LeO.none _
   | refine LeO.ite ?_ ?_
   | refine LeO.bind ?_ (fun _ => ?_)
theorem capstanref01_Times.mono : ∀ a0 a1 a2 a3 k, LeO (capstanref01_Times.f k a0 a1 a2 a3) (capstanref01_Times.f (k + 1) a0 a1 a2 a3) := by
 intro a0 a1 a2 a3 k
 obtain ⟨ih0, ih1⟩ := capstanref01_Times.mono_l k
 unfold capstanref01_Times.f
 repeat' first
   | (with_reducible exact ih0 _ _ _ _ _ _)
   | (with_reducible exact ih1 _ _ _ _ _ _ _ _)
   | (with_reducible exact capstanref01_trim.mono _ _)
   | (with_reducible exact LeO.refl _)
   | (with_reducible exact LeO.none _)
   | (with_reducible refine LeO.ite ?_ ?_)
   | (with_reducible refine LeO.bind ?_ (fun _ => ?_))
   | exact ih0 _ _ _ _ _ _
   | exact ih1 _ _ _ _ _ _ _ _
   | exact capstanref01_trim.mono _ _
   | exact LeO.none _
   | refine LeO.ite ?_ ?_
   | refine LeO.bind ?_ (fun _ => ?_)
def capstanref01_Times.T9 : Bool × List (List Nat × List Nat) := (true, [([], []), ([], []), ([], []), ([1, 2], [1, 2]), ([0, 3], [0, 3]), ([4], [4]), ([], []), ([6], [6]), ([], []), ([7, 8], [7, 8]), ([9], [9]), ([], []), ([11], [11]), ([], []), ([12, 13], [12, 13]), ([14], [14]), ([10, 15], [10, 15]), ([5, 16], [5, 16]), ([], []), ([17, 18], [17, 18]), ([19, 0, 1, 2, 3, 4, 5, 6, 7, 8, 9, 10, 11, 12, 13, 14, 15, 16, 17, 18, 19], [19])])
def capstanref01_Times.B9 : List Nat := [0, 0, 0, 6, 15, 31, 0, 64, 0, 448, 960, 0, 2048, 0, 14336, 30720, 65472, 131071, 0, 524287, 1048575]
theorem capstanref01_Times.tab9 : rtab .any (opsOf Tryz.f50 9) = capstanref01_Times.T9 := by kernel_rfl
theorem capstanref01_Times.bits9 : waitsOk capstanref01_Times.T9.2 capstanref01_Times.B9 = true := by kernel_rfl
def capstanref01_Times.T13 : Bool × List (List Nat × List Nat) := (true, [([], []), ([0], [0]), ([], []), ([2], [2]), ([1, 3], [1, 3]), ([], []), ([5], [5]), ([4, 6], [4, 6]), ([7, 6, 0, 1, 2, 3, 4, 5, 6, 7], [7])])
def capstanref01_Times.B13 : List Nat := [0, 1, 0, 4, 15, 0, 32, 127, 255]
theorem capstanref01_Times.tab13 : rtab .any (opsOf Tryz.f50 13) = capstanref01_Times.T13 := by kernel_rfl
theorem capstanref01_Times.bits13 : waitsOk capstanref01_Times.T13.2 capstanref01_Times.B13 = true := by kernel_rfl
theorem capstanref01_Times.calls (k : Nat) (a0_0 : Bool) (A0_1 : Option Addr) (c0_1 : Nat) (l0_1 : List Int) (a1_0 : Bool) (A1_1 : Option Addr) (c1_1 : Nat) (l1_1 : List Int) (r1 : Bool) (r2 : List Int) (w : World) (hr0_1 : Kd.C (Kd.int .i64) w A0_1 l0_1.length l0_1) (hc0_1 : l0_1.length ≤ c0_1) (hr1_1 : Kd.C (Kd.int .i64) w A1_1 l1_1.length l1_1) (hc1_1 : l1_1.length ≤ c1_1) (h : capstanref01_Times.f k a0_0 l0_1 a1_0 l1_1 = some (r1, r2)) :
  Calls Tryz.prog 50 #[.agg #[.bool a0_0, .slice A0_1 l0_1.length c0_1], .agg #[.bool a1_0, .slice A1_1 l1_1.length c1_1]] w fun e w' => ∃ v1_ : Value, e = .returned (.agg #[.bool r1, v1_]) ∧ Kd.R (Kd.int .i64) 3 w' w.heap.size (fun _ => True) v1_ r2 ∧ Below w.heap.size w w' := by
 have hu105 := Tryz.underlying105
 have HR0_1 := Aside0.mk hr0_1
 have HC0_1 := Aside0.mk hc0_1
 clear hr0_1 hc0_1
 have HR1_1 := Aside0.mk hr1_1
 have HC1_1 := Aside0.mk hc1_1
 clear hr1_1 hc1_1
 have HB := Aside0.mk (Below.refl w.heap.size w)
 have H : (if 0 ≤ (wrap64 ((l0_1.length : Int) + (l1_1.length : Int))) then (if (wrap64 ((l0_1.length : Int) + (l1_1.length : Int)) : Int).toNat ≤ 35184372088832 then (capstanref01_Times.l0 k (List.replicate (wrap64 ((l0_1.length : Int) + (l1_1.length : Int)) : Int).toNat 0) 0 a0_0 l0_1 a1_0 l1_1) else (none)) else (none)) = some (r1, r2) := h
 clear h
 obtain ⟨ji3, hji3⟩ : ∃ j_ : Int, (wrap64 ((l0_1.length : Int) + (l1_1.length : Int))) = j_ := ⟨_, rfl⟩
 replace H : (if 0 ≤ (ji3) then (if (ji3 : Int).toNat ≤ 35184372088832 then (capstanref01_Times.l0 k (List.replicate (ji3 : Int).toNat 0) 0 a0_0 l0_1 a1_0 l1_1) else (none)) else (none)) = some (r1, r2) := by first | (rw [hji3] at H; exact H) | (simp only [hji3] at H ⊢; exact H)
 have hji3w : (IntKind.i64.wrap ((l0_1.length : Int) + (l1_1.length : Int))) = ji3 := (i64_w _).trans hji3
 by_cases c4 : 0 ≤ (ji3)
 ·rw [if_pos c4] at H
  have c4b0 := eq_true c4
  have c4b1 : decide (0 ≤ (ji3)) = true := decide_eq_true c4
  clear c4
  by_cases c5 : (ji3 : Int).toNat ≤ 35184372088832
  ·rw [if_pos c5] at H
   have c5b0 := eq_true c5
   have c5b1 : decide ((ji3 : Int).toNat ≤ 35184372088832) = true := decide_eq_true c5
   clear c5
   obtain ⟨y203, hy203⟩ : ∃ y_ : List Int, y_ = (List.replicate (ji3 : Int).toNat 0) := ⟨_, rfl⟩
   replace H : (capstanref01_Times.l0 k y203 0 a0_0 l0_1 a1_0 l1_1) = some (r1, r2) := by first | (rw [hy203]; with_reducible exact H) | (have H2_ := (Option.bind_some _ _).symm.trans H; rw [hy203]; with_reducible exact H2_) | (have H2_ := (Option.bind_some _ _).symm.trans H; with_reducible exact H2_) | with_reducible exact H | (rw [hy203]; exact H) | exact H
   have Ny203 := Aside0.mk hy203
   clear hy203
   have H' := Aside0.mk H
   clear H
   go_enter Tryz.func50, Tryz.ntmps50
   go_wp2_with (first | ((with_reducible refine gate_dst (N := 2) rfl ?_); refine box_event ?hg (N := 2) ?hd (cs := #[.bool a0_0, .slice A0_1 l0_1.length c0_1]) (t := 105) ?hr ?_; (case hd => rfl); (case hg => rfl); (case hr => first | (go_simp; done) | (go_simp; rfl)); intro gb200 hg w6 hbox hb; have n0_ := Aside0.mk (below_step z13_7 hb); have n1_ := Aside0.mk (hbox); have n2_ := Aside0.mk ((by rw [hg]; exact (below_size z13_7) : w.heap.size ≤ gb200)); have n3_ := Aside0.mk ((by rw [hg]; exact (below_size z13_7) : w.heap.size ≤ gb200)); clear HB; have HB := n0_; have BK200 := n1_; have GW200 := n2_; have GE200 := n3_; clear n0_ n1_ n2_ n3_; clear hb hbox hg) | ((with_reducible refine gate_dst (N := 3) rfl ?_); refine box_event ?hg (N := 3) ?hd (cs := #[.bool a1_0, .slice A1_1 l1_1.length c1_1]) (t := 105) ?hr ?_; (case hd => rfl); (case hg => rfl); (case hr => first | (go_simp; done) | (go_simp; rfl)); intro gb201 hg w7 hbox hb; have n0_ := Aside0.mk (blk_below (g := gb200) (o := .cells #[.bool a0_0, .slice A0_1 l0_1.length c0_1] 105 (0, 0)) (by (with_reducible repeat (first | refine blk_drewN ?_ _ | refine blk_drew ?_ | refine blk_alloc ?_ _)); exact BK200.out) hb); have n1_ := Aside0.mk (below_step (by repeat (first | (with_reducible first | exact HB.out | apply below_alloc | apply pw_below_drewN | apply below_drew1 | refine below_set ?_ GE200.out) | exact HB.out)) hb); have n2_ := Aside0.mk (hbox); have n3_ := Aside0.mk ((by rw [hg]; exact (below_size (by repeat (first | (with_reducible first | exact HB.out | apply below_alloc | apply pw_below_drewN | apply below_drew1 | refine below_set ?_ GE200.out) | exact HB.out))) : w.heap.size ≤ gb201)); have n4_ := Aside0.mk ((by rw [hg]; exact (below_size (by repeat (first | (with_reducible first | exact HB.out | apply below_alloc | apply pw_below_drewN | apply below_drew1 | refine below_set ?_ GE200.out) | exact HB.out))) : w.heap.size ≤ gb201)); have n5_ := Aside0.mk ((by rw [hg]; exact Nat.ne_of_lt (blk_lt (g := gb200) (o := .cells #[.bool a0_0, .slice A0_1 l0_1.length c0_1] 105 (0, 0)) (by (with_reducible repeat (first | refine blk_drewN ?_ _ | refine blk_drew ?_ | refine blk_alloc ?_ _)); exact BK200.out)) : gb200 ≠ gb201)); have n6_ := Aside0.mk ((by rw [hg]; exact Nat.ne_of_gt (blk_lt (g := gb200) (o := .cells #[.bool a0_0, .slice A0_1 l0_1.length c0_1] 105 (0, 0)) (by (with_reducible repeat (first | refine blk_drewN ?_ _ | refine blk_drew ?_ | refine blk_alloc ?_ _)); exact BK200.out)) : gb201 ≠ gb200)); clear BK200; clear HB; have BK200 := n0_; have HB := n1_; have BK201 := n2_; have GW201 := n3_; have GE201 := n4_; have NB200_201 := n5_; have NB201_200 := n6_; clear n0_ n1_ n2_ n3_ n4_ n5_ n6_; clear hb hbox hg) | ((with_reducible refine gate_dst (N := 4) rfl ?_); refine box_event ?hg (N := 4) ?hd (cs := #[.bool false, .slice none 0 0]) (t := 105) ?hr ?_; (case hd => rfl); (case hg => rfl); (case hr => first | (go_simp; done) | (go_simp; rfl)); intro gb202 hg w8 hbox hb; have n0_ := Aside0.mk (blk_below (g := gb200) (o := .cells #[.bool a0_0, .slice A0_1 l0_1.length c0_1] 105 (0, 0)) (by (with_reducible repeat (first | refine blk_drewN ?_ _ | refine blk_drew ?_ | refine blk_alloc ?_ _)); exact BK200.out) hb); have n1_ := Aside0.mk (blk_below (g := gb201) (o := .cells #[.bool a1_0, .slice A1_1 l1_1.length c1_1] 105 (0, 0)) (by (with_reducible repeat (first | refine blk_drewN ?_ _ | refine blk_drew ?_ | refine blk_alloc ?_ _)); exact BK201.out) hb); have n2_ := Aside0.mk (below_step (by repeat (first | (with_reducible first | exact HB.out | apply below_alloc | apply pw_below_drewN | apply below_drew1 | refine below_set ?_ GE200.out | refine below_set ?_ GE201.out) | exact HB.out)) hb); have n3_ := Aside0.mk (hbox); have n4_ := Aside0.mk ((by rw [hg]; exact (below_size (by repeat (first | (with_reducible first | exact HB.out | apply below_alloc | apply pw_below_drewN | apply below_drew1 | refine below_set ?_ GE200.out | refine below_set ?_ GE201.out) | exact HB.out))) : w.heap.size ≤ gb202)); have n5_ := Aside0.mk ((by rw [hg]; exact (below_size (by repeat (first | (with_reducible first | exact HB.out | apply below_alloc | apply pw_below_drewN | apply below_drew1 | refine below_set ?_ GE200.out | refine below_set ?_ GE201.out) | exact HB.out))) : w.heap.size ≤ gb202)); have n6_ := Aside0.mk ((by rw [hg]; exact Nat.ne_of_lt (blk_lt (g := gb200) (o := .cells #[.bool a0_0, .slice A0_1 l0_1.length c0_1] 105 (0, 0)) (by (with_reducible repeat (first | refine blk_drewN ?_ _ | refine blk_drew ?_ | refine blk_alloc ?_ _)); exact BK200.out)) : gb200 ≠ gb202)); have n7_ := Aside0.mk ((by rw [hg]; exact Nat.ne_of_gt (blk_lt (g := gb200) (o := .cells #[.bool a0_0, .slice A0_1 l0_1.length c0_1] 105 (0, 0)) (by (with_reducible repeat (first | refine blk_drewN ?_ _ | refine blk_drew ?_ | refine blk_alloc ?_ _)); exact BK200.out)) : gb202 ≠ gb200)); have n8_ := Aside0.mk ((by rw [hg]; exact Nat.ne_of_lt (blk_lt (g := gb201) (o := .cells #[.bool a1_0, .slice A1_1 l1_1.length c1_1] 105 (0, 0)) (by (with_reducible repeat (first | refine blk_drewN ?_ _ | refine blk_drew ?_ | refine blk_alloc ?_ _)); exact BK201.out)) : gb201 ≠ gb202)); have n9_ := Aside0.mk ((by rw [hg]; exact Nat.ne_of_gt (blk_lt (g := gb201) (o := .cells #[.bool a1_0, .slice A1_1 l1_1.length c1_1] 105 (0, 0)) (by (with_reducible repeat (first | refine blk_drewN ?_ _ | refine blk_drew ?_ | refine blk_alloc ?_ _)); exact BK201.out)) : gb202 ≠ gb201)); clear BK200; clear BK201; clear HB; have BK200 := n0_; have BK201 := n1_; have HB := n2_; have BK202 := n3_; have GW202 := n4_; have GE202 := n5_; have NB200_202 := n6_; have NB202_200 := n7_; have NB201_202 := n8_; have NB202_201 := n9_; clear n0_ n1_ n2_ n3_ n4_ n5_ n6_ n7_ n8_ n9_; clear hb hbox hg; have hnb9 := NB200_201.out; have hnc9 := NB201_200.out; have hnb10 := NB200_202.out; have hnc10 := NB202_200.out; have hcz11_0 : w8.cell? ⟨gb200, 0, none⟩ = some (.bool a0_0) := (blk_cell BK200.out 0).trans rfl; have hcz11_1 : w8.cell? ⟨gb200, 1, none⟩ = some (.slice A0_1 l0_1.length c0_1) := (blk_cell BK200.out 1).trans rfl; have hfz11_0 := blk_frozen BK200.out 0; have hfz11_1 := blk_frozen BK200.out 1; have hnb12 := NB201_202.out; have hnc12 := NB202_201.out; have hcz13_0 : w8.cell? ⟨gb201, 0, none⟩ = some (.bool a1_0) := (blk_cell BK201.out 0).trans rfl; have hcz13_1 : w8.cell? ⟨gb201, 1, none⟩ = some (.slice A1_1 l1_1.length c1_1) := (blk_cell BK201.out 1).trans rfl; have hfz13_0 := blk_frozen BK201.out 0; have hfz13_1 := blk_frozen BK201.out 1) | ((with_reducible refine gate_dst (N := 17) rfl ?_); refine Kd.R_make (Kd.int .i64) _ 3 rfl (N := 17) rfl 103 _ _ rfl ji3 rfl rfl Tryz.underlying103 (.int .i64 0) 8 info3 rfl (by decide) (by omega) 0 (ok := fun _ => True) (okp := fun _ => True) rfl (fun _ hk => hk) trivial (of_decide_eq_true z13_27) (Nat.le_trans (Nat.mul_le_mul_right _ (of_decide_eq_true z13_27 : ji3.toNat ≤ 35184372088832)) (by omega)) (Below.refl _ _) (Nat.le_refl _) ?_; intro v204 w14 ho15 hb hg_ hnew_; clear hg_ hnew_; (first | rw [← Ny203.out] at ho15 | (simp only [Int.reduceToNat] at ho15; rw [← Ny203.out] at ho15)); have n0_ := Aside0.mk (Kd.R_lower ho15 (below_size (by repeat (first | (with_reducible first | exact HB.out | apply below_alloc | apply pw_below_drewN | apply below_drew1 | refine below_set ?_ GE200.out | refine below_set ?_ GE201.out | refine below_set ?_ GE202.out) | exact HB.out)))); have n1_ := Aside0.mk (blk_below (g := gb200) (o := .cells #[.bool a0_0, .slice A0_1 l0_1.length c0_1] 105 (0, 0)) (by (with_reducible repeat (first | refine blk_drewN ?_ _ | refine blk_drew ?_ | refine blk_alloc ?_ _)); exact BK200.out) hb); have n2_ := Aside0.mk (blk_below (g := gb201) (o := .cells #[.bool a1_0, .slice A1_1 l1_1.length c1_1] 105 (0, 0)) (by (with_reducible repeat (first | refine blk_drewN ?_ _ | refine blk_drew ?_ | refine blk_alloc ?_ _)); exact BK201.out) hb); have n3_ := Aside0.mk (blk_below (g := gb202) (o := .cells #[.bool false, .slice none 0 0] 105 (0, 0)) (by (with_reducible repeat (first | refine blk_drewN ?_ _ | refine blk_drew ?_ | refine blk_alloc ?_ _)); exact BK202.out) hb); have n4_ := Aside0.mk (below_step (by repeat (first | (with_reducible first | exact HB.out | apply below_alloc | apply pw_below_drewN | apply below_drew1 | refine below_set ?_ GE200.out | refine below_set ?_ GE201.out | refine below_set ?_ GE202.out) | exact HB.out)) hb); clear BK200; clear BK201; clear BK202; clear HB; have HO205 := n0_; have BK200 := n1_; have BK201 := n2_; have BK202 := n3_; have HB := n4_; clear n0_ n1_ n2_ n3_ n4_; clear hb ho15))
   go_loopg [6] k (fun kq v6 w' => ∃ (x5_1 : List Int) (x6_1 : Int), v6 = .int .i64 x6_1 ∧ Aside0 (capstanref01_Times.l0 kq x5_1 x6_1 a0_0 l0_1 a1_0 l1_1 = some (r1, r2)) ∧ Aside0 (kq ≤ k) ∧ Aside0 (Kd.R (Kd.int .i64) 3 w' w.heap.size (fun _ => True) v204 x5_1) ∧ Aside0 (w'.heap[gb200]? = some (.cells #[.bool a0_0, (.slice A0_1 l0_1.length c0_1)] 105 (0, 0))) ∧ Aside0 (w'.heap[gb201]? = some (.cells #[.bool a1_0, (.slice A1_1 l1_1.length c1_1)] 105 (0, 0))) ∧ Aside0 (w'.heap[gb202]? = some (.cells #[.bool false, (.slice none 0 0)] 105 (0, 0))) ∧ Aside0 (Below w.heap.size w w'))
   case atStart => exact ⟨(y203), (0), z13_28, H', ⟨Nat.le_refl _⟩, ⟨by (with_reducible repeat (first | apply Kd.R_alloc | apply Kd.R_drewN | apply Kd.R_drew)); exact HO205.out⟩, ⟨by (with_reducible repeat (first | refine blk_drewN ?_ _ | refine blk_drew ?_ | refine blk_alloc ?_ _)); exact BK200.out⟩, ⟨by (with_reducible repeat (first | refine blk_drewN ?_ _ | refine blk_drew ?_ | refine blk_alloc ?_ _)); exact BK201.out⟩, ⟨by (with_reducible repeat (first | refine blk_drewN ?_ _ | refine blk_drew ?_ | refine blk_alloc ?_ _)); exact BK202.out⟩, ⟨by repeat (first | (with_reducible first | exact HB.out | apply below_alloc | apply pw_below_drewN | apply below_drew1 | refine below_set ?_ GE200.out | refine below_set ?_ GE201.out | refine below_set ?_ GE202.out) | exact HB.out)⟩⟩
   case round =>
    clear H'
    try clear c1
    try clear p2
    try clear c4
    try clear c4b0
    try clear c4b1
    try clear c5
    try clear c5b0
    try clear c5b1
    try clear p6
    try clear c9
    try clear c10
    try clear c12
    try clear hcz11_0
    try clear hcz11_1
    try clear hcz13_0
    try clear hcz13_1
    try clear hfz11_0
    try clear hfz11_1
    try clear hfz13_0
    try clear hfz13_1
    obtain ⟨x5_1, x6_1, rfl, HA, HK1, HO_5, BK200, BK201, BK202, HB⟩ := hrel
    cases gk with
    | zero => exact absurd HA.out (by simp [capstanref01_Times.l0])
    | succ k1 =>
     have H := HA.out
     clear HA
     simp only [capstanref01_Times.l0] at H
     by_cases c16 : x6_1 < (l0_1.length : Int)
     ·rw [if_pos c16] at H
      have c16b0 : decide (x6_1 < (l0_1.length : Int)) = true := decide_eq_true c16
      clear c16
      have H' := Aside0.mk H
      clear H
      have hnb17 := NB200_201.out
      have hnc17 := NB201_200.out
      have hnb18 := NB200_202.out
      have hnc18 := NB202_200.out
      have hcz19_0 : wr.cell? ⟨gb200, 0, none⟩ = some (.bool a0_0) := (blk_cell BK200.out 0).trans rfl
      have hcz19_1 : wr.cell? ⟨gb200, 1, none⟩ = some (.slice A0_1 l0_1.length c0_1) := (blk_cell BK200.out 1).trans rfl
      have hfz19_0 := blk_frozen BK200.out 0
      have hfz19_1 := blk_frozen BK200.out 1
      go_wp2
      go_loopg [7, 8] k1 (fun kq v7 v8 w' => ∃ (x5_2 : List Int) (x7_2 : Int) (x8_2 : Int), v7 = .int .i64 x7_2 ∧ v8 = .int .i64 x8_2 ∧ Aside0 (capstanref01_Times.l1 kq x5_2 x6_1 x7_2 x8_2 a0_0 l0_1 a1_0 l1_1 = some (r1, r2)) ∧ Aside0 (kq ≤ k1) ∧ Aside0 (Kd.R (Kd.int .i64) 3 w' w.heap.size (fun _ => True) v204 x5_2) ∧ Aside0 (w'.heap[gb200]? = some (.cells #[.bool a0_0, (.slice A0_1 l0_1.length c0_1)] 105 (0, 0))) ∧ Aside0 (w'.heap[gb201]? = some (.cells #[.bool a1_0, (.slice A1_1 l1_1.length c1_1)] 105 (0, 0))) ∧ Aside0 (w'.heap[gb202]? = some (.cells #[.bool false, (.slice none 0 0)] 105 (0, 0))) ∧ Aside0 (Below w.heap.size w w'))
      case atStart => exact ⟨(x5_1), (0), (0), z13_28, z13_28, H', ⟨Nat.le_refl _⟩, ⟨by (with_reducible repeat (first | apply Kd.R_alloc | apply Kd.R_drewN | apply Kd.R_drew)); exact HO_5.out⟩, ⟨by (with_reducible repeat (first | refine blk_drewN ?_ _ | refine blk_drew ?_ | refine blk_alloc ?_ _)); exact BK200.out⟩, ⟨by (with_reducible repeat (first | refine blk_drewN ?_ _ | refine blk_drew ?_ | refine blk_alloc ?_ _)); exact BK201.out⟩, ⟨by (with_reducible repeat (first | refine blk_drewN ?_ _ | refine blk_drew ?_ | refine blk_alloc ?_ _)); exact BK202.out⟩, ⟨by repeat (first | (with_reducible first | exact HB.out | apply below_alloc | apply pw_below_drewN | apply below_drew1 | refine below_set ?_ GE200.out | refine below_set ?_ GE201.out | refine below_set ?_ GE202.out) | exact HB.out)⟩⟩
      case round =>
       clear H'
       try clear c1
       try clear p2
       try clear c4
       try clear c4b0
       try clear c4b1
       try clear c5
       try clear c5b0
       try clear c5b1
       try clear p6
       try clear c9
       try clear c10
       try clear c12
       try clear c16
       try clear c16b0
       try clear c17
       try clear c18
       try clear hcz11_0
       try clear hcz11_1
       try clear hcz13_0
       try clear hcz13_1
       try clear hcz19_0
       try clear hcz19_1
       try clear hfz11_0
       try clear hfz11_1
       try clear hfz13_0
       try clear hfz13_1
       try clear hfz19_0
       try clear hfz19_1
       try clear p2
       try clear p6
       obtain ⟨x5_2, x7_2, x8_2, rfl, rfl, HA, HK2, HO_5, BK200, BK201, BK202, HB⟩ := hrel
       cases gk with
       | zero => exact absurd HA.out (by simp [capstanref01_Times.l1])
       | succ k2 =>
        have H := HA.out
        clear HA
        simp only [capstanref01_Times.l1] at H
        by_cases c20 : x8_2 < (l1_1.length : Int)
        ·rw [if_pos c20] at H
         have c20b0 : decide (x8_2 < (l1_1.length : Int)) = true := decide_eq_true c20
         clear c20
         obtain ⟨ji21, hji21⟩ : ∃ j_ : Int, (wrap64 (x6_1 + x8_2)) = j_ := ⟨_, rfl⟩
         replace H : (if 0 ≤ (ji21) then (if (ji21) < (x5_2.length : Int) then (if 0 ≤ x6_1 then (if x6_1 < (l0_1.length : Int) then (if 0 ≤ x8_2 then (capstanref01_Times.l1 k2 (x5_2.set ((ji21) : Int).toNat (Int.tmod (wrap64 ((wrap64 ((rd x5_2 (ji21)) + (wrap64 ((rd l0_1 x6_1) * (rd l1_1 x8_2))))) + x7_2)) 65536)) x6_1 (wrap64 (Int.tdiv (wrap64 ((wrap64 ((rd x5_2 (ji21)) + (wrap64 ((rd l0_1 x6_1) * (rd l1_1 x8_2))))) + x7_2)) 65536)) (wrap64 (x8_2 + 1)) a0_0 l0_1 a1_0 l1_1) else (none)) else (none)) else (none)) else (none)) else (none)) = some (r1, r2) := by first | (rw [hji21] at H; exact H) | (simp only [hji21] at H ⊢; exact H)
         have hji21w : (IntKind.i64.wrap (x6_1 + x8_2)) = ji21 := (i64_w _).trans hji21
         by_cases c22 : 0 ≤ (ji21)
         ·rw [if_pos c22] at H
          have c22b0 : decide (0 ≤ (ji21)) = true := decide_eq_true c22
          clear c22
          by_cases c23 : (ji21) < (x5_2.length : Int)
          ·rw [if_pos c23] at H
           have c23b0 : decide ((ji21) < (x5_2.length : Int)) = true := decide_eq_true c23
           clear c23
           by_cases c24 : 0 ≤ x6_1
           ·rw [if_pos c24] at H
            have c24b0 : decide (0 ≤ x6_1) = true := decide_eq_true c24
            clear c24
            by_cases c25 : x6_1 < (l0_1.length : Int)
            ·rw [if_pos c25] at H
             have c25b0 : decide (x6_1 < (l0_1.length : Int)) = true := decide_eq_true c25
             clear c25
             by_cases c26 : 0 ≤ x8_2
             ·rw [if_pos c26] at H
              have c26b0 : decide (0 ≤ x8_2) = true := decide_eq_true c26
              clear c26
              obtain ⟨y212, hy212⟩ : ∃ y_ : List Int, y_ = (x5_2.set ((ji21) : Int).toNat (Int.tmod (wrap64 ((wrap64 ((rd x5_2 (ji21)) + (wrap64 ((rd l0_1 x6_1) * (rd l1_1 x8_2))))) + x7_2)) 65536)) := ⟨_, rfl⟩
              replace H : (capstanref01_Times.l1 k2 y212 x6_1 (wrap64 (Int.tdiv (wrap64 ((wrap64 ((rd x5_2 (ji21)) + (wrap64 ((rd l0_1 x6_1) * (rd l1_1 x8_2))))) + x7_2)) 65536)) (wrap64 (x8_2 + 1)) a0_0 l0_1 a1_0 l1_1) = some (r1, r2) := by first | (rw [hy212]; with_reducible exact H) | (have H2_ := (Option.bind_some _ _).symm.trans H; rw [hy212]; with_reducible exact H2_) | (have H2_ := (Option.bind_some _ _).symm.trans H; with_reducible exact H2_) | with_reducible exact H | (rw [hy212]; exact H) | exact H
              have Ny212 := Aside0.mk hy212
              clear hy212
              have H' := Aside0.mk H
              clear H
              have hnb28 := NB201_200.out
              have hnc28 := NB200_201.out
              have hnb29 := NB201_202.out
              have hnc29 := NB202_201.out
              have hcz30_0 : wr.cell? ⟨gb201, 0, none⟩ = some (.bool a1_0) := (blk_cell BK201.out 0).trans rfl
              have hcz30_1 : wr.cell? ⟨gb201, 1, none⟩ = some (.slice A1_1 l1_1.length c1_1) := (blk_cell BK201.out 1).trans rfl
              have hfz30_0 := blk_frozen BK201.out 0
              have hfz30_1 := blk_frozen BK201.out 1
              try go_wp2
              have n0_ := Aside0.mk (Kd.R_drew HO_5.out)
              have n1_ := Aside0.mk (blk_drew BK200.out)
              have n2_ := Aside0.mk (blk_drew BK201.out)
              have n3_ := Aside0.mk (blk_drew BK202.out)
              have n4_ := Aside0.mk (below_drew1 HB.out)
              clear HO_5
              clear BK200
              clear BK201
              clear BK202
              clear HB
              have HO_5 := n0_
              have BK200 := n1_
              have BK201 := n2_
              have BK202 := n3_
              have HB := n4_
              clear n0_ n1_ n2_ n3_ n4_
              obtain ⟨Ao32, co32, eo32⟩ := Kd.R_slice HO_5.out
              (first | subst eo32 | (injection eo32 with f1_ f2_ f3_; have f4_ := f1_.symm; have f5_ := f3_.symm; clear f1_ f2_ f3_; subst f4_; subst f5_))
              have p209 : 0 ≤ ((ji21) : Int) := of_decide_eq_true z13_27
              have q209 : (ji21) < (x5_2.length : Int) := of_decide_eq_true z13_27
              obtain ⟨ad209, e209, hx209_0⟩ := Kd.at_int (Kd.R_reads' HO_5.out).2.2 (ji21) p209 q209
              cases e209
              replace p209 := eq_true p209
              replace q209 := eq_true q209
              have p210 : 0 ≤ (x6_1 : Int) := of_decide_eq_true z13_27
              have q210 : x6_1 < (l0_1.length : Int) := of_decide_eq_true z13_27
              obtain ⟨ad210, e210, hx210_0⟩ := Kd.at_int HR0_1.out x6_1 p210 q210
              have hw210_0 := hx210_0
              cases e210
              replace hx210_0 := (HB.out.cell (World.block_lt_of_cell? w _ hx210_0)).trans hx210_0
              replace p210 := eq_true p210
              replace q210 := eq_true q210
              have p211 : 0 ≤ (x8_2 : Int) := of_decide_eq_true z13_27
              have q211 : x8_2 < (l1_1.length : Int) := of_decide_eq_true z13_27
              obtain ⟨ad211, e211, hx211_0⟩ := Kd.at_int HR1_1.out x8_2 p211 q211
              have hw211_0 := hx211_0
              cases e211
              replace hx211_0 := (HB.out.cell (World.block_lt_of_cell? w _ hx211_0)).trans hx211_0
              replace p211 := eq_true p211
              replace q211 := eq_true q211
              refine start_ (n := 21) (S := fun w' => w'.cell? ⟨gb200, 0, none⟩ = some (.bool a0_0) ∧ w'.cell? ⟨gb200, 1, none⟩ = some (.slice (some ad210) l0_1.length c0_1) ∧ w'.cell? ⟨gb201, 0, none⟩ = some (.bool a1_0) ∧ w'.cell? ⟨gb201, 1, none⟩ = some (.slice (some ad211) l1_1.length c1_1) ∧ w'.cell? (ad209.add ((ji21)).toNat) = some (.int .i64 (rd x5_2 (ji21))) ∧ w'.cell? (ad210.add (x6_1).toNat) = some (.int .i64 (rd l0_1 x6_1)) ∧ w'.cell? (ad211.add (x8_2).toNat) = some (.int .i64 (rd l1_1 x8_2))) (ds := []) #[false, false, false, false, false, false, false, false, false, false, false, false, false, false, false, false, false, false, false, false, false] (by kernel_rfl) rfl rfl ⟨(blk_cell BK200.out 0).trans rfl, (blk_cell BK200.out 1).trans rfl, (blk_cell BK201.out 0).trans rfl, (blk_cell BK201.out 1).trans rfl, hx209_0, ((HB.out.cell (World.block_lt_of_cell? w _ hw210_0)).trans hw210_0), ((HB.out.cell (World.block_lt_of_cell? w _ hw211_0)).trans hw211_0)⟩ (fun hHeld => ?_); refine with_tabW capstanref01_Times.tab9 capstanref01_Times.bits9 (fun HT_ HW_ => ?_)
              generalize wr.drew = w31 at HO_5 BK200 BK201 BK202 HB hx209_0 hx210_0 hx211_0 hHeld ⊢
              refine pure_ (i := 0) (N := some 32) (v := ?_) (a' := ?_) #[true, false, false, false, false, false, false, false, false, false, false, false, false, false, false, false, false, false, false, false, false] rfl rfl (any_of HT_.out (by kernel_rfl)) (fun _ _ _ h => h) (Or.inl ⟨by rfl, ?_⟩) ?_ ?_
              rotate_left
              ·intro w'
               go_simp
               with_reducible rfl
              rotate_left
              ·simp only [Act.put, List.setIfInBounds_toArray, List.set_cons_zero, List.set_cons_succ, i64_w, i32_w]
               rfl
              refine pure_ (i := 1) (N := some 33) (v := ?_) (a' := ?_) #[true, true, false, false, false, false, false, false, false, false, false, false, false, false, false, false, false, false, false, false, false] rfl rfl (any_of HT_.out (by kernel_rfl)) (fun _ _ _ h => h) (Or.inl ⟨by rfl, ?_⟩) ?_ ?_
              rotate_left
              ·intro w'
               go_simp
               with_reducible rfl
              rotate_left
              ·simp only [Act.put, List.setIfInBounds_toArray, List.set_cons_zero, List.set_cons_succ, i64_w, i32_w]
               rfl
              refine pure_ (i := 2) (N := some 34) (v := ?_) (a' := ?_) #[true, true, true, false, false, false, false, false, false, false, false, false, false, false, false, false, false, false, false, false, false] rfl rfl (any_of HT_.out (by kernel_rfl)) (fun _ _ _ h => h) (Or.inl ⟨by rfl, ?_⟩) ?_ ?_
              rotate_left
              ·intro w'
               go_simp
               with_reducible rfl
              rotate_left
              ·simp only [Act.put, List.setIfInBounds_toArray, List.set_cons_zero, List.set_cons_succ, i64_w, i32_w]
               rfl
              refine pure_ (i := 3) (N := some 35) (v := ?_) (a' := ?_) #[true, true, true, true, false, false, false, false, false, false, false, false, false, false, false, false, false, false, false, false, false] rfl rfl (any_of HT_.out (by kernel_rfl)) (fun _ _ _ h => h) (Or.inl ⟨by rfl, ?_⟩) ?_ ?_
              rotate_left
              ·intro w'
               go_simp
               with_reducible rfl
              rotate_left
              ·simp only [Act.put, List.setIfInBounds_toArray, List.set_cons_zero, List.set_cons_succ, i64_w, i32_w]
               rfl
              refine pure_ (i := 4) (N := some 36) (v := ?_) (a' := ?_) #[true, true, true, true, true, false, false, false, false, false, false, false, false, false, false, false, false, false, false, false, false] rfl rfl (any_of HT_.out (by kernel_rfl)) (fun _ _ _ h => h) (Or.inl ⟨by rfl, ?_⟩) ?_ ?_
              rotate_left
              ·intro w'
               go_simp
               with_reducible rfl
              rotate_left
              ·simp only [Act.put, List.setIfInBounds_toArray, List.set_cons_zero, List.set_cons_succ, i64_w, i32_w]
               rfl
              refine pure_ (i := 6) (N := some 38) (v := ?_) (a' := ?_) #[true, true, true, true, true, false, true, false, false, false, false, false, false, false, false, false, false, false, false, false, false] rfl rfl (any_of HT_.out (by kernel_rfl)) (fun _ _ _ h => h) (Or.inl ⟨by rfl, ?_⟩) ?_ ?_
              rotate_left
              ·intro w'
               go_simp
               with_reducible rfl
              rotate_left
              ·simp only [Act.put, List.setIfInBounds_toArray, List.set_cons_zero, List.set_cons_succ, i64_w, i32_w]
               rfl
              refine pure_ (i := 8) (N := some 40) (v := ?_) (a' := ?_) #[true, true, true, true, true, false, true, false, true, false, false, false, false, false, false, false, false, false, false, false, false] rfl rfl (any_of HT_.out (by kernel_rfl)) (fun _ _ _ h => h) (Or.inl ⟨by rfl, ?_⟩) ?_ ?_
              rotate_left
              ·intro w'
               go_simp
               with_reducible rfl
              rotate_left
              ·simp only [Act.put, List.setIfInBounds_toArray, List.set_cons_zero, List.set_cons_succ, i64_w, i32_w]
               rfl
              refine pure_ (i := 11) (N := some 43) (v := ?_) (a' := ?_) #[true, true, true, true, true, false, true, false, true, false, false, true, false, false, false, false, false, false, false, false, false] rfl rfl (any_of HT_.out (by kernel_rfl)) (fun _ _ _ h => h) (Or.inl ⟨by rfl, ?_⟩) ?_ ?_
              rotate_left
              ·intro w'
               go_simp
               with_reducible rfl
              rotate_left
              ·simp only [Act.put, List.setIfInBounds_toArray, List.set_cons_zero, List.set_cons_succ, i64_w, i32_w]
               rfl
              refine pure_ (i := 13) (N := some 45) (v := ?_) (a' := ?_) #[true, true, true, true, true, false, true, false, true, false, false, true, false, true, false, false, false, false, false, false, false] rfl rfl (any_of HT_.out (by kernel_rfl)) (fun _ _ _ h => h) (Or.inl ⟨by rfl, ?_⟩) ?_ ?_
              rotate_left
              ·intro w'
               go_simp
               with_reducible rfl
              rotate_left
              ·simp only [Act.put, List.setIfInBounds_toArray, List.set_cons_zero, List.set_cons_succ, i64_w, i32_w]
               rfl
              refine pure_ (i := 18) (N := some 50) (v := ?_) (a' := ?_) #[true, true, true, true, true, false, true, false, true, false, false, true, false, true, false, false, false, false, true, false, false] rfl rfl (any_of HT_.out (by kernel_rfl)) (fun _ _ _ h => h) (Or.inl ⟨by rfl, ?_⟩) ?_ ?_
              rotate_left
              ·intro w'
               go_simp
               with_reducible rfl
              rotate_left
              ·simp only [Act.put, List.setIfInBounds_toArray, List.set_cons_zero, List.set_cons_succ, i64_w, i32_w]
               rfl
              refine take_ (i := 5) (N := some 37) (v := ?_) (a' := ?_) #[true, true, true, true, true, true, true, false, true, false, false, true, false, true, false, false, false, false, true, false, false] rfl rfl (take_ofW HT_.out HW_.out (by kernel_rfl)) (fun _ _ _ h => h) (Or.inl ⟨by rfl, ?_⟩) hHeld ?_ ?_
              rotate_left
              ·rintro w' ⟨s0, s1, s2, s3, s4, s5, s6⟩
               go_simp
               with_reducible rfl
              rotate_left
              ·simp only [Act.put, List.setIfInBounds_toArray, List.set_cons_zero, List.set_cons_succ, i64_w, i32_w]
               rfl
              refine take_ (i := 7) (N := some 39) (v := ?_) (a' := ?_) #[true, true, true, true, true, true, true, true, true, false, false, true, false, true, false, false, false, false, true, false, false] rfl rfl (take_ofW HT_.out HW_.out (by kernel_rfl)) (fun _ _ _ h => h) (Or.inl ⟨by rfl, ?_⟩) hHeld ?_ ?_
              rotate_left
              ·rintro w' ⟨s0, s1, s2, s3, s4, s5, s6⟩
               go_simp
               with_reducible rfl
              rotate_left
              ·simp only [Act.put, List.setIfInBounds_toArray, List.set_cons_zero, List.set_cons_succ, i64_w, i32_w]
               rfl
              refine pure_ (i := 9) (N := some 41) (v := ?_) (a' := ?_) #[true, true, true, true, true, true, true, true, true, true, false, true, false, true, false, false, false, false, true, false, false] rfl rfl (any_of HT_.out (by kernel_rfl)) (fun _ _ _ h => h) (Or.inl ⟨by rfl, ?_⟩) ?_ ?_
              rotate_left
              ·intro w'
               go_simp
               with_reducible rfl
              rotate_left
              ·simp only [Act.put, List.setIfInBounds_toArray, List.set_cons_zero, List.set_cons_succ, i64_w, i32_w]
               rfl
              refine take_ (i := 10) (N := some 42) (v := ?_) (a' := ?_) #[true, true, true, true, true, true, true, true, true, true, true, true, false, true, false, false, false, false, true, false, false] rfl rfl (take_ofW HT_.out HW_.out (by kernel_rfl)) (fun _ _ _ h => h) (Or.inl ⟨by rfl, ?_⟩) hHeld ?_ ?_
              rotate_left
              ·rintro w' ⟨s0, s1, s2, s3, s4, s5, s6⟩
               go_simp
               with_reducible rfl
              rotate_left
              ·simp only [Act.put, List.setIfInBounds_toArray, List.set_cons_zero, List.set_cons_succ, i64_w, i32_w]
               rfl
              refine take_ (i := 12) (N := some 44) (v := ?_) (a' := ?_) #[true, true, true, true, true, true, true, true, true, true, true, true, true, true, false, false, false, false, true, false, false] rfl rfl (take_ofW HT_.out HW_.out (by kernel_rfl)) (fun _ _ _ h => h) (Or.inl ⟨by rfl, ?_⟩) hHeld ?_ ?_
              rotate_left
              ·rintro w' ⟨s0, s1, s2, s3, s4, s5, s6⟩
               go_simp
               with_reducible rfl
              rotate_left
              ·simp only [Act.put, List.setIfInBounds_toArray, List.set_cons_zero, List.set_cons_succ, i64_w, i32_w]
               rfl
              refine pure_ (i := 14) (N := some 46) (v := ?_) (a' := ?_) #[true, true, true, true, true, true, true, true, true, true, true, true, true, true, true, false, false, false, true, false, false] rfl rfl (any_of HT_.out (by kernel_rfl)) (fun _ _ _ h => h) (Or.inl ⟨by rfl, ?_⟩) ?_ ?_
              rotate_left
              ·intro w'
               go_simp
               with_reducible rfl
              rotate_left
              ·simp only [Act.put, List.setIfInBounds_toArray, List.set_cons_zero, List.set_cons_succ, i64_w, i32_w]
               rfl
              refine take_ (i := 15) (N := some 47) (v := ?_) (a' := ?_) #[true, true, true, true, true, true, true, true, true, true, true, true, true, true, true, true, false, false, true, false, false] rfl rfl (take_ofW HT_.out HW_.out (by kernel_rfl)) (fun _ _ _ h => h) (Or.inl ⟨by rfl, ?_⟩) hHeld ?_ ?_
              rotate_left
              ·rintro w' ⟨s0, s1, s2, s3, s4, s5, s6⟩
               go_simp
               with_reducible rfl
              rotate_left
              ·simp only [Act.put, List.setIfInBounds_toArray, List.set_cons_zero, List.set_cons_succ, i64_w, i32_w]
               rfl
              refine pure_ (i := 16) (N := some 48) (v := ?_) (a' := ?_) #[true, true, true, true, true, true, true, true, true, true, true, true, true, true, true, true, true, false, true, false, false] rfl rfl (any_of HT_.out (by kernel_rfl)) (fun _ _ _ h => h) (Or.inl ⟨by rfl, ?_⟩) ?_ ?_
              rotate_left
              ·intro w'
               go_simp
               with_reducible rfl
              rotate_left
              ·simp only [Act.put, List.setIfInBounds_toArray, List.set_cons_zero, List.set_cons_succ, i64_w, i32_w]
               rfl
              refine pure_ (i := 17) (N := some 49) (v := ?_) (a' := ?_) #[true, true, true, true, true, true, true, true, true, true, true, true, true, true, true, true, true, true, true, false, false] rfl rfl (any_of HT_.out (by kernel_rfl)) (fun _ _ _ h => h) (Or.inl ⟨by rfl, ?_⟩) ?_ ?_
              rotate_left
              ·intro w'
               go_simp
               with_reducible rfl
              rotate_left
              ·simp only [Act.put, List.setIfInBounds_toArray, List.set_cons_zero, List.set_cons_succ, i64_w, i32_w]
               rfl
              refine pure_ (i := 19) (N := some 51) (v := ?_) (a' := ?_) #[true, true, true, true, true, true, true, true, true, true, true, true, true, true, true, true, true, true, true, true, false] rfl rfl (any_of HT_.out (by kernel_rfl)) (fun _ _ _ h => h) (Or.inl ⟨by rfl, ?_⟩) ?_ ?_
              rotate_left
              ·intro w'
               go_simp
               with_reducible rfl
              rotate_left
              ·simp only [Act.put, List.setIfInBounds_toArray, List.set_cons_zero, List.set_cons_succ, i64_w, i32_w]
               rfl
              refine pure_ (i := 20) (N := some 9) (v := ?_) (a' := ?_) #[true, true, true, true, true, true, true, true, true, true, true, true, true, true, true, true, true, true, true, true, true] rfl rfl (any_of HT_.out (by kernel_rfl)) (fun _ _ _ h => h) (Or.inl ⟨by rfl, ?_⟩) ?_ ?_
              rotate_left
              ·intro w'
               go_simp
               with_reducible rfl
              rotate_left
              ·simp only [Act.put, List.setIfInBounds_toArray, List.set_cons_zero, List.set_cons_succ, i64_w, i32_w]
               rfl
              refine done_ (done_of HT_.out (by kernel_rfl)) ?_
              have p27 : 0 ≤ ((ji21) : Int) := of_decide_eq_true z13_27
              have q27 : ((ji21) : Int) < ((x5_2.length : Int) : Int) := of_decide_eq_true z13_27
              obtain ⟨go27, co27, eo27, gb27, gl27, cl27, HG27⟩ := Kd.R_form HO_5.out (by omega)
              (first | cases eo27 | (injection eo27 with ea_ en_ ec_; (first | subst ea_ | (injection ea_ with ea_; subst ea_)); subst ec_; clear en_))
              have GB27 := Aside0.mk gb27
              have GG27 := Aside0.mk HG27
              clear gb27 gl27 HG27
              (first | simp only [add_plain] at hx209_0 | skip)
              obtain ⟨hx27_0, hf27_0⟩ := Kd.R_celln 0 HO_5.out ((ji21) : Int) p27 q27
              replace p27 := eq_true p27
              replace q27 := eq_true q27
              obtain ⟨hy33_, hz33_⟩ := Kd.R_celln 0 HO_5.out ((ji21) : Int) (of_decide_eq_true z13_27) (of_decide_eq_true z13_27)
              have HP33 := Kd.R_putg HO_5.out ((ji21) : Int) (Int.tmod (wrap64 ((wrap64 ((rd x5_2 (ji21)) + (wrap64 ((rd l0_1 x6_1) * (rd l1_1 x8_2))))) + x7_2)) 65536)
              try go_wp2_with (first | ((with_reducible refine gate_store (t := 3) (p := 58) rfl ?_); refine store_event (t := 3) (p := 58) (v := ?vo_w34) (w1 := (w31.setCell ⟨go27, ((ji21) : Int).toNat, none⟩ (.int .i64 (Int.tmod (wrap64 ((wrap64 ((rd x5_2 (ji21)) + (wrap64 ((rd l0_1 x6_1) * (rd l1_1 x8_2))))) + x7_2)) 65536)))) ?hg ?ho ?hn ?hr ?_; (case ho => rfl); (case hg => rfl); (case hn => rfl); (case hr => first | (go_simp; done) | (go_simp; rfl)); intro w34 hw; have hg : w31.grownBy w34 (some go27) := (by rw [hw]; exact HP33.2); have hp_ : Kd.R (Kd.int .i64) 3 w34 w.heap.size (fun _ => True) (.slice (some ⟨go27, 0, none⟩) x5_2.length co32) y212 := (by rw [hw, Ny212.out]; exact HP33.1); clear HP33; have n0_ := Aside0.mk (hp_); have n1_ := Aside0.mk (blk_grown (g := gb200) (o := .cells #[.bool a0_0, .slice (some ad210) l0_1.length c0_1] 105 (0, 0)) (by (with_reducible repeat (first | refine blk_drewN ?_ _ | refine blk_drew ?_ | refine blk_alloc ?_ _)); exact BK200.out) hg (Kd.R_ne HO_5.out BK200.out (by decide))); have n2_ := Aside0.mk (blk_grown (g := gb201) (o := .cells #[.bool a1_0, .slice (some ad211) l1_1.length c1_1] 105 (0, 0)) (by (with_reducible repeat (first | refine blk_drewN ?_ _ | refine blk_drew ?_ | refine blk_alloc ?_ _)); exact BK201.out) hg (Kd.R_ne HO_5.out BK201.out (by decide))); have n3_ := Aside0.mk (blk_grown (g := gb202) (o := .cells #[.bool false, .slice none 0 0] 105 (0, 0)) (by (with_reducible repeat (first | refine blk_drewN ?_ _ | refine blk_drew ?_ | refine blk_alloc ?_ _)); exact BK202.out) hg (Kd.R_ne HO_5.out BK202.out (by decide))); have n4_ := Aside0.mk ((by rw [hw]; exact below_set (HB.out) GB27.out : Below w.heap.size w w34)); clear HO_5; clear BK200; clear BK201; clear BK202; clear HB; have HO_5 := n0_; have BK200 := n1_; have BK201 := n2_; have BK202 := n3_; have HB := n4_; clear n0_ n1_ n2_ n3_ n4_; clear hg hw hp_))
              go_roundg k2
              case measure => have := HK1.out; have := HK2.out; omega
              case rel => exact ⟨(y212), (wrap64 (Int.tdiv (wrap64 ((wrap64 ((rd x5_2 (ji21)) + (wrap64 ((rd l0_1 x6_1) * (rd l1_1 x8_2))))) + x7_2)) 65536)), (wrap64 (x8_2 + 1)), (by first | rfl | (simp; done) | (simp only [← hji21] <;> (first | rfl | simp)) | (simp [*]; done)), z13_28, H', ⟨by have := HK1.out; have := HK2.out; omega⟩, ⟨by (with_reducible repeat (first | apply Kd.R_alloc | apply Kd.R_drewN | apply Kd.R_drew)); exact HO_5.out⟩, ⟨by (with_reducible repeat (first | refine blk_drewN ?_ _ | refine blk_drew ?_ | refine blk_alloc ?_ _)); exact BK200.out⟩, ⟨by (with_reducible repeat (first | refine blk_drewN ?_ _ | refine blk_drew ?_ | refine blk_alloc ?_ _)); exact BK201.out⟩, ⟨by (with_reducible repeat (first | refine blk_drewN ?_ _ | refine blk_drew ?_ | refine blk_alloc ?_ _)); exact BK202.out⟩, ⟨by repeat (first | (with_reducible first | exact HB.out | apply below_alloc | apply pw_below_drewN | apply below_drew1 | refine below_set ?_ GE200.out | refine below_set ?_ GE201.out | refine below_set ?_ GE202.out) | exact HB.out)⟩⟩
             ·rw [if_neg c26] at H
              exact absurd H (by simp)
            ·rw [if_neg c25] at H
             exact absurd H (by simp)
           ·rw [if_neg c24] at H
            exact absurd H (by simp)
          ·rw [if_neg c23] at H
           exact absurd H (by simp)
         ·rw [if_neg c22] at H
          exact absurd H (by simp)
        ·rw [if_neg c20] at H
         have c20b0 : decide (x8_2 < (l1_1.length : Int)) = false := decide_eq_false c20
         clear c20
         obtain ⟨ji35, hji35⟩ : ∃ j_ : Int, (wrap64 (x6_1 + (l1_1.length : Int))) = j_ := ⟨_, rfl⟩
         replace H : (if 0 ≤ (ji35) then (if (ji35) < (x5_2.length : Int) then (capstanref01_Times.l0 k2 (x5_2.set ((ji35) : Int).toNat x7_2) (wrap64 (x6_1 + 1)) a0_0 l0_1 a1_0 l1_1) else (none)) else (none)) = some (r1, r2) := by first | (rw [hji35] at H; exact H) | (simp only [hji35] at H ⊢; exact H)
         have hji35w : (IntKind.i64.wrap (x6_1 + (l1_1.length : Int))) = ji35 := (i64_w _).trans hji35
         by_cases c36 : 0 ≤ (ji35)
         ·rw [if_pos c36] at H
          have c36b0 : decide (0 ≤ (ji35)) = true := decide_eq_true c36
          clear c36
          by_cases c37 : (ji35) < (x5_2.length : Int)
          ·rw [if_pos c37] at H
           have c37b0 : decide ((ji35) < (x5_2.length : Int)) = true := decide_eq_true c37
           clear c37
           obtain ⟨y213, hy213⟩ : ∃ y_ : List Int, y_ = (x5_2.set ((ji35) : Int).toNat x7_2) := ⟨_, rfl⟩
           replace H : (capstanref01_Times.l0 k2 y213 (wrap64 (x6_1 + 1)) a0_0 l0_1 a1_0 l1_1) = some (r1, r2) := by first | (rw [hy213]; with_reducible exact H) | (have H2_ := (Option.bind_some _ _).symm.trans H; rw [hy213]; with_reducible exact H2_) | (have H2_ := (Option.bind_some _ _).symm.trans H; with_reducible exact H2_) | with_reducible exact H | (rw [hy213]; exact H) | exact H
           have Ny213 := Aside0.mk hy213
           clear hy213
           have H' := Aside0.mk H
           clear H
           have hnb39 := NB201_200.out
           have hnc39 := NB200_201.out
           have hnb40 := NB201_202.out
           have hnc40 := NB202_201.out
           have hcz41_0 : wr.cell? ⟨gb201, 0, none⟩ = some (.bool a1_0) := (blk_cell BK201.out 0).trans rfl
           have hcz41_1 : wr.cell? ⟨gb201, 1, none⟩ = some (.slice A1_1 l1_1.length c1_1) := (blk_cell BK201.out 1).trans rfl
           have hfz41_0 := blk_frozen BK201.out 0
           have hfz41_1 := blk_frozen BK201.out 1
           have p38 : 0 ≤ ((ji35) : Int) := of_decide_eq_true z13_27
           have q38 : ((ji35) : Int) < ((x5_2.length : Int) : Int) := of_decide_eq_true z13_27
           obtain ⟨go38, co38, eo38, gb38, gl38, cl38, HG38⟩ := Kd.R_form HO_5.out (by omega)
           (first | cases eo38 | (injection eo38 with ea_ en_ ec_; (first | subst ea_ | (injection ea_ with ea_; subst ea_)); subst ec_; clear en_))
           have GB38 := Aside0.mk gb38
           have GG38 := Aside0.mk HG38
           clear gb38 gl38 HG38
           obtain ⟨hx38_0, hf38_0⟩ := Kd.R_celln 0 HO_5.out ((ji35) : Int) p38 q38
           replace p38 := eq_true p38
           replace q38 := eq_true q38
           have HP42 := Kd.R_putg HO_5.out ((ji35) : Int) x7_2
           go_wp2_with (first | ((with_reducible refine gate_store (t := 3) (p := 68) rfl ?_); refine store_event (t := 3) (p := 68) (v := ?vo_w43) (w1 := (wr.setCell ⟨go38, ((ji35) : Int).toNat, none⟩ (.int .i64 x7_2))) ?hg ?ho ?hn ?hr ?_; (case ho => rfl); (case hg => rfl); (case hn => rfl); (case hr => first | (go_simp; done) | (go_simp; rfl)); intro w43 hw; have hg : wr.grownBy w43 (some go38) := (by rw [hw]; exact HP42.2); have hp_ : Kd.R (Kd.int .i64) 3 w43 w.heap.size (fun _ => True) (.slice (some ⟨go38, 0, none⟩) x5_2.length co38) y213 := (by rw [hw, Ny213.out]; exact HP42.1); clear HP42; have n0_ := Aside0.mk (hp_); have n1_ := Aside0.mk (blk_grown (g := gb200) (o := .cells #[.bool a0_0, .slice A0_1 l0_1.length c0_1] 105 (0, 0)) (by (with_reducible repeat (first | refine blk_drewN ?_ _ | refine blk_drew ?_ | refine blk_alloc ?_ _)); exact BK200.out) hg (Kd.R_ne HO_5.out BK200.out (by decide))); have n2_ := Aside0.mk (blk_grown (g := gb201) (o := .cells #[.bool a1_0, .slice A1_1 l1_1.length c1_1] 105 (0, 0)) (by (with_reducible repeat (first | refine blk_drewN ?_ _ | refine blk_drew ?_ | refine blk_alloc ?_ _)); exact BK201.out) hg (Kd.R_ne HO_5.out BK201.out (by decide))); have n3_ := Aside0.mk (blk_grown (g := gb202) (o := .cells #[.bool false, .slice none 0 0] 105 (0, 0)) (by (with_reducible repeat (first | refine blk_drewN ?_ _ | refine blk_drew ?_ | refine blk_alloc ?_ _)); exact BK202.out) hg (Kd.R_ne HO_5.out BK202.out (by decide))); have n4_ := Aside0.mk ((by rw [hw]; exact below_set (HB.out) GB38.out : Below w.heap.size w w43)); clear HO_5; clear BK200; clear BK201; clear BK202; clear HB; have HO_5 := n0_; have BK200 := n1_; have BK201 := n2_; have BK202 := n3_; have HB := n4_; clear n0_ n1_ n2_ n3_ n4_; clear hg hw hp_))
           go_roundg k2
           case measure => have := HK1.out; have := HK2.out; omega
           case rel => exact ⟨(y213), (wrap64 (x6_1 + 1)), z13_28, H', ⟨by have := HK1.out; have := HK2.out; omega⟩, ⟨by (with_reducible repeat (first | apply Kd.R_alloc | apply Kd.R_drewN | apply Kd.R_drew)); exact HO_5.out⟩, ⟨by (with_reducible repeat (first | refine blk_drewN ?_ _ | refine blk_drew ?_ | refine blk_alloc ?_ _)); exact BK200.out⟩, ⟨by (with_reducible repeat (first | refine blk_drewN ?_ _ | refine blk_drew ?_ | refine blk_alloc ?_ _)); exact BK201.out⟩, ⟨by (with_reducible repeat (first | refine blk_drewN ?_ _ | refine blk_drew ?_ | refine blk_alloc ?_ _)); exact BK202.out⟩, ⟨by repeat (first | (with_reducible first | exact HB.out | apply below_alloc | apply pw_below_drewN | apply below_drew1 | refine below_set ?_ GE200.out | refine below_set ?_ GE201.out | refine below_set ?_ GE202.out) | exact HB.out)⟩⟩
          ·rw [if_neg c37] at H
           exact absurd H (by simp)
         ·rw [if_neg c36] at H
          exact absurd H (by simp)
     ·rw [if_neg c16] at H
      have c16b0 : decide (x6_1 < (l0_1.length : Int)) = false := decide_eq_false c16
      clear c16
      replace H := Option.bind_eq_some_iff.mp H
      obtain ⟨t206, A440, H⟩ := H
      replace H : (some ((a0_0 != a1_0), t206)) = some (r1, r2) := H
      have A44 := Aside0.mk A440
      clear A440
      simp only [Option.some.injEq, Prod.mk.injEq] at H
      obtain ⟨rfl, rfl⟩ := H
      have hnb45 := NB200_201.out
      have hnc45 := NB201_200.out
      have hnb46 := NB200_202.out
      have hnc46 := NB202_200.out
      have hcz47_0 : wr.cell? ⟨gb200, 0, none⟩ = some (.bool a0_0) := (blk_cell BK200.out 0).trans rfl
      have hcz47_1 : wr.cell? ⟨gb200, 1, none⟩ = some (.slice A0_1 l0_1.length c0_1) := (blk_cell BK200.out 1).trans rfl
      have hfz47_0 := blk_frozen BK200.out 0
      have hfz47_1 := blk_frozen BK200.out 1
      try go_wp2
      have n0_ := Aside0.mk (Kd.R_drew HO_5.out)
      have n1_ := Aside0.mk (blk_drew BK200.out)
      have n2_ := Aside0.mk (blk_drew BK201.out)
      have n3_ := Aside0.mk (blk_drew BK202.out)
      have n4_ := Aside0.mk (below_drew1 HB.out)
      clear HO_5
      clear BK200
      clear BK201
      clear BK202
      clear HB
      have HO_5 := n0_
      have BK200 := n1_
      have BK201 := n2_
      have BK202 := n3_
      have HB := n4_
      clear n0_ n1_ n2_ n3_ n4_
      obtain ⟨Ao49, co49, eo49⟩ := Kd.R_slice HO_5.out
      (first | subst eo49 | (injection eo49 with f1_ f2_ f3_; have f4_ := f1_.symm; have f5_ := f3_.symm; clear f1_ f2_ f3_; subst f4_; subst f5_))
      refine start_ (n := 9) (S := fun w' => w'.cell? ⟨gb200, 0, none⟩ = some (.bool a0_0) ∧ w'.cell? ⟨gb200, 1, none⟩ = some (.slice A0_1 l0_1.length c0_1) ∧ w'.cell? ⟨gb201, 0, none⟩ = some (.bool a1_0) ∧ w'.cell? ⟨gb201, 1, none⟩ = some (.slice A1_1 l1_1.length c1_1)) (ds := []) #[false, false, false, false, false, false, false, false, false] (by kernel_rfl) rfl rfl ⟨(blk_cell BK200.out 0).trans rfl, (blk_cell BK200.out 1).trans rfl, (blk_cell BK201.out 0).trans rfl, (blk_cell BK201.out 1).trans rfl⟩ (fun hHeld => ?_); refine with_tabW capstanref01_Times.tab13 capstanref01_Times.bits13 (fun HT_ HW_ => ?_)
      generalize wr.drew = w48 at HO_5 BK200 BK201 BK202 HB hHeld ⊢
      refine pure_ (i := 0) (N := some 69) (v := ?_) (a' := ?_) #[true, false, false, false, false, false, false, false, false] rfl rfl (any_of HT_.out (by kernel_rfl)) (fun _ _ _ h => h) (Or.inl ⟨by rfl, ?_⟩) ?_ ?_
      rotate_left
      ·intro w'
       go_simp
       with_reducible rfl
      rotate_left
      ·simp only [Act.put, List.setIfInBounds_toArray, List.set_cons_zero, List.set_cons_succ, i64_w, i32_w]
       rfl
      refine pure_ (i := 2) (N := some 71) (v := ?_) (a' := ?_) #[true, false, true, false, false, false, false, false, false] rfl rfl (any_of HT_.out (by kernel_rfl)) (fun _ _ _ h => h) (Or.inl ⟨by rfl, ?_⟩) ?_ ?_
      rotate_left
      ·intro w'
       go_simp
       with_reducible rfl
      rotate_left
      ·simp only [Act.put, List.setIfInBounds_toArray, List.set_cons_zero, List.set_cons_succ, i64_w, i32_w]
       rfl
      refine pure_ (i := 5) (N := some 74) (v := ?_) (a' := ?_) #[true, false, true, false, false, true, false, false, false] rfl rfl (any_of HT_.out (by kernel_rfl)) (fun _ _ _ h => h) (Or.inl ⟨by rfl, ?_⟩) ?_ ?_
      rotate_left
      ·intro w'
       go_simp
       with_reducible rfl
      rotate_left
      ·simp only [Act.put, List.setIfInBounds_toArray, List.set_cons_zero, List.set_cons_succ, i64_w, i32_w]
       rfl
      refine take_ (i := 1) (N := some 70) (v := ?_) (a' := ?_) #[true, true, true, false, false, true, false, false, false] rfl rfl (take_ofW HT_.out HW_.out (by kernel_rfl)) (fun _ _ _ h => h) (Or.inl ⟨by rfl, ?_⟩) hHeld ?_ ?_
      rotate_left
      ·rintro w' ⟨s0, s1, s2, s3⟩
       go_simp
       with_reducible rfl
      rotate_left
      ·simp only [Act.put, List.setIfInBounds_toArray, List.set_cons_zero, List.set_cons_succ, i64_w, i32_w]
       rfl
      refine take_ (i := 3) (N := some 72) (v := ?_) (a' := ?_) #[true, true, true, true, false, true, false, false, false] rfl rfl (take_ofW HT_.out HW_.out (by kernel_rfl)) (fun _ _ _ h => h) (Or.inl ⟨by rfl, ?_⟩) hHeld ?_ ?_
      rotate_left
      ·rintro w' ⟨s0, s1, s2, s3⟩
       go_simp
       with_reducible rfl
      rotate_left
      ·simp only [Act.put, List.setIfInBounds_toArray, List.set_cons_zero, List.set_cons_succ, i64_w, i32_w]
       rfl
      refine pure_ (i := 4) (N := some 73) (v := ?_) (a' := ?_) #[true, true, true, true, true, true, false, false, false] rfl rfl (any_of HT_.out (by kernel_rfl)) (fun _ _ _ h => h) (Or.inl ⟨by rfl, ?_⟩) ?_ ?_
      rotate_left
      ·intro w'
       go_simp
       with_reducible rfl
      rotate_left
      ·simp only [Act.put, List.setIfInBounds_toArray, List.set_cons_zero, List.set_cons_succ, i64_w, i32_w]
       rfl
      refine one_ (i := 6) (N := some 75) #[true, true, true, true, true, true, true, false, false] rfl rfl (one_of HT_.out (by kernel_rfl)) (by decide) (fun K hK => ?_)
      refine goes_ Tryz.func90 (by kernel_rfl) rfl #[.slice Ao49 x5_1.length co49] (by rfl) rfl rfl z13_6 ?_
      with_reducible refine (capstanref01_trim.calls k1 (fun k_ => some k_ = (.slice Ao49 x5_1.length co49 : Value).ownBlock) (.slice Ao49 x5_1.length co49) x5_1 t206 w _ ?side1 ?side2 A44.out).mono ?_
      (case side1 => repeat (first | (with_reducible first | exact HB.out | apply below_alloc | apply pw_below_drewN | apply below_drew1 | refine below_set ?_ GE200.out | refine below_set ?_ GE201.out | refine below_set ?_ GE202.out) | exact HB.out))
      (case side2 => exact Kd.R_tight rfl HO_5.out)
      rintro e w50 ⟨v207, rfl, ho0, hb, hkp⟩
      refine ⟨_, rfl, ?_⟩
      have n0_ := Aside0.mk (blk_kept (by (with_reducible repeat (first | refine blk_drewN ?_ _ | refine blk_drew ?_ | refine blk_alloc ?_ _)); exact BK200.out) hkp (fun hs_ => (fun e_ => (Kd.R_ne HO_5.out BK200.out (by decide)) e_) hs_))
      have n1_ := Aside0.mk (blk_kept (by (with_reducible repeat (first | refine blk_drewN ?_ _ | refine blk_drew ?_ | refine blk_alloc ?_ _)); exact BK201.out) hkp (fun hs_ => (fun e_ => (Kd.R_ne HO_5.out BK201.out (by decide)) e_) hs_))
      have n2_ := Aside0.mk (blk_kept (by (with_reducible repeat (first | refine blk_drewN ?_ _ | refine blk_drew ?_ | refine blk_alloc ?_ _)); exact BK202.out) hkp (fun hs_ => (fun e_ => (Kd.R_ne HO_5.out BK202.out (by decide)) e_) hs_))
      have n3_ := Aside0.mk (Kd.R_mono (ok' := fun k_ => True) ho0 (fun k_ hk_ => trivial))
      have n4_ := Aside0.mk (hb)
      clear BK200
      clear BK201
      clear BK202
      clear HB
      clear HO_5
      have BK200 := n0_
      have BK201 := n1_
      have BK202 := n2_
      have HO208 := n3_
      have HB := n4_
      clear n0_ n1_ n2_ n3_ n4_
      (try clear hb)
      (try clear hkp)
      (try clear ho0)
      obtain ⟨Ao51, co51, eo51⟩ := Kd.R_slice HO208.out
      (first | subst eo51 | (injection eo51 with f1_ f2_ f3_; have f4_ := f1_.symm; have f5_ := f3_.symm; clear f1_ f2_ f3_; subst f4_; subst f5_))
      refine hK.out _ _ ⟨(blk_cell BK200.out 0).trans rfl, (blk_cell BK200.out 1).trans rfl, (blk_cell BK201.out 0).trans rfl, (blk_cell BK201.out 1).trans rfl⟩ (fun hHeld => ?_)
      clear hK K
      refine norm_ (a' := ?_) ?_ ?_
      rotate_left
      ·show Act.put _ (some 75) _ = _
       simp only [Act.put, List.setIfInBounds_toArray, List.set_cons_zero, List.set_cons_succ, i64_w, i32_w]
       rfl
      refine pure_ (i := 7) (N := some 76) (v := ?_) (a' := ?_) #[true, true, true, true, true, true, true, true, false] rfl rfl (any_of HT_.out (by kernel_rfl)) (fun _ _ _ h => h) (Or.inl ⟨by rfl, ?_⟩) ?_ ?_
      rotate_left
      ·intro w'
       go_simp
       with_reducible rfl
      rotate_left
      ·simp only [Act.put, List.setIfInBounds_toArray, List.set_cons_zero, List.set_cons_succ, i64_w, i32_w]
       rfl
      refine one_ (i := 8) (N := none) #[true, true, true, true, true, true, true, true, true] rfl rfl (one_of HT_.out (by kernel_rfl)) (by decide) (fun K hK => ?_)
      have hs52 : w50.cell? ⟨gb202, 0, none⟩ = some (.bool false) := (blk_cell BK202.out 0).trans rfl
      have hfs52 := blk_frozen BK202.out 0
      have hns52_0 := NB200_202.out
      have hns52_1 := NB201_202.out
      have hms52_0 := NB202_200.out
      have hms52_1 := NB202_201.out
      have hs53 : w50.cell? ⟨gb202, 1, none⟩ = some (.slice none 0 0) := (blk_cell BK202.out 1).trans rfl
      have hfs53 := blk_frozen BK202.out 1
      have hns53_0 := NB200_202.out
      have hns53_1 := NB201_202.out
      have hms53_0 := NB202_200.out
      have hms53_1 := NB202_201.out
      refine skip_ (w1 := ?_) (by rfl) rfl ?_ ?_
      rotate_left
      ·go_simp
       rfl
      refine hK.out _ _ ⟨((cell_far (p := ⟨gb202, _, none⟩) NB200_202.out _).trans (((cell_far (p := ⟨gb202, _, none⟩) NB200_202.out _).trans (hHeld.1)))), ((cell_far (p := ⟨gb202, _, none⟩) NB200_202.out _).trans (((cell_far (p := ⟨gb202, _, none⟩) NB200_202.out _).trans (hHeld.2.1)))), ((cell_far (p := ⟨gb202, _, none⟩) NB201_202.out _).trans (((cell_far (p := ⟨gb202, _, none⟩) NB201_202.out _).trans (hHeld.2.2.1)))), ((cell_far (p := ⟨gb202, _, none⟩) NB201_202.out _).trans (((cell_far (p := ⟨gb202, _, none⟩) NB201_202.out _).trans (hHeld.2.2.2))))⟩ (fun hHeld => ?_)
      clear hK K
      refine done_ (done_of HT_.out (by kernel_rfl)) ?_
      try go_wp2
      refine bodyPost_ret (results_cell_row rfl _ _ gb202 105 #[.bool (a0_0 != a1_0), .slice Ao51 t206.length co51] (0, 0) _ rfl (by (with_reducible repeat (first | refine blk_drewN ?_ _ | refine blk_drew ?_ | refine blk_alloc ?_ _)); refine blk_put (cs := #[.bool (a0_0 != a1_0), .slice none 0 0]) ?_ 1 _ rfl; (with_reducible repeat (first | refine blk_drewN ?_ _ | refine blk_drew ?_ | refine blk_alloc ?_ _)); refine blk_put (cs := #[.bool false, .slice none 0 0]) ?_ 0 _ rfl; (with_reducible repeat (first | refine blk_drewN ?_ _ | refine blk_drew ?_ | refine blk_alloc ?_ _)); exact BK202.out) Tryz.underlying105 rfl (by kernel_rfl)) rfl ?_
      exact ⟨_, by first | rfl | (simp [errW_none, errW_some] <;> rfl) | (simp only [← hji3]; first | rfl | (simp [errW_none, errW_some] <;> rfl)) | (simp [*, errW_none, errW_some] <;> rfl), by (with_reducible repeat (first | apply Kd.R_alloc | apply Kd.R_drewN | apply Kd.R_drew)); exact Kd.R_mono (Kd.R_far (p := ⟨gb202, 1, none⟩) (Kd.R_far (p := ⟨gb202, 0, none⟩) (Kd.R_types HO208.out BK202.out (by decide)) (fun _ hk => hk.2) (.bool (a0_0 != a1_0))) (fun _ hk => hk.2) (.slice Ao51 t206.length co51)) (fun _ hk => trivial), by repeat (first | (with_reducible first | exact HB.out | apply below_alloc | apply pw_below_drewN | apply below_drew1 | refine below_set ?_ GE200.out | refine below_set ?_ GE201.out | refine below_set ?_ GE202.out) | exact HB.out)⟩
  ·rw [if_neg c5] at H
   exact absurd H (by simp)
 ·rw [if_neg c4] at H
  exact absurd H (by simp)

end Go.Proofs.YtpljkcakijkklaaGreatDoor.XRef01

end
section
namespace Go.Proofs.YtpljkcakijkklaaGreatDoor.XRef01
open Go.RowKit Go.Proofs.YtpljkcakijkklaaGreatDoorW.PrintWords Go.Proofs.YtpljkcakijkklaaGreatDoorW.PrintLast Go.Proofs.YtpljkcakijkklaaGreatDoorW.PrintMore
attribute [local go_sem] max2_int max_two
mutual
def capstanref01_Over.l0 : Nat → Int → List Int → Int → Int → Bool → List Int → Option (Bool × List Int)
 | 0, _, _, _, _, _, _ => none
 | k + 1, x1, x5, x6, x7, x215000, x215001 => if x7 ≥ 0 then (capstanref01_Over.l1 k x1 x5 x6 x7 15 x215000 x215001) else ((capstanref01_trim.f k x5).bind fun t224 => (if x215000 = true then (if x6 > 0 then ((capstanref01_sum.f k t224 (([1] : List Int))).bind fun t230 => (some (x215000, t230))) else (some (x215000, t224))) else (some (x215000, t224))))
def capstanref01_Over.l1 : Nat → Int → List Int → Int → Int → Int → Bool → List Int → Option (Bool × List Int)
 | 0, _, _, _, _, _, _, _ => none
 | k + 1, x1, x5, x6, x7, x8, x215000, x215001 => if x8 ≥ 0 then (if 0 ≤ x7 then (if x7 < (x215001.length : Int) then (if 0 ≤ (IntKind.u64.wrap (x8)) then (if x7 < (x5.length : Int) then ((some (x5.set (x7 : Int).toNat (wrap64 (2 * (rd x5 x7))) : List Int)).bind fun y221 => (if (IntKind.u64.wrap ((IntKind.u64.wrap (2 * x6)) + (IntKind.u64.wrap (Int.tmod (shr .i64 (rd x215001 x7) (IntKind.u64.wrap (x8))) 2)))) ≥ (IntKind.u64.wrap (x1)) then (capstanref01_Over.l1 k x1 (y221.set (x7 : Int).toNat (wrap64 ((rd y221 x7) + 1))) (IntKind.u64.wrap ((IntKind.u64.wrap ((IntKind.u64.wrap (2 * x6)) + (IntKind.u64.wrap (Int.tmod (shr .i64 (rd x215001 x7) (IntKind.u64.wrap (x8))) 2)))) - (IntKind.u64.wrap (x1)))) x7 (wrap64 (x8 - 1)) x215000 x215001) else (capstanref01_Over.l1 k x1 y221 (IntKind.u64.wrap ((IntKind.u64.wrap (2 * x6)) + (IntKind.u64.wrap (Int.tmod (shr .i64 (rd x215001 x7) (IntKind.u64.wrap (x8))) 2)))) x7 (wrap64 (x8 - 1)) x215000 x215001))) else (none)) else (none)) else (none)) else (none)) else (capstanref01_Over.l0 k x1 x5 x6 (wrap64 (x7 - 1)) x215000 x215001)
end
def capstanref01_Over.f (k : Nat) (a0_0 : Bool) (l0_1 : List Int) (a1 : Int) : Option (Bool × List Int) := if 0 ≤ (l0_1.length : Int) then (if ((l0_1.length : Int) : Int).toNat ≤ 35184372088832 then (capstanref01_Over.l0 k a1 (List.replicate ((l0_1.length : Int) : Int).toNat 0) 0 (wrap64 ((l0_1.length : Int) - 1)) a0_0 l0_1) else (none)) else (none)
theorem capstanref01_Over.mono_l : ∀ k, (∀ y0 y1 y2 y3 y4 y5, LeO (capstanref01_Over.l0 k y0 y1 y2 y3 y4 y5) (capstanref01_Over.l0 (k + 1) y0 y1 y2 y3 y4 y5)) ∧ (∀ y0 y1 y2 y3 y4 y5 y6, LeO (capstanref01_Over.l1 k y0 y1 y2 y3 y4 y5 y6) (capstanref01_Over.l1 (k + 1) y0 y1 y2 y3 y4 y5 y6))
 | 0 => ⟨fun _ _ _ _ _ _ r h => by simp [capstanref01_Over.l0] at h, fun _ _ _ _ _ _ _ r h => by simp [capstanref01_Over.l1] at h⟩
 | k + 1 => by
  obtain ⟨ih0, ih1⟩ := capstanref01_Over.mono_l k
  refine ⟨?_, ?_⟩
  ·intro y0 y1 y2 y3 y4 y5
   unfold capstanref01_Over.l0
   repeat' first
   | (with_reducible exact ih0 _ _ _ _ _ _)
   | (with_reducible exact ih1 _ _ _ _ _ _ _)
   | (with_reducible exact capstanref01_sum.mono _ _ _)
   | (with_reducible exact capstanref01_trim.mono _ _)
   | (with_reducible exact LeO.refl _)
   | (with_reducible exact LeO.none _)
   | (with_reducible refine LeO.ite ?_ ?_)
   | (with_reducible refine LeO.bind ?_ (fun _ => ?_))
   | exact ih0 _ _ _ _ _ _
   | exact ih1 _ _ _ _ _ _ _
   | exact capstanref01_sum.mono _ _ _
   | exact capstanref01_trim.mono _ _
   | exact LeO.none _
   | refine LeO.ite ?_ ?_
   | refine LeO.bind ?_ (fun _ => ?_)
  ·intro y0 y1 y2 y3 y4 y5 y6
   unfold capstanref01_Over.l1
   repeat' first
   | (with_reducible exact ih0 _ _ _ _ _ _)
   | (with_reducible exact ih1 _ _ _ _ _ _ _)
   | (with_reducible exact capstanref01_sum.mono _ _ _)
   | (with_reducible exact capstanref01_trim.mono _ _)
   | (with_reducible exact LeO.refl _)
   | (with_reducible exact LeO.none _)
   | (with_reducible refine LeO.ite ?_ ?_)
   | (with_reducible refine LeO.bind ?_ (fun _ => ?_))
   | exact ih0 _ _ _ _ _ _
   | exact ih1 _ _ _ _ _ _ _
   | exact capstanref01_sum.mono _ _ _
   | exact capstanref01_trim.mono _ _
   | exact LeO.none _
   | refine LeO.ite ?_ ?_
   | refine LeO.bind ?_ (fun _ => ?_)
theorem capstanref01_Over.mono : ∀ a0 a1 a2 k, LeO (capstanref01_Over.f k a0 a1 a2) (capstanref01_Over.f (k + 1) a0 a1 a2) := by
 intro a0 a1 a2 k
 obtain ⟨ih0, ih1⟩ := capstanref01_Over.mono_l k
 unfold capstanref01_Over.f
 repeat' first
   | (with_reducible exact ih0 _ _ _ _ _ _)
   | (with_reducible exact ih1 _ _ _ _ _ _ _)
   | (with_reducible exact capstanref01_sum.mono _ _ _)
   | (with_reducible exact capstanref01_trim.mono _ _)
   | (with_reducible exact LeO.refl _)
   | (with_reducible exact LeO.none _)
   | (with_reducible refine LeO.ite ?_ ?_)
   | (with_reducible refine LeO.bind ?_ (fun _ => ?_))
   | exact ih0 _ _ _ _ _ _
   | exact ih1 _ _ _ _ _ _ _
   | exact capstanref01_sum.mono _ _ _
   | exact capstanref01_trim.mono _ _
   | exact LeO.none _
   | refine LeO.ite ?_ ?_
   | refine LeO.bind ?_ (fun _ => ?_)
theorem capstanref01_Over.calls (k : Nat) (a0_0 : Bool) (A0_1 : Option Addr) (c0_1 : Nat) (l0_1 : List Int) (a1 : Int) (r1 : Bool) (r2 : List Int) (w : World) (hr0_1 : Kd.C (Kd.int .i64) w A0_1 l0_1.length l0_1) (hc0_1 : l0_1.length ≤ c0_1) (h : capstanref01_Over.f k a0_0 l0_1 a1 = some (r1, r2)) :
  Calls Tryz.prog 92 #[.agg #[.bool a0_0, .slice A0_1 l0_1.length c0_1], .int .i64 a1] w fun e w' => ∃ v1_ : Value, e = .returned (.agg #[.bool r1, v1_]) ∧ Kd.R (Kd.int .i64) 3 w' w.heap.size (fun _ => True) v1_ r2 ∧ Below w.heap.size w w' := by
 have hu105 := Tryz.underlying105
 have HR0_1 := Aside0.mk hr0_1
 have HC0_1 := Aside0.mk hc0_1
 clear hr0_1 hc0_1
 have HB := Aside0.mk (Below.refl w.heap.size w)
 have H : (if 0 ≤ (l0_1.length : Int) then (if ((l0_1.length : Int) : Int).toNat ≤ 35184372088832 then (capstanref01_Over.l0 k a1 (List.replicate ((l0_1.length : Int) : Int).toNat 0) 0 (wrap64 ((l0_1.length : Int) - 1)) a0_0 l0_1) else (none)) else (none)) = some (r1, r2) := h
 clear h
 by_cases c3 : 0 ≤ (l0_1.length : Int)
 ·rw [if_pos c3] at H
  have c3b0 := eq_true c3
  have c3b1 : decide (0 ≤ (l0_1.length : Int)) = true := decide_eq_true c3
  clear c3
  by_cases c4 : ((l0_1.length : Int) : Int).toNat ≤ 35184372088832
  ·rw [if_pos c4] at H
   have c4b0 := eq_true c4
   have c4b1 : decide (((l0_1.length : Int) : Int).toNat ≤ 35184372088832) = true := decide_eq_true c4
   clear c4
   obtain ⟨y216, hy216⟩ : ∃ y_ : List Int, y_ = (List.replicate ((l0_1.length : Int) : Int).toNat 0) := ⟨_, rfl⟩
   replace H : (capstanref01_Over.l0 k a1 y216 0 (wrap64 ((l0_1.length : Int) - 1)) a0_0 l0_1) = some (r1, r2) := by first | (rw [hy216]; with_reducible exact H) | (have H2_ := (Option.bind_some _ _).symm.trans H; rw [hy216]; with_reducible exact H2_) | (have H2_ := (Option.bind_some _ _).symm.trans H; with_reducible exact H2_) | with_reducible exact H | (rw [hy216]; exact H) | exact H
   have Ny216 := Aside0.mk hy216
   clear hy216
   have H' := Aside0.mk H
   clear H
   go_enter Tryz.func92, Tryz.ntmps92
   go_wp2_with (first | ((with_reducible refine gate_dst (N := 2) rfl ?_); refine box_event ?hg (N := 2) ?hd (cs := #[.bool a0_0, .slice A0_1 l0_1.length c0_1]) (t := 105) ?hr ?_; (case hd => rfl); (case hg => rfl); (case hr => first | (go_simp; done) | (go_simp; rfl)); intro gb214 hg w5 hbox hb; have n0_ := Aside0.mk (below_step z13_7 hb); have n1_ := Aside0.mk (hbox); have n2_ := Aside0.mk ((by rw [hg]; exact (below_size z13_7) : w.heap.size ≤ gb214)); have n3_ := Aside0.mk ((by rw [hg]; exact (below_size z13_7) : w.heap.size ≤ gb214)); clear HB; have HB := n0_; have BK214 := n1_; have GW214 := n2_; have GE214 := n3_; clear n0_ n1_ n2_ n3_; clear hb hbox hg) | ((with_reducible refine gate_dst (N := 4) rfl ?_); refine box_event ?hg (N := 4) ?hd (cs := #[.bool false, .slice none 0 0]) (t := 105) ?hr ?_; (case hd => rfl); (case hg => rfl); (case hr => first | (go_simp; done) | (go_simp; rfl)); intro gb215 hg w6 hbox hb; have n0_ := Aside0.mk (blk_below (g := gb214) (o := .cells #[.bool a0_0, .slice A0_1 l0_1.length c0_1] 105 (0, 0)) (by (with_reducible repeat (first | refine blk_drewN ?_ _ | refine blk_drew ?_ | refine blk_alloc ?_ _)); exact BK214.out) hb); have n1_ := Aside0.mk (below_step (by repeat (first | (with_reducible first | exact HB.out | apply below_alloc | apply pw_below_drewN | apply below_drew1 | refine below_set ?_ GE214.out) | exact HB.out)) hb); have n2_ := Aside0.mk (hbox); have n3_ := Aside0.mk ((by rw [hg]; exact (below_size (by repeat (first | (with_reducible first | exact HB.out | apply below_alloc | apply pw_below_drewN | apply below_drew1 | refine below_set ?_ GE214.out) | exact HB.out))) : w.heap.size ≤ gb215)); have n4_ := Aside0.mk ((by rw [hg]; exact (below_size (by repeat (first | (with_reducible first | exact HB.out | apply below_alloc | apply pw_below_drewN | apply below_drew1 | refine below_set ?_ GE214.out) | exact HB.out))) : w.heap.size ≤ gb215)); have n5_ := Aside0.mk ((by rw [hg]; exact Nat.ne_of_lt (blk_lt (g := gb214) (o := .cells #[.bool a0_0, .slice A0_1 l0_1.length c0_1] 105 (0, 0)) (by (with_reducible repeat (first | refine blk_drewN ?_ _ | refine blk_drew ?_ | refine blk_alloc ?_ _)); exact BK214.out)) : gb214 ≠ gb215)); have n6_ := Aside0.mk ((by rw [hg]; exact Nat.ne_of_gt (blk_lt (g := gb214) (o := .cells #[.bool a0_0, .slice A0_1 l0_1.length c0_1] 105 (0, 0)) (by (with_reducible repeat (first | refine blk_drewN ?_ _ | refine blk_drew ?_ | refine blk_alloc ?_ _)); exact BK214.out)) : gb215 ≠ gb214)); clear BK214; clear HB; have BK214 := n0_; have HB := n1_; have BK215 := n2_; have GW215 := n3_; have GE215 := n4_; have NB214_215 := n5_; have NB215_214 := n6_; clear n0_ n1_ n2_ n3_ n4_ n5_ n6_; clear hb hbox hg; have hnb7 := NB214_215.out; have hnc7 := NB215_214.out; have hcz8_0 : w6.cell? ⟨gb214, 0, none⟩ = some (.bool a0_0) := (blk_cell BK214.out 0).trans rfl; have hcz8_1 : w6.cell? ⟨gb214, 1, none⟩ = some (.slice A0_1 l0_1.length c0_1) := (blk_cell BK214.out 1).trans rfl; have hfz8_0 := blk_frozen BK214.out 0; have hfz8_1 := blk_frozen BK214.out 1) | ((with_reducible refine gate_dst (N := 13) rfl ?_); refine Kd.R_make (Kd.int .i64) _ 3 rfl (N := 13) rfl 103 _ _ rfl (l0_1.length : Int) rfl rfl Tryz.underlying103 (.int .i64 0) 8 info3 rfl (by decide) (by omega) 0 (ok := fun _ => True) (okp := fun _ => True) rfl (fun _ hk => hk) trivial (of_decide_eq_true z13_27) (Nat.le_trans (Nat.mul_le_mul_right _ (of_decide_eq_true z13_27 : (l0_1.length : Int).toNat ≤ 35184372088832)) (by omega)) (Below.refl _ _) (Nat.le_refl _) ?_; intro v217 w9 ho10 hb hg_ hnew_; clear hg_ hnew_; (first | rw [← Ny216.out] at ho10 | (simp only [Int.reduceToNat] at ho10; rw [← Ny216.out] at ho10)); have n0_ := Aside0.mk (Kd.R_lower ho10 (below_size (by repeat (first | (with_reducible first | exact HB.out | apply below_alloc | apply pw_below_drewN | apply below_drew1 | refine below_set ?_ GE214.out | refine below_set ?_ GE215.out) | exact HB.out)))); have n1_ := Aside0.mk (blk_below (g := gb214) (o := .cells #[.bool a0_0, .slice A0_1 l0_1.length c0_1] 105 (0, 0)) (by (with_reducible repeat (first | refine blk_drewN ?_ _ | refine blk_drew ?_ | refine blk_alloc ?_ _)); exact BK214.out) hb); have n2_ := Aside0.mk (blk_below (g := gb215) (o := .cells #[.bool false, .slice none 0 0] 105 (0, 0)) (by (with_reducible repeat (first | refine blk_drewN ?_ _ | refine blk_drew ?_ | refine blk_alloc ?_ _)); exact BK215.out) hb); have n3_ := Aside0.mk (below_step (by repeat (first | (with_reducible first | exact HB.out | apply below_alloc | apply pw_below_drewN | apply below_drew1 | refine below_set ?_ GE214.out | refine below_set ?_ GE215.out) | exact HB.out)) hb); clear BK214; clear BK215; clear HB; have HO218 := n0_; have BK214 := n1_; have BK215 := n2_; have HB := n3_; clear n0_ n1_ n2_ n3_; clear hb ho10; have hcz11_0 : w9.cell? ⟨gb214, 0, none⟩ = some (.bool a0_0) := (blk_cell BK214.out 0).trans rfl; have hcz11_1 : w9.cell? ⟨gb214, 1, none⟩ = some (.slice A0_1 l0_1.length c0_1) := (blk_cell BK214.out 1).trans rfl; have hfz11_0 := blk_frozen BK214.out 0; have hfz11_1 := blk_frozen BK214.out 1))
   go_loopg [6, 7] k (fun kq v6 v7 w' => ∃ (x5_1 : List Int) (x6_1 : Int) (x7_1 : Int), v6 = .int .u64 x6_1 ∧ v7 = .int .i64 x7_1 ∧ Aside0 (capstanref01_Over.l0 kq a1 x5_1 x6_1 x7_1 a0_0 l0_1 = some (r1, r2)) ∧ Aside0 (kq ≤ k) ∧ Aside0 (Kd.R (Kd.int .i64) 3 w' w.heap.size (fun _ => True) v217 x5_1) ∧ Aside0 (w'.heap[gb214]? = some (.cells #[.bool a0_0, (.slice A0_1 l0_1.length c0_1)] 105 (0, 0))) ∧ Aside0 (w'.heap[gb215]? = some (.cells #[.bool false, (.slice none 0 0)] 105 (0, 0))) ∧ Aside0 (Below w.heap.size w w'))
   case atStart => exact ⟨(y216), (0), (wrap64 ((l0_1.length : Int) - 1)), z13_28, z13_28, H', ⟨Nat.le_refl _⟩, ⟨by (with_reducible repeat (first | apply Kd.R_alloc | apply Kd.R_drewN | apply Kd.R_drew)); exact HO218.out⟩, ⟨by (with_reducible repeat (first | refine blk_drewN ?_ _ | refine blk_drew ?_ | refine blk_alloc ?_ _)); exact BK214.out⟩, ⟨by (with_reducible repeat (first | refine blk_drewN ?_ _ | refine blk_drew ?_ | refine blk_alloc ?_ _)); exact BK215.out⟩, ⟨by repeat (first | (with_reducible first | exact HB.out | apply below_alloc | apply pw_below_drewN | apply below_drew1 | refine below_set ?_ GE214.out | refine below_set ?_ GE215.out) | exact HB.out)⟩⟩
   case round =>
    clear H'
    try clear p2
    try clear c3
    try clear c3b0
    try clear c3b1
    try clear c4
    try clear c4b0
    try clear c4b1
    try clear p6
    try clear c7
    try clear c9
    try clear hcz11_0
    try clear hcz11_1
    try clear hcz8_0
    try clear hcz8_1
    try clear hfz11_0
    try clear hfz11_1
    try clear hfz8_0
    try clear hfz8_1
    obtain ⟨x5_1, x6_1, x7_1, rfl, rfl, HA, HK1, HO_5, BK214, BK215, HB⟩ := hrel
    cases gk with
    | zero => exact absurd HA.out (by simp [capstanref01_Over.l0])
    | succ k1 =>
     have H := HA.out
     clear HA
     simp only [capstanref01_Over.l0] at H
     by_cases c12 : x7_1 ≥ 0
     ·rw [if_pos c12] at H
      have c12b0 : decide (0 ≤ x7_1) = true := decide_eq_true c12
      clear c12
      have H' := Aside0.mk H
      clear H
      go_wp2
      go_loopg [6, 8] k1 (fun kq v6 v8 w' => ∃ (x5_2 : List Int) (x6_2 : Int) (x8_2 : Int), v6 = .int .u64 x6_2 ∧ v8 = .int .i64 x8_2 ∧ Aside0 (capstanref01_Over.l1 kq a1 x5_2 x6_2 x7_1 x8_2 a0_0 l0_1 = some (r1, r2)) ∧ Aside0 (kq ≤ k1) ∧ Aside0 (Kd.R (Kd.int .i64) 3 w' w.heap.size (fun _ => True) v217 x5_2) ∧ Aside0 (w'.heap[gb214]? = some (.cells #[.bool a0_0, (.slice A0_1 l0_1.length c0_1)] 105 (0, 0))) ∧ Aside0 (w'.heap[gb215]? = some (.cells #[.bool false, (.slice none 0 0)] 105 (0, 0))) ∧ Aside0 (Below w.heap.size w w'))
      case atStart => exact ⟨(x5_1), (x6_1), (15), z13_28, z13_28, H', ⟨Nat.le_refl _⟩, ⟨by (with_reducible repeat (first | apply Kd.R_alloc | apply Kd.R_drewN | apply Kd.R_drew)); exact HO_5.out⟩, ⟨by (with_reducible repeat (first | refine blk_drewN ?_ _ | refine blk_drew ?_ | refine blk_alloc ?_ _)); exact BK214.out⟩, ⟨by (with_reducible repeat (first | refine blk_drewN ?_ _ | refine blk_drew ?_ | refine blk_alloc ?_ _)); exact BK215.out⟩, ⟨by repeat (first | (with_reducible first | exact HB.out | apply below_alloc | apply pw_below_drewN | apply below_drew1 | refine below_set ?_ GE214.out | refine below_set ?_ GE215.out) | exact HB.out)⟩⟩
      case round =>
       clear H'
       try clear c1
       try clear p2
       try clear c3
       try clear c3b0
       try clear c3b1
       try clear c4
       try clear c4b0
       try clear c4b1
       try clear p6
       try clear c7
       try clear c9
       try clear c12
       try clear c12b0
       try clear hcz11_0
       try clear hcz11_1
       try clear hcz8_0
       try clear hcz8_1
       try clear hfz11_0
       try clear hfz11_1
       try clear hfz8_0
       try clear hfz8_1
       try clear p2
       try clear p6
       obtain ⟨x5_2, x6_2, x8_2, rfl, rfl, HA, HK2, HO_5, BK214, BK215, HB⟩ := hrel
       cases gk with
       | zero => exact absurd HA.out (by simp [capstanref01_Over.l1])
       | succ k2 =>
        have H := HA.out
        clear HA
        simp only [capstanref01_Over.l1] at H
        by_cases c13 : x8_2 ≥ 0
        ·rw [if_pos c13] at H
         have c13b0 : decide (0 ≤ x8_2) = true := decide_eq_true c13
         clear c13
         by_cases c14 : 0 ≤ x7_1
         ·rw [if_pos c14] at H
          have c14b0 : decide (0 ≤ x7_1) = true := decide_eq_true c14
          clear c14
          by_cases c15 : x7_1 < (l0_1.length : Int)
          ·rw [if_pos c15] at H
           have c15b0 : decide (x7_1 < (l0_1.length : Int)) = true := decide_eq_true c15
           clear c15
           obtain ⟨ji16, hji16⟩ : ∃ j_ : Int, (IntKind.u64.wrap (x8_2)) = j_ := ⟨_, rfl⟩
           replace H : (if 0 ≤ (ji16) then (if x7_1 < (x5_2.length : Int) then ((some (x5_2.set (x7_1 : Int).toNat (wrap64 (2 * (rd x5_2 x7_1))) : List Int)).bind fun y221 => (if (IntKind.u64.wrap ((IntKind.u64.wrap (2 * x6_2)) + (IntKind.u64.wrap (Int.tmod (shr .i64 (rd l0_1 x7_1) (ji16)) 2)))) ≥ (IntKind.u64.wrap (a1)) then (capstanref01_Over.l1 k2 a1 (y221.set (x7_1 : Int).toNat (wrap64 ((rd y221 x7_1) + 1))) (IntKind.u64.wrap ((IntKind.u64.wrap ((IntKind.u64.wrap (2 * x6_2)) + (IntKind.u64.wrap (Int.tmod (shr .i64 (rd l0_1 x7_1) (ji16)) 2)))) - (IntKind.u64.wrap (a1)))) x7_1 (wrap64 (x8_2 - 1)) a0_0 l0_1) else (capstanref01_Over.l1 k2 a1 y221 (IntKind.u64.wrap ((IntKind.u64.wrap (2 * x6_2)) + (IntKind.u64.wrap (Int.tmod (shr .i64 (rd l0_1 x7_1) (ji16)) 2)))) x7_1 (wrap64 (x8_2 - 1)) a0_0 l0_1))) else (none)) else (none)) = some (r1, r2) := by first | (rw [hji16] at H; exact H) | (simp only [hji16] at H ⊢; exact H)
           by_cases c17 : 0 ≤ (ji16)
           ·rw [if_pos c17] at H
            have c17b0 := eq_true c17
            have c17b1 : decide (0 ≤ (ji16)) = true := decide_eq_true c17
            clear c17
            obtain ⟨ji18, hji18⟩ : ∃ j_ : Int, (shr .i64 (rd l0_1 x7_1) (ji16)) = j_ := ⟨_, rfl⟩
            replace H : (if x7_1 < (x5_2.length : Int) then ((some (x5_2.set (x7_1 : Int).toNat (wrap64 (2 * (rd x5_2 x7_1))) : List Int)).bind fun y221 => (if (IntKind.u64.wrap ((IntKind.u64.wrap (2 * x6_2)) + (IntKind.u64.wrap (Int.tmod (ji18) 2)))) ≥ (IntKind.u64.wrap (a1)) then (capstanref01_Over.l1 k2 a1 (y221.set (x7_1 : Int).toNat (wrap64 ((rd y221 x7_1) + 1))) (IntKind.u64.wrap ((IntKind.u64.wrap ((IntKind.u64.wrap (2 * x6_2)) + (IntKind.u64.wrap (Int.tmod (ji18) 2)))) - (IntKind.u64.wrap (a1)))) x7_1 (wrap64 (x8_2 - 1)) a0_0 l0_1) else (capstanref01_Over.l1 k2 a1 y221 (IntKind.u64.wrap ((IntKind.u64.wrap (2 * x6_2)) + (IntKind.u64.wrap (Int.tmod (ji18) 2)))) x7_1 (wrap64 (x8_2 - 1)) a0_0 l0_1))) else (none)) = some (r1, r2) := by first | (rw [hji18] at H; exact H) | (simp only [hji18] at H ⊢; exact H)
            have hji18_ : ((rd l0_1 x7_1) / 2 ^ min (ji16).toNat 64) = ji18 := hji18
            have hji18z : (ji16) ≤ 64 → ((rd l0_1 x7_1) / 2 ^ (ji16).toNat) = ji18 := shr_small hji18
            by_cases c19 : x7_1 < (x5_2.length : Int)
            ·rw [if_pos c19] at H
             have c19b0 : decide (x7_1 < (x5_2.length : Int)) = true := decide_eq_true c19
             clear c19
             obtain ⟨y221, hy221⟩ : ∃ y_ : List Int, y_ = (x5_2.set (x7_1 : Int).toNat (wrap64 (2 * (rd x5_2 x7_1)))) := ⟨_, rfl⟩
             replace H : (if (IntKind.u64.wrap ((IntKind.u64.wrap (2 * x6_2)) + (IntKind.u64.wrap (Int.tmod (ji18) 2)))) ≥ (IntKind.u64.wrap (a1)) then (capstanref01_Over.l1 k2 a1 (y221.set (x7_1 : Int).toNat (wrap64 ((rd y221 x7_1) + 1))) (IntKind.u64.wrap ((IntKind.u64.wrap ((IntKind.u64.wrap (2 * x6_2)) + (IntKind.u64.wrap (Int.tmod (ji18) 2)))) - (IntKind.u64.wrap (a1)))) x7_1 (wrap64 (x8_2 - 1)) a0_0 l0_1) else (capstanref01_Over.l1 k2 a1 y221 (IntKind.u64.wrap ((IntKind.u64.wrap (2 * x6_2)) + (IntKind.u64.wrap (Int.tmod (ji18) 2)))) x7_1 (wrap64 (x8_2 - 1)) a0_0 l0_1)) = some (r1, r2) := by first | (rw [hy221]; with_reducible exact H) | (have H2_ := (Option.bind_some _ _).symm.trans H; rw [hy221]; with_reducible exact H2_) | (have H2_ := (Option.bind_some _ _).symm.trans H; with_reducible exact H2_) | with_reducible exact H | (rw [hy221]; exact H) | exact H
             have Ny221 := Aside0.mk hy221
             clear hy221
             by_cases c21 : (IntKind.u64.wrap ((IntKind.u64.wrap (2 * x6_2)) + (IntKind.u64.wrap (Int.tmod (ji18) 2)))) ≥ (IntKind.u64.wrap (a1))
             ·rw [if_pos c21] at H
              have c21b0 : decide ((IntKind.u64.wrap (a1)) ≤ (IntKind.u64.wrap ((IntKind.u64.wrap (2 * x6_2)) + (IntKind.u64.wrap (Int.tmod (ji18) 2))))) = true := decide_eq_true c21
              clear c21
              obtain ⟨y223, hy223⟩ : ∃ y_ : List Int, y_ = (y221.set (x7_1 : Int).toNat (wrap64 ((rd y221 x7_1) + 1))) := ⟨_, rfl⟩
              replace H : (capstanref01_Over.l1 k2 a1 y223 (IntKind.u64.wrap ((IntKind.u64.wrap ((IntKind.u64.wrap (2 * x6_2)) + (IntKind.u64.wrap (Int.tmod (ji18) 2)))) - (IntKind.u64.wrap (a1)))) x7_1 (wrap64 (x8_2 - 1)) a0_0 l0_1) = some (r1, r2) := by first | (rw [hy223]; with_reducible exact H) | (have H2_ := (Option.bind_some _ _).symm.trans H; rw [hy223]; with_reducible exact H2_) | (have H2_ := (Option.bind_some _ _).symm.trans H; with_reducible exact H2_) | with_reducible exact H | (rw [hy223]; exact H) | exact H
              have Ny223 := Aside0.mk hy223
              clear hy223
              have H' := Aside0.mk H
              clear H
              have hnb23 := NB214_215.out
              have hnc23 := NB215_214.out
              have hcz24_0 : wr.cell? ⟨gb214, 0, none⟩ = some (.bool a0_0) := (blk_cell BK214.out 0).trans rfl
              have hcz24_1 : wr.cell? ⟨gb214, 1, none⟩ = some (.slice A0_1 l0_1.length c0_1) := (blk_cell BK214.out 1).trans rfl
              have hfz24_0 := blk_frozen BK214.out 0
              have hfz24_1 := blk_frozen BK214.out 1
              have p219 : 0 ≤ (x7_1 : Int) := of_decide_eq_true z13_27
              have q219 : x7_1 < (l0_1.length : Int) := of_decide_eq_true z13_27
              obtain ⟨ad219, e219, hx219_0⟩ := Kd.at_int HR0_1.out x7_1 p219 q219
              cases e219
              replace hx219_0 := (HB.out.cell (World.block_lt_of_cell? w _ hx219_0)).trans hx219_0
              replace p219 := eq_true p219
              replace q219 := eq_true q219
              obtain ⟨Ao25, co25, eo25⟩ := Kd.R_slice HO_5.out
              subst eo25
              have p220 : 0 ≤ (x7_1 : Int) := of_decide_eq_true z13_27
              have q220 : x7_1 < (x5_2.length : Int) := of_decide_eq_true z13_27
              obtain ⟨ad220, e220, hx220_0⟩ := Kd.at_int (Kd.R_reads' HO_5.out).2.2 x7_1 p220 q220
              cases e220
              replace p220 := eq_true p220
              replace q220 := eq_true q220
              have p20 : 0 ≤ (x7_1 : Int) := of_decide_eq_true z13_27
              have q20 : (x7_1 : Int) < ((x5_2.length : Int) : Int) := of_decide_eq_true z13_27
              obtain ⟨go20, co20, eo20, gb20, gl20, cl20, HG20⟩ := Kd.R_form HO_5.out (by omega)
              (first | cases eo20 | (injection eo20 with ea_ en_ ec_; (first | subst ea_ | (injection ea_ with ea_; subst ea_)); subst ec_; clear en_))
              have GB20 := Aside0.mk gb20
              have GG20 := Aside0.mk HG20
              clear gb20 gl20 HG20
              (first | simp only [add_plain] at hx220_0 | skip)
              obtain ⟨hx20_0, hf20_0⟩ := Kd.R_celln 0 HO_5.out (x7_1 : Int) p20 q20
              replace p20 := eq_true p20
              replace q20 := eq_true q20
              have HP26 := Kd.R_putg HO_5.out (x7_1 : Int) (wrap64 (2 * (rd x5_2 x7_1)))
              go_wp2_with (first | ((with_reducible refine gate_store (t := 3) (p := 46) rfl ?_); refine store_event (t := 3) (p := 46) (v := ?vo_w27) (w1 := (wr.setCell ⟨go20, (x7_1 : Int).toNat, none⟩ (.int .i64 (wrap64 (2 * (rd x5_2 x7_1)))))) ?hg ?ho ?hn ?hr ?_; (case ho => rfl); (case hg => rfl); (case hn => rfl); (case hr => first | (go_simp; done) | (go_simp; rfl)); intro w27 hw; have hg : wr.grownBy w27 (some go20) := (by rw [hw]; exact HP26.2); have hp_ : Kd.R (Kd.int .i64) 3 w27 w.heap.size (fun _ => True) (.slice (some ⟨go20, 0, none⟩) x5_2.length co25) y221 := (by rw [hw, Ny221.out]; exact HP26.1); clear HP26; have n0_ := Aside0.mk (hp_); have n1_ := Aside0.mk (blk_grown (g := gb214) (o := .cells #[.bool a0_0, .slice (some ad219) l0_1.length c0_1] 105 (0, 0)) (by (with_reducible repeat (first | refine blk_drewN ?_ _ | refine blk_drew ?_ | refine blk_alloc ?_ _)); exact BK214.out) hg (Kd.R_ne HO_5.out BK214.out (by decide))); have n2_ := Aside0.mk (blk_grown (g := gb215) (o := .cells #[.bool false, .slice none 0 0] 105 (0, 0)) (by (with_reducible repeat (first | refine blk_drewN ?_ _ | refine blk_drew ?_ | refine blk_alloc ?_ _)); exact BK215.out) hg (Kd.R_ne HO_5.out BK215.out (by decide))); have n3_ := Aside0.mk ((by rw [hw]; exact below_set (HB.out) GB20.out : Below w.heap.size w w27)); clear HO_5; clear BK214; clear BK215; clear HB; have HO_5 := n0_; have BK214 := n1_; have BK215 := n2_; have HB := n3_; clear n0_ n1_ n2_ n3_; clear hg hw hp_; have p222 : 0 ≤ (x7_1 : Int) := of_decide_eq_true z13_27; have q222 : x7_1 < (y221.length : Int) := (by have h_ : (x7_1 : Int) < ((x5_2.length : Int) : Int) := of_decide_eq_true z13_27; first | (have e_ := (Kd.R_reads' HO_5.out).1; omega) | simpa only [Ny221.out, List.length_set] using h_); have ql222 : ((x7_1 : Int) < ((x5_2.length : Int) : Int)) = True := eq_true (of_decide_eq_true z13_27); obtain ⟨ad222, e222, hx222_0⟩ := Kd.at_int (Kd.R_reads' HO_5.out).2.2 x7_1 p222 q222; obtain rfl : (⟨go20, 0, none⟩ : Addr) = ad222 := (by injection e222); (first | simp only [add_plain] at hx222_0 | simp only [add_at] at hx222_0 | simp only [Addr.add, Nat.zero_add] at hx222_0 | skip); replace p222 := eq_true p222; replace q222 := eq_true q222; have p22 : 0 ≤ (x7_1 : Int) := of_decide_eq_true z13_27; have q22 : (x7_1 : Int) < ((x5_2.length : Int) : Int) := of_decide_eq_true z13_27; obtain ⟨hx22_0, hf22_0⟩ := Kd.R_celln 0 HO_5.out (x7_1 : Int) p22 q22; replace p22 := eq_true p22; replace q22 := eq_true q22; obtain ⟨hy28_, hz28_⟩ := Kd.R_celln 0 HO_5.out (x7_1 : Int) (of_decide_eq_true z13_27) (of_decide_eq_true z13_27); have HP28 := Kd.R_putg HO_5.out (x7_1 : Int) (wrap64 ((rd y221 x7_1) + 1))) | ((with_reducible refine gate_store (t := 3) (p := 60) rfl ?_); refine store_event (t := 3) (p := 60) (v := ?vo_w29) (w1 := (w27.setCell ⟨go20, (x7_1 : Int).toNat, none⟩ (.int .i64 (wrap64 ((rd y221 x7_1) + 1))))) ?hg ?ho ?hn ?hr ?_; (case ho => rfl); (case hg => rfl); (case hn => rfl); (case hr => first | (go_simp; done) | (go_simp; rfl)); intro w29 hw; have hg : w27.grownBy w29 (some go20) := (by rw [hw]; exact HP28.2); have hp_ : Kd.R (Kd.int .i64) 3 w29 w.heap.size (fun _ => True) (.slice (some ⟨go20, 0, none⟩) x5_2.length co25) y223 := (by rw [hw, Ny223.out]; exact HP28.1); clear HP28; have n0_ := Aside0.mk (hp_); have n1_ := Aside0.mk (blk_grown (g := gb214) (o := .cells #[.bool a0_0, .slice (some ad219) l0_1.length c0_1] 105 (0, 0)) (by (with_reducible repeat (first | refine blk_drewN ?_ _ | refine blk_drew ?_ | refine blk_alloc ?_ _)); exact BK214.out) hg (Kd.R_ne HO_5.out BK214.out (by decide))); have n2_ := Aside0.mk (blk_grown (g := gb215) (o := .cells #[.bool false, .slice none 0 0] 105 (0, 0)) (by (with_reducible repeat (first | refine blk_drewN ?_ _ | refine blk_drew ?_ | refine blk_alloc ?_ _)); exact BK215.out) hg (Kd.R_ne HO_5.out BK215.out (by decide))); have n3_ := Aside0.mk ((by rw [hw]; exact below_set (HB.out) GB20.out : Below w.heap.size w w29)); clear HO_5; clear BK214; clear BK215; clear HB; have HO_5 := n0_; have BK214 := n1_; have BK215 := n2_; have HB := n3_; clear n0_ n1_ n2_ n3_; clear hg hw hp_))
              go_roundg k2
              case measure => have := HK1.out; have := HK2.out; omega
              case rel => exact ⟨(y223), (IntKind.u64.wrap ((IntKind.u64.wrap ((IntKind.u64.wrap (2 * x6_2)) + (IntKind.u64.wrap (Int.tmod (ji18) 2)))) - (IntKind.u64.wrap (a1)))), (wrap64 (x8_2 - 1)), z13_26, z13_28, H', ⟨by have := HK1.out; have := HK2.out; omega⟩, ⟨by (with_reducible repeat (first | apply Kd.R_alloc | apply Kd.R_drewN | apply Kd.R_drew)); exact HO_5.out⟩, ⟨by (with_reducible repeat (first | refine blk_drewN ?_ _ | refine blk_drew ?_ | refine blk_alloc ?_ _)); exact BK214.out⟩, ⟨by (with_reducible repeat (first | refine blk_drewN ?_ _ | refine blk_drew ?_ | refine blk_alloc ?_ _)); exact BK215.out⟩, ⟨by repeat (first | (with_reducible first | exact HB.out | apply below_alloc | apply pw_below_drewN | apply below_drew1 | refine below_set ?_ GE214.out | refine below_set ?_ GE215.out) | exact HB.out)⟩⟩
             ·rw [if_neg c21] at H
              have c21b0 : decide ((IntKind.u64.wrap (a1)) ≤ (IntKind.u64.wrap ((IntKind.u64.wrap (2 * x6_2)) + (IntKind.u64.wrap (Int.tmod (ji18) 2))))) = false := decide_eq_false c21
              clear c21
              have H' := Aside0.mk H
              clear H
              have hnb30 := NB214_215.out
              have hnc30 := NB215_214.out
              have hcz31_0 : wr.cell? ⟨gb214, 0, none⟩ = some (.bool a0_0) := (blk_cell BK214.out 0).trans rfl
              have hcz31_1 : wr.cell? ⟨gb214, 1, none⟩ = some (.slice A0_1 l0_1.length c0_1) := (blk_cell BK214.out 1).trans rfl
              have hfz31_0 := blk_frozen BK214.out 0
              have hfz31_1 := blk_frozen BK214.out 1
              have p219 : 0 ≤ (x7_1 : Int) := of_decide_eq_true z13_27
              have q219 : x7_1 < (l0_1.length : Int) := of_decide_eq_true z13_27
              obtain ⟨ad219, e219, hx219_0⟩ := Kd.at_int HR0_1.out x7_1 p219 q219
              cases e219
              replace hx219_0 := (HB.out.cell (World.block_lt_of_cell? w _ hx219_0)).trans hx219_0
              replace p219 := eq_true p219
              replace q219 := eq_true q219
              obtain ⟨Ao32, co32, eo32⟩ := Kd.R_slice HO_5.out
              subst eo32
              have p220 : 0 ≤ (x7_1 : Int) := of_decide_eq_true z13_27
              have q220 : x7_1 < (x5_2.length : Int) := of_decide_eq_true z13_27
              obtain ⟨ad220, e220, hx220_0⟩ := Kd.at_int (Kd.R_reads' HO_5.out).2.2 x7_1 p220 q220
              cases e220
              replace p220 := eq_true p220
              replace q220 := eq_true q220
              have p20 : 0 ≤ (x7_1 : Int) := of_decide_eq_true z13_27
              have q20 : (x7_1 : Int) < ((x5_2.length : Int) : Int) := of_decide_eq_true z13_27
              obtain ⟨go20, co20, eo20, gb20, gl20, cl20, HG20⟩ := Kd.R_form HO_5.out (by omega)
              (first | cases eo20 | (injection eo20 with ea_ en_ ec_; (first | subst ea_ | (injection ea_ with ea_; subst ea_)); subst ec_; clear en_))
              have GB20 := Aside0.mk gb20
              have GG20 := Aside0.mk HG20
              clear gb20 gl20 HG20
              (first | simp only [add_plain] at hx220_0 | skip)
              obtain ⟨hx20_0, hf20_0⟩ := Kd.R_celln 0 HO_5.out (x7_1 : Int) p20 q20
              replace p20 := eq_true p20
              replace q20 := eq_true q20
              have HP33 := Kd.R_putg HO_5.out (x7_1 : Int) (wrap64 (2 * (rd x5_2 x7_1)))
              go_wp2_with (first | ((with_reducible refine gate_store (t := 3) (p := 46) rfl ?_); refine store_event (t := 3) (p := 46) (v := ?vo_w34) (w1 := (wr.setCell ⟨go20, (x7_1 : Int).toNat, none⟩ (.int .i64 (wrap64 (2 * (rd x5_2 x7_1)))))) ?hg ?ho ?hn ?hr ?_; (case ho => rfl); (case hg => rfl); (case hn => rfl); (case hr => first | (go_simp; done) | (go_simp; rfl)); intro w34 hw; have hg : wr.grownBy w34 (some go20) := (by rw [hw]; exact HP33.2); have hp_ : Kd.R (Kd.int .i64) 3 w34 w.heap.size (fun _ => True) (.slice (some ⟨go20, 0, none⟩) x5_2.length co32) y221 := (by rw [hw, Ny221.out]; exact HP33.1); clear HP33; have n0_ := Aside0.mk (hp_); have n1_ := Aside0.mk (blk_grown (g := gb214) (o := .cells #[.bool a0_0, .slice (some ad219) l0_1.length c0_1] 105 (0, 0)) (by (with_reducible repeat (first | refine blk_drewN ?_ _ | refine blk_drew ?_ | refine blk_alloc ?_ _)); exact BK214.out) hg (Kd.R_ne HO_5.out BK214.out (by decide))); have n2_ := Aside0.mk (blk_grown (g := gb215) (o := .cells #[.bool false, .slice none 0 0] 105 (0, 0)) (by (with_reducible repeat (first | refine blk_drewN ?_ _ | refine blk_drew ?_ | refine blk_alloc ?_ _)); exact BK215.out) hg (Kd.R_ne HO_5.out BK215.out (by decide))); have n3_ := Aside0.mk ((by rw [hw]; exact below_set (HB.out) GB20.out : Below w.heap.size w w34)); clear HO_5; clear BK214; clear BK215; clear HB; have HO_5 := n0_; have BK214 := n1_; have BK215 := n2_; have HB := n3_; clear n0_ n1_ n2_ n3_; clear hg hw hp_))
              go_roundg k2
              case measure => have := HK1.out; have := HK2.out; omega
              case rel => exact ⟨(y221), (IntKind.u64.wrap ((IntKind.u64.wrap (2 * x6_2)) + (IntKind.u64.wrap (Int.tmod (ji18) 2)))), (wrap64 (x8_2 - 1)), z13_26, z13_28, H', ⟨by have := HK1.out; have := HK2.out; omega⟩, ⟨by (with_reducible repeat (first | apply Kd.R_alloc | apply Kd.R_drewN | apply Kd.R_drew)); exact HO_5.out⟩, ⟨by (with_reducible repeat (first | refine blk_drewN ?_ _ | refine blk_drew ?_ | refine blk_alloc ?_ _)); exact BK214.out⟩, ⟨by (with_reducible repeat (first | refine blk_drewN ?_ _ | refine blk_drew ?_ | refine blk_alloc ?_ _)); exact BK215.out⟩, ⟨by repeat (first | (with_reducible first | exact HB.out | apply below_alloc | apply pw_below_drewN | apply below_drew1 | refine below_set ?_ GE214.out | refine below_set ?_ GE215.out) | exact HB.out)⟩⟩
            ·rw [if_neg c19] at H
             exact absurd H (by simp)
           ·rw [if_neg c17] at H
            exact absurd H (by simp)
          ·rw [if_neg c15] at H
           exact absurd H (by simp)
         ·rw [if_neg c14] at H
          exact absurd H (by simp)
        ·rw [if_neg c13] at H
         have c13b0 : decide (0 ≤ x8_2) = false := decide_eq_false c13
         clear c13
         have H' := Aside0.mk H
         clear H
         go_wp2
         go_roundg k2
         case measure => have := HK1.out; have := HK2.out; omega
         case rel => exact ⟨(x5_2), (x6_2), (wrap64 (x7_1 - 1)), z13_28, z13_28, H', ⟨by have := HK1.out; have := HK2.out; omega⟩, ⟨by (with_reducible repeat (first | apply Kd.R_alloc | apply Kd.R_drewN | apply Kd.R_drew)); exact HO_5.out⟩, ⟨by (with_reducible repeat (first | refine blk_drewN ?_ _ | refine blk_drew ?_ | refine blk_alloc ?_ _)); exact BK214.out⟩, ⟨by (with_reducible repeat (first | refine blk_drewN ?_ _ | refine blk_drew ?_ | refine blk_alloc ?_ _)); exact BK215.out⟩, ⟨by repeat (first | (with_reducible first | exact HB.out | apply below_alloc | apply pw_below_drewN | apply below_drew1 | refine below_set ?_ GE214.out | refine below_set ?_ GE215.out) | exact HB.out)⟩⟩
     ·rw [if_neg c12] at H
      have c12b0 : decide (0 ≤ x7_1) = false := decide_eq_false c12
      clear c12
      replace H := Option.bind_eq_some_iff.mp H
      obtain ⟨t224, A350, H⟩ := H
      replace H : (if a0_0 = true then (if x6_1 > 0 then ((capstanref01_sum.f k1 t224 (([1] : List Int))).bind fun t230 => (some (a0_0, t230))) else (some (a0_0, t224))) else (some (a0_0, t224))) = some (r1, r2) := H
      have A35 := Aside0.mk A350
      clear A350
      by_cases c36 : a0_0 = true
      ·subst c36
       have H1 : (if x6_1 > 0 then ((capstanref01_sum.f k1 t224 (([1] : List Int))).bind fun t230 => (some (true, t230))) else (some (true, t224))) = some (r1, r2) := by rw [if_pos rfl] at H; exact H
       clear H
       have H := H1
       clear H1
       by_cases c37 : x6_1 > 0
       ·rw [if_pos c37] at H
        have c37b0 : decide (0 < x6_1) = true := decide_eq_true c37
        clear c37
        obtain ⟨y227, hy227⟩ : ∃ y_ : List Int, y_ = (([1] : List Int)) := ⟨_, rfl⟩
        replace H : ((capstanref01_sum.f k1 t224 y227).bind fun t230 => (some (true, t230))) = some (r1, r2) := by first | (rw [hy227]; with_reducible exact H) | (have H2_ := (Option.bind_some _ _).symm.trans H; rw [hy227]; with_reducible exact H2_) | (have H2_ := (Option.bind_some _ _).symm.trans H; with_reducible exact H2_) | with_reducible exact H | (rw [hy227]; exact H) | exact H
        have Ny227 := Aside0.mk hy227
        clear hy227
        replace H := Option.bind_eq_some_iff.mp H
        obtain ⟨t230, A380, H⟩ := H
        replace H : (some (true, t230)) = some (r1, r2) := H
        have A38 := Aside0.mk A380
        clear A380
        simp only [Option.some.injEq, Prod.mk.injEq] at H
        obtain ⟨rfl, rfl⟩ := H
        obtain ⟨Ao39, co39, eo39⟩ := Kd.R_slice HO_5.out
        subst eo39
        go_wp2_with (first | ((with_reducible refine gate_callee (f := 90) rfl ?_); refine goesL_ (some 62) rfl rfl Tryz.func90 (by kernel_rfl) rfl #[.slice Ao39 x5_1.length co39] rfl z13_6 ?_; (with_reducible refine (capstanref01_trim.calls k1 (fun k_ => some k_ = (.slice Ao39 x5_1.length co39 : Value).ownBlock) (.slice Ao39 x5_1.length co39) x5_1 t224 w _ ?side1 ?side2 A35.out).mono ?_); (case side1 => repeat (first | (with_reducible first | exact HB.out | apply below_alloc | apply pw_below_drewN | apply below_drew1 | refine below_set ?_ GE214.out | refine below_set ?_ GE215.out) | exact HB.out)); (case side2 => exact Kd.R_tight rfl HO_5.out); rintro e w40 ⟨v225, rfl, ho0, hb, hkp⟩; refine ⟨_, rfl, ?_⟩; have n0_ := Aside0.mk (blk_kept (by (with_reducible repeat (first | refine blk_drewN ?_ _ | refine blk_drew ?_ | refine blk_alloc ?_ _)); exact BK214.out) hkp (fun hs_ => (fun e_ => (Kd.R_ne HO_5.out BK214.out (by decide)) e_) hs_)); have n1_ := Aside0.mk (blk_kept (by (with_reducible repeat (first | refine blk_drewN ?_ _ | refine blk_drew ?_ | refine blk_alloc ?_ _)); exact BK215.out) hkp (fun hs_ => (fun e_ => (Kd.R_ne HO_5.out BK215.out (by decide)) e_) hs_)); have n2_ := Aside0.mk (Kd.R_mono (ok' := fun k_ => True) ho0 (fun k_ hk_ => trivial)); have n3_ := Aside0.mk (hb); clear BK214; clear BK215; clear HB; clear HO_5; have BK214 := n0_; have BK215 := n1_; have HO226 := n2_; have HB := n3_; clear n0_ n1_ n2_ n3_; (try clear hb); (try clear hkp); (try clear ho0); have hnb41 := NB214_215.out; have hnc41 := NB215_214.out; have hcz42_0 : w40.cell? ⟨gb214, 0, none⟩ = some (.bool true) := (blk_cell BK214.out 0).trans rfl; have hcz42_1 : w40.cell? ⟨gb214, 1, none⟩ = some (.slice A0_1 l0_1.length c0_1) := (blk_cell BK214.out 1).trans rfl; have hfz42_0 := blk_frozen BK214.out 0; have hfz42_1 := blk_frozen BK214.out 1) | ((with_reducible refine gate_dst (N := 70) rfl ?_); refine Kd.R_lit (Kd.int .i64) _ 3 ?hg (N := 70) ?hd (xs := ([1] : List Int)) (inner := [.int .i64 1]) (ok := fun _ => True) (okp := fun _ => True) ?hr ?hp (fun _ hk => hk) trivial (Below.refl _ _) (Nat.le_refl _) (by simp) ?_; (case hd => rfl); (case hg => rfl); (case hr => first | (go_simp; done) | (go_simp; rfl)); (case hp => exact (Reps.one (show Kd.M (Kd.int .i64) _ _ _ 1 [.int .i64 1] from rfl) (Reps.none _ _))); intro v228 w43 ho44 hb hg_ hnew_; clear hg_ hnew_; (first | rw [← Ny227.out] at ho44 | (simp only [Int.reduceToNat] at ho44; rw [← Ny227.out] at ho44)); have n0_ := Aside0.mk (Kd.R_elder' z13_13 (Kd.R_base ho44) hb); have n1_ := Aside0.mk (Kd.R_lower (Kd.R_new' ho44 (Kd.R_lt z13_13)) (below_size (by repeat (first | (with_reducible first | exact HB.out | apply below_alloc | apply pw_below_drewN | apply below_drew1 | refine below_set ?_ GE214.out | refine below_set ?_ GE215.out) | exact HB.out)))); have n2_ := Aside0.mk (blk_below (g := gb214) (o := .cells #[.bool true, .slice A0_1 l0_1.length c0_1] 105 (0, 0)) (by (with_reducible repeat (first | refine blk_drewN ?_ _ | refine blk_drew ?_ | refine blk_alloc ?_ _)); exact BK214.out) hb); have n3_ := Aside0.mk (blk_below (g := gb215) (o := .cells #[.bool false, .slice none 0 0] 105 (0, 0)) (by (with_reducible repeat (first | refine blk_drewN ?_ _ | refine blk_drew ?_ | refine blk_alloc ?_ _)); exact BK215.out) hb); have n4_ := Aside0.mk (below_step (by repeat (first | (with_reducible first | exact HB.out | apply below_alloc | apply pw_below_drewN | apply below_drew1 | refine below_set ?_ GE214.out | refine below_set ?_ GE215.out) | exact HB.out)) hb); clear HO226; clear BK214; clear BK215; clear HB; have HO226 := n0_; have HO229 := n1_; have BK214 := n2_; have BK215 := n3_; have HB := n4_; clear n0_ n1_ n2_ n3_ n4_; clear hb ho44; obtain ⟨Ao45, co45, eo45⟩ := Kd.R_slice HO226.out; subst eo45; obtain ⟨Ao46, co46, eo46⟩ := Kd.R_slice HO229.out; subst eo46) | ((with_reducible refine gate_callee (f := 132) rfl ?_); refine goesL_ (some 71) rfl rfl Tryz.func132 (by kernel_rfl) rfl #[.slice Ao45 t224.length co45, .slice Ao46 y227.length co46] rfl z13_6 ?_; (with_reducible refine (capstanref01_sum.calls k1 _ _ t224 _ _ y227 t230 _ ?side1 ?side2 ?side3 ?side4 A38.out).mono ?_); (case side1 => repeat (first | exact (Kd.R_reads' HO226.out).2.2 | (with_reducible refine Kd.C_alloc ?_ _) | (with_reducible refine Kd.C_drewN ?_ _) | (with_reducible refine Kd.C_drew ?_))); (case side2 => exact (Kd.R_reads' HO226.out).2.1); (case side3 => repeat (first | exact (Kd.R_reads' HO229.out).2.2 | (with_reducible refine Kd.C_alloc ?_ _) | (with_reducible refine Kd.C_drewN ?_ _) | (with_reducible refine Kd.C_drew ?_))); (case side4 => exact (Kd.R_reads' HO229.out).2.1); rintro e w47 ⟨v231, rfl, ho0, hb⟩; refine ⟨_, rfl, ?_⟩; have n0_ := Aside0.mk (Kd.R_elder' z13_13 (Kd.R_base ho0) hb); have n1_ := Aside0.mk (Kd.R_elder' z13_14 (Kd.R_base ho0) hb); have n2_ := Aside0.mk (Kd.R_lower (Kd.R_new' (Kd.R_new' ho0 (Kd.R_lt z13_13)) (Kd.R_lt z13_14)) (below_size (by repeat (first | (with_reducible first | exact HB.out | apply below_alloc | apply pw_below_drewN | apply below_drew1 | refine below_set ?_ GE214.out | refine below_set ?_ GE215.out) | exact HB.out)))); have n3_ := Aside0.mk (blk_below (g := gb214) (o := .cells #[.bool true, .slice A0_1 l0_1.length c0_1] 105 (0, 0)) (by (with_reducible repeat (first | refine blk_drewN ?_ _ | refine blk_drew ?_ | refine blk_alloc ?_ _)); exact BK214.out) hb); have n4_ := Aside0.mk (blk_below (g := gb215) (o := .cells #[.bool false, .slice none 0 0] 105 (0, 0)) (by (with_reducible repeat (first | refine blk_drewN ?_ _ | refine blk_drew ?_ | refine blk_alloc ?_ _)); exact BK215.out) hb); have n5_ := Aside0.mk (below_step (by repeat (first | (with_reducible first | exact HB.out | apply below_alloc | apply pw_below_drewN | apply below_drew1 | refine below_set ?_ GE214.out | refine below_set ?_ GE215.out) | exact HB.out)) hb); clear HO226; clear HO229; clear BK214; clear BK215; clear HB; have HO226 := n0_; have HO229 := n1_; have HO232 := n2_; have BK214 := n3_; have BK215 := n4_; have HB := n5_; clear n0_ n1_ n2_ n3_ n4_ n5_; (try clear hb); (try clear hb2); (try clear hk); (try clear hi); (try clear ho0); have hcz48_0 : w47.cell? ⟨gb214, 0, none⟩ = some (.bool true) := (blk_cell BK214.out 0).trans rfl; have hcz48_1 : w47.cell? ⟨gb214, 1, none⟩ = some (.slice A0_1 l0_1.length c0_1) := (blk_cell BK214.out 1).trans rfl; have hfz48_0 := blk_frozen BK214.out 0; have hfz48_1 := blk_frozen BK214.out 1; obtain ⟨Ao49, co49, eo49⟩ := Kd.R_slice HO232.out; subst eo49; have hcz50_0 : w47.cell? ⟨gb215, 0, none⟩ = some (.bool false) := (blk_cell BK215.out 0).trans rfl; have hcz50_1 : w47.cell? ⟨gb215, 1, none⟩ = some (.slice none 0 0) := (blk_cell BK215.out 1).trans rfl; have hfz50_0 := blk_frozen BK215.out 0; have hfz50_1 := blk_frozen BK215.out 1))
        refine bodyPost_ret (results_cell_row rfl _ _ gb215 105 #[.bool true, .slice Ao49 t230.length co49] (0, 0) _ rfl (by (with_reducible repeat (first | refine blk_drewN ?_ _ | refine blk_drew ?_ | refine blk_alloc ?_ _)); refine blk_put (cs := #[.bool true, .slice none 0 0]) ?_ 1 _ rfl; (with_reducible repeat (first | refine blk_drewN ?_ _ | refine blk_drew ?_ | refine blk_alloc ?_ _)); refine blk_put (cs := #[.bool false, .slice none 0 0]) ?_ 0 _ rfl; (with_reducible repeat (first | refine blk_drewN ?_ _ | refine blk_drew ?_ | refine blk_alloc ?_ _)); exact BK215.out) Tryz.underlying105 rfl (by kernel_rfl)) rfl ?_
        exact ⟨_, by first | rfl | (simp [errW_none, errW_some] <;> rfl) | (simp [*, errW_none, errW_some] <;> rfl), by (with_reducible repeat (first | apply Kd.R_alloc | apply Kd.R_drewN | apply Kd.R_drew)); exact Kd.R_mono (Kd.R_far (p := ⟨gb215, 1, none⟩) (Kd.R_far (p := ⟨gb215, 0, none⟩) (Kd.R_types HO232.out BK215.out (by decide)) (fun _ hk => hk.2) (.bool true)) (fun _ hk => hk.2) (.slice Ao49 t230.length co49)) (fun _ hk => trivial), by repeat (first | (with_reducible first | exact HB.out | apply below_alloc | apply pw_below_drewN | apply below_drew1 | refine below_set ?_ GE214.out | refine below_set ?_ GE215.out) | exact HB.out)⟩
       ·rw [if_neg c37] at H
        have c37b0 : decide (0 < x6_1) = false := decide_eq_false c37
        clear c37
        simp only [Option.some.injEq, Prod.mk.injEq] at H
        obtain ⟨rfl, rfl⟩ := H
        obtain ⟨Ao51, co51, eo51⟩ := Kd.R_slice HO_5.out
        subst eo51
        go_wp2_with (first | ((with_reducible refine gate_callee (f := 90) rfl ?_); refine goesL_ (some 62) rfl rfl Tryz.func90 (by kernel_rfl) rfl #[.slice Ao51 x5_1.length co51] rfl z13_6 ?_; (with_reducible refine (capstanref01_trim.calls k1 (fun k_ => some k_ = (.slice Ao51 x5_1.length co51 : Value).ownBlock) (.slice Ao51 x5_1.length co51) x5_1 t224 w _ ?side1 ?side2 A35.out).mono ?_); (case side1 => repeat (first | (with_reducible first | exact HB.out | apply below_alloc | apply pw_below_drewN | apply below_drew1 | refine below_set ?_ GE214.out | refine below_set ?_ GE215.out) | exact HB.out)); (case side2 => exact Kd.R_tight rfl HO_5.out); rintro e w52 ⟨v225, rfl, ho0, hb, hkp⟩; refine ⟨_, rfl, ?_⟩; have n0_ := Aside0.mk (blk_kept (by (with_reducible repeat (first | refine blk_drewN ?_ _ | refine blk_drew ?_ | refine blk_alloc ?_ _)); exact BK214.out) hkp (fun hs_ => (fun e_ => (Kd.R_ne HO_5.out BK214.out (by decide)) e_) hs_)); have n1_ := Aside0.mk (blk_kept (by (with_reducible repeat (first | refine blk_drewN ?_ _ | refine blk_drew ?_ | refine blk_alloc ?_ _)); exact BK215.out) hkp (fun hs_ => (fun e_ => (Kd.R_ne HO_5.out BK215.out (by decide)) e_) hs_)); have n2_ := Aside0.mk (Kd.R_mono (ok' := fun k_ => True) ho0 (fun k_ hk_ => trivial)); have n3_ := Aside0.mk (hb); clear BK214; clear BK215; clear HB; clear HO_5; have BK214 := n0_; have BK215 := n1_; have HO226 := n2_; have HB := n3_; clear n0_ n1_ n2_ n3_; (try clear hb); (try clear hkp); (try clear ho0); have hnb53 := NB214_215.out; have hnc53 := NB215_214.out; have hcz54_0 : w52.cell? ⟨gb214, 0, none⟩ = some (.bool true) := (blk_cell BK214.out 0).trans rfl; have hcz54_1 : w52.cell? ⟨gb214, 1, none⟩ = some (.slice A0_1 l0_1.length c0_1) := (blk_cell BK214.out 1).trans rfl; have hfz54_0 := blk_frozen BK214.out 0; have hfz54_1 := blk_frozen BK214.out 1; obtain ⟨Ao55, co55, eo55⟩ := Kd.R_slice HO226.out; subst eo55; have hcz56_0 : w52.cell? ⟨gb215, 0, none⟩ = some (.bool false) := (blk_cell BK215.out 0).trans rfl; have hcz56_1 : w52.cell? ⟨gb215, 1, none⟩ = some (.slice none 0 0) := (blk_cell BK215.out 1).trans rfl; have hfz56_0 := blk_frozen BK215.out 0; have hfz56_1 := blk_frozen BK215.out 1))
        refine bodyPost_ret (results_cell_row rfl _ _ gb215 105 #[.bool true, .slice Ao55 t224.length co55] (0, 0) _ rfl (by (with_reducible repeat (first | refine blk_drewN ?_ _ | refine blk_drew ?_ | refine blk_alloc ?_ _)); refine blk_put (cs := #[.bool true, .slice none 0 0]) ?_ 1 _ rfl; (with_reducible repeat (first | refine blk_drewN ?_ _ | refine blk_drew ?_ | refine blk_alloc ?_ _)); refine blk_put (cs := #[.bool false, .slice none 0 0]) ?_ 0 _ rfl; (with_reducible repeat (first | refine blk_drewN ?_ _ | refine blk_drew ?_ | refine blk_alloc ?_ _)); exact BK215.out) Tryz.underlying105 rfl (by kernel_rfl)) rfl ?_
        exact ⟨_, by first | rfl | (simp [errW_none, errW_some] <;> rfl) | (simp [*, errW_none, errW_some] <;> rfl), by (with_reducible repeat (first | apply Kd.R_alloc | apply Kd.R_drewN | apply Kd.R_drew)); exact Kd.R_mono (Kd.R_far (p := ⟨gb215, 1, none⟩) (Kd.R_far (p := ⟨gb215, 0, none⟩) (Kd.R_types HO226.out BK215.out (by decide)) (fun _ hk => hk.2) (.bool true)) (fun _ hk => hk.2) (.slice Ao55 t224.length co55)) (fun _ hk => trivial), by repeat (first | (with_reducible first | exact HB.out | apply below_alloc | apply pw_below_drewN | apply below_drew1 | refine below_set ?_ GE214.out | refine below_set ?_ GE215.out) | exact HB.out)⟩
      ·replace c36 := Bool.eq_false_iff.mpr c36
       subst c36
       have H1 : (some (false, t224)) = some (r1, r2) := by rw [if_neg (show ¬ (false = true) by decide)] at H; exact H
       clear H
       have H := H1
       clear H1
       simp only [Option.some.injEq, Prod.mk.injEq] at H
       obtain ⟨rfl, rfl⟩ := H
       obtain ⟨Ao57, co57, eo57⟩ := Kd.R_slice HO_5.out
       subst eo57
       go_wp2_with (first | ((with_reducible refine gate_callee (f := 90) rfl ?_); refine goesL_ (some 62) rfl rfl Tryz.func90 (by kernel_rfl) rfl #[.slice Ao57 x5_1.length co57] rfl z13_6 ?_; (with_reducible refine (capstanref01_trim.calls k1 (fun k_ => some k_ = (.slice Ao57 x5_1.length co57 : Value).ownBlock) (.slice Ao57 x5_1.length co57) x5_1 t224 w _ ?side1 ?side2 A35.out).mono ?_); (case side1 => repeat (first | (with_reducible first | exact HB.out | apply below_alloc | apply pw_below_drewN | apply below_drew1 | refine below_set ?_ GE214.out | refine below_set ?_ GE215.out) | exact HB.out)); (case side2 => exact Kd.R_tight rfl HO_5.out); rintro e w58 ⟨v225, rfl, ho0, hb, hkp⟩; refine ⟨_, rfl, ?_⟩; have n0_ := Aside0.mk (blk_kept (by (with_reducible repeat (first | refine blk_drewN ?_ _ | refine blk_drew ?_ | refine blk_alloc ?_ _)); exact BK214.out) hkp (fun hs_ => (fun e_ => (Kd.R_ne HO_5.out BK214.out (by decide)) e_) hs_)); have n1_ := Aside0.mk (blk_kept (by (with_reducible repeat (first | refine blk_drewN ?_ _ | refine blk_drew ?_ | refine blk_alloc ?_ _)); exact BK215.out) hkp (fun hs_ => (fun e_ => (Kd.R_ne HO_5.out BK215.out (by decide)) e_) hs_)); have n2_ := Aside0.mk (Kd.R_mono (ok' := fun k_ => True) ho0 (fun k_ hk_ => trivial)); have n3_ := Aside0.mk (hb); clear BK214; clear BK215; clear HB; clear HO_5; have BK214 := n0_; have BK215 := n1_; have HO226 := n2_; have HB := n3_; clear n0_ n1_ n2_ n3_; (try clear hb); (try clear hkp); (try clear ho0); have hnb59 := NB214_215.out; have hnc59 := NB215_214.out; have hcz60_0 : w58.cell? ⟨gb214, 0, none⟩ = some (.bool false) := (blk_cell BK214.out 0).trans rfl; have hcz60_1 : w58.cell? ⟨gb214, 1, none⟩ = some (.slice A0_1 l0_1.length c0_1) := (blk_cell BK214.out 1).trans rfl; have hfz60_0 := blk_frozen BK214.out 0; have hfz60_1 := blk_frozen BK214.out 1; obtain ⟨Ao61, co61, eo61⟩ := Kd.R_slice HO226.out; subst eo61; have hcz62_0 : w58.cell? ⟨gb215, 0, none⟩ = some (.bool false) := (blk_cell BK215.out 0).trans rfl; have hcz62_1 : w58.cell? ⟨gb215, 1, none⟩ = some (.slice none 0 0) := (blk_cell BK215.out 1).trans rfl; have hfz62_0 := blk_frozen BK215.out 0; have hfz62_1 := blk_frozen BK215.out 1))
       refine bodyPost_ret (results_cell_row rfl _ _ gb215 105 #[.bool false, .slice Ao61 t224.length co61] (0, 0) _ rfl (by (with_reducible repeat (first | refine blk_drewN ?_ _ | refine blk_drew ?_ | refine blk_alloc ?_ _)); refine blk_put (cs := #[.bool false, .slice none 0 0]) ?_ 1 _ rfl; (with_reducible repeat (first | refine blk_drewN ?_ _ | refine blk_drew ?_ | refine blk_alloc ?_ _)); refine blk_put (cs := #[.bool false, .slice none 0 0]) ?_ 0 _ rfl; (with_reducible repeat (first | refine blk_drewN ?_ _ | refine blk_drew ?_ | refine blk_alloc ?_ _)); exact BK215.out) Tryz.underlying105 rfl (by kernel_rfl)) rfl ?_
       exact ⟨_, by first | rfl | (simp [errW_none, errW_some] <;> rfl) | (simp [*, errW_none, errW_some] <;> rfl), by (with_reducible repeat (first | apply Kd.R_alloc | apply Kd.R_drewN | apply Kd.R_drew)); exact Kd.R_mono (Kd.R_far (p := ⟨gb215, 1, none⟩) (Kd.R_far (p := ⟨gb215, 0, none⟩) (Kd.R_types HO226.out BK215.out (by decide)) (fun _ hk => hk.2) (.bool false)) (fun _ hk => hk.2) (.slice Ao61 t224.length co61)) (fun _ hk => trivial), by repeat (first | (with_reducible first | exact HB.out | apply below_alloc | apply pw_below_drewN | apply below_drew1 | refine below_set ?_ GE214.out | refine below_set ?_ GE215.out) | exact HB.out)⟩
  ·rw [if_neg c4] at H
   exact absurd H (by simp)
 ·rw [if_neg c3] at H
  exact absurd H (by simp)
/-! ### capstanref01_Mul: function 59 -/
def capstanref01_Mul.f (k : Nat) (a0 : Int) (a1 : Int) : Option (Int) := (capstanref01_Of.f k a0).bind fun bt233 => ((capstanref01_Of.f k a1).bind fun bt237 => ((capstanref01_Times.f k bt233.1 bt233.2 bt237.1 bt237.2).bind fun bt241 => ((capstanref01_Over.f k bt241.1 bt241.2 1000000).bind fun bt245 => ((capstanref01_Held.f k bt245.1 bt245.2).bind fun t249 => (some t249)))))
theorem capstanref01_Mul.mono : ∀ a0 a1 k, LeO (capstanref01_Mul.f k a0 a1) (capstanref01_Mul.f (k + 1) a0 a1) := by
 intro a0 a1 k
 unfold capstanref01_Mul.f
 repeat' first
   | (with_reducible exact capstanref01_Held.mono _ _ _)
   | (with_reducible exact capstanref01_Of.mono _ _)
   | (with_reducible exact capstanref01_Over.mono _ _ _ _)
   | (with_reducible exact capstanref01_Times.mono _ _ _ _ _)
   | (with_reducible exact LeO.refl _)
   | (with_reducible exact LeO.none _)
   | (with_reducible refine LeO.ite ?_ ?_)
   | (with_reducible refine LeO.bind ?_ (fun _ => ?_))
   | exact capstanref01_Held.mono _ _ _
   | exact capstanref01_Of.mono _ _
   | exact capstanref01_Over.mono _ _ _ _
   | exact capstanref01_Times.mono _ _ _ _ _
   | exact LeO.none _
   | refine LeO.ite ?_ ?_
   | refine LeO.bind ?_ (fun _ => ?_)
theorem capstanref01_Mul.calls (k : Nat) (a0 : Int) (a1 : Int) (r : Int) (w : World) (h : capstanref01_Mul.f k a0 a1 = some r) :
  Calls Tryz.prog 59 #[.int .i64 a0, .int .i64 a1] w fun e w' => e = .returned (.int .i64 r) ∧ Below w.heap.size w w' := by
 have HB := Aside0.mk (Below.refl w.heap.size w)
 have H : ((capstanref01_Of.f k a0).bind fun bt233 => ((capstanref01_Of.f k a1).bind fun bt237 => ((capstanref01_Times.f k bt233.1 bt233.2 bt237.1 bt237.2).bind fun bt241 => ((capstanref01_Over.f k bt241.1 bt241.2 1000000).bind fun bt245 => ((capstanref01_Held.f k bt245.1 bt245.2).bind fun t249 => (some t249)))))) = some r := h
 clear h
 replace H := Option.bind_eq_some_iff.mp H
 obtain ⟨⟨t233, t234⟩, A30, H⟩ := H
 replace H : ((capstanref01_Of.f k a1).bind fun bt237 => ((capstanref01_Times.f k t233 t234 bt237.1 bt237.2).bind fun bt241 => ((capstanref01_Over.f k bt241.1 bt241.2 1000000).bind fun bt245 => ((capstanref01_Held.f k bt245.1 bt245.2).bind fun t249 => (some t249))))) = some r := H
 have A3 := Aside0.mk A30
 clear A30
 replace H := Option.bind_eq_some_iff.mp H
 obtain ⟨⟨t237, t238⟩, A40, H⟩ := H
 replace H : ((capstanref01_Times.f k t233 t234 t237 t238).bind fun bt241 => ((capstanref01_Over.f k bt241.1 bt241.2 1000000).bind fun bt245 => ((capstanref01_Held.f k bt245.1 bt245.2).bind fun t249 => (some t249)))) = some r := H
 have A4 := Aside0.mk A40
 clear A40
 replace H := Option.bind_eq_some_iff.mp H
 obtain ⟨⟨t241, t242⟩, A50, H⟩ := H
 replace H : ((capstanref01_Over.f k t241 t242 1000000).bind fun bt245 => ((capstanref01_Held.f k bt245.1 bt245.2).bind fun t249 => (some t249))) = some r := H
 have A5 := Aside0.mk A50
 clear A50
 replace H := Option.bind_eq_some_iff.mp H
 obtain ⟨⟨t245, t246⟩, A60, H⟩ := H
 replace H : ((capstanref01_Held.f k t245 t246).bind fun t249 => (some t249)) = some r := H
 have A6 := Aside0.mk A60
 clear A60
 replace H := Option.bind_eq_some_iff.mp H
 obtain ⟨t249, A70, H⟩ := H
 replace H : (some t249) = some r := H
 have A7 := Aside0.mk A70
 clear A70
 obtain rfl := Option.some.inj H
 go_enter Tryz.func59, Tryz.ntmps59
 go_wp2_with (first | ((with_reducible refine gate_callee (f := 51) rfl ?_); refine goesL_ (some 6) rfl rfl Tryz.func51 (by kernel_rfl) rfl #[.int .i64 a0] rfl z13_6 ?_; (with_reducible refine (capstanref01_Of.calls k a0 t233 t234 _ A3.out).mono ?_); rintro e w8 ⟨v235, rfl, ho0, hb⟩; refine ⟨_, rfl, ?_⟩; have n0_ := Aside0.mk (Kd.R_lower ho0 (below_size z13_7)); have n1_ := Aside0.mk (below_step z13_7 hb); clear HB; have HO236 := n0_; have HB := n1_; clear n0_ n1_; (try clear hb); (try clear hb2); (try clear hk); (try clear hi); (try clear ho0)) | ((with_reducible refine gate_callee (f := 51) rfl ?_); refine goesL_ (some 8) rfl rfl Tryz.func51 (by kernel_rfl) rfl #[.int .i64 a1] rfl z13_6 ?_; (with_reducible refine (capstanref01_Of.calls k a1 t237 t238 _ A4.out).mono ?_); rintro e w9 ⟨v239, rfl, ho0, hb⟩; refine ⟨_, rfl, ?_⟩; have n0_ := Aside0.mk (Kd.R_elder' z13_15 (Kd.R_base ho0) hb); have n1_ := Aside0.mk (Kd.R_lower (Kd.R_new' ho0 (Kd.R_lt z13_15)) (below_size z13_7)); have n2_ := Aside0.mk (below_step z13_7 hb); clear HO236; clear HB; have HO236 := n0_; have HO240 := n1_; have HB := n2_; clear n0_ n1_ n2_; (try clear hb); (try clear hb2); (try clear hk); (try clear hi); (try clear ho0); obtain ⟨Ao10, co10, eo10⟩ := Kd.R_slice HO236.out; subst eo10; obtain ⟨Ao11, co11, eo11⟩ := Kd.R_slice HO240.out; subst eo11) | ((with_reducible refine gate_callee (f := 50) rfl ?_); refine goesL_ (some 9) rfl rfl Tryz.func50 (by kernel_rfl) rfl #[.agg #[.bool t233, .slice Ao10 t234.length co10], .agg #[.bool t237, .slice Ao11 t238.length co11]] rfl z13_6 ?_; (with_reducible refine (capstanref01_Times.calls k t233 _ _ t234 t237 _ _ t238 t241 t242 _ ?side1 ?side2 ?side3 ?side4 A5.out).mono ?_); (case side1 => repeat (first | exact (Kd.R_reads' HO236.out).2.2 | (with_reducible refine Kd.C_alloc ?_ _) | (with_reducible refine Kd.C_drewN ?_ _) | (with_reducible refine Kd.C_drew ?_))); (case side2 => exact (Kd.R_reads' HO236.out).2.1); (case side3 => repeat (first | exact (Kd.R_reads' HO240.out).2.2 | (with_reducible refine Kd.C_alloc ?_ _) | (with_reducible refine Kd.C_drewN ?_ _) | (with_reducible refine Kd.C_drew ?_))); (case side4 => exact (Kd.R_reads' HO240.out).2.1); rintro e w12 ⟨v243, rfl, ho0, hb⟩; refine ⟨_, rfl, ?_⟩; have n0_ := Aside0.mk (Kd.R_elder' z13_15 (Kd.R_base ho0) hb); have n1_ := Aside0.mk (Kd.R_elder' z13_16 (Kd.R_base ho0) hb); have n2_ := Aside0.mk (Kd.R_lower (Kd.R_new' (Kd.R_new' ho0 (Kd.R_lt z13_15)) (Kd.R_lt z13_16)) (below_size z13_7)); have n3_ := Aside0.mk (below_step z13_7 hb); clear HO236; clear HO240; clear HB; have HO236 := n0_; have HO240 := n1_; have HO244 := n2_; have HB := n3_; clear n0_ n1_ n2_ n3_; (try clear hb); (try clear hb2); (try clear hk); (try clear hi); (try clear ho0); obtain ⟨Ao13, co13, eo13⟩ := Kd.R_slice HO244.out; subst eo13) | ((with_reducible refine gate_callee (f := 92) rfl ?_); refine goesL_ (some 10) rfl rfl Tryz.func92 (by kernel_rfl) rfl #[.agg #[.bool t241, .slice Ao13 t242.length co13], .int .i64 1000000] rfl z13_6 ?_; (with_reducible refine (capstanref01_Over.calls k t241 _ _ t242 1000000 t245 t246 _ ?side1 ?side2 A6.out).mono ?_); (case side1 => repeat (first | exact (Kd.R_reads' HO244.out).2.2 | (with_reducible refine Kd.C_alloc ?_ _) | (with_reducible refine Kd.C_drewN ?_ _) | (with_reducible refine Kd.C_drew ?_))); (case side2 => exact (Kd.R_reads' HO244.out).2.1); rintro e w14 ⟨v247, rfl, ho0, hb⟩; refine ⟨_, rfl, ?_⟩; have n0_ := Aside0.mk (Kd.R_elder' z13_15 (Kd.R_base ho0) hb); have n1_ := Aside0.mk (Kd.R_elder' z13_16 (Kd.R_base ho0) hb); have n2_ := Aside0.mk (Kd.R_elder' z13_17 (Kd.R_base ho0) hb); have n3_ := Aside0.mk (Kd.R_lower (Kd.R_new' (Kd.R_new' (Kd.R_new' ho0 (Kd.R_lt z13_15)) (Kd.R_lt z13_16)) (Kd.R_lt z13_17)) (below_size z13_7)); have n4_ := Aside0.mk (below_step z13_7 hb); clear HO236; clear HO240; clear HO244; clear HB; have HO236 := n0_; have HO240 := n1_; have HO244 := n2_; have HO248 := n3_; have HB := n4_; clear n0_ n1_ n2_ n3_ n4_; (try clear hb); (try clear hb2); (try clear hk); (try clear hi); (try clear ho0); obtain ⟨Ao15, co15, eo15⟩ := Kd.R_slice HO248.out; subst eo15) | ((with_reducible refine gate_callee (f := 49) rfl ?_); refine goesL_ (some 11) rfl rfl Tryz.func49 (by kernel_rfl) rfl #[.agg #[.bool t245, .slice Ao15 t246.length co15]] rfl z13_6 ?_; (with_reducible refine (capstanref01_Held.calls k t245 _ _ t246 t249 _ ?side1 ?side2 A7.out).mono ?_); (case side1 => repeat (first | exact (Kd.R_reads' HO248.out).2.2 | (with_reducible refine Kd.C_alloc ?_ _) | (with_reducible refine Kd.C_drewN ?_ _) | (with_reducible refine Kd.C_drew ?_))); (case side2 => exact (Kd.R_reads' HO248.out).2.1); rintro e w16 ⟨rfl, hb⟩; refine ⟨_, rfl, ?_⟩; have n0_ := Aside0.mk (Kd.R_below z13_15 hb); have n1_ := Aside0.mk (Kd.R_below z13_16 hb); have n2_ := Aside0.mk (Kd.R_below z13_17 hb); have n3_ := Aside0.mk (Kd.R_below (by (with_reducible repeat (first | apply Kd.R_alloc | apply Kd.R_drewN | apply Kd.R_drew)); exact HO248.out) hb); have n4_ := Aside0.mk (below_step z13_7 hb); clear HO236; clear HO240; clear HO244; clear HO248; clear HB; have HO236 := n0_; have HO240 := n1_; have HO244 := n2_; have HO248 := n3_; have HB := n4_; clear n0_ n1_ n2_ n3_ n4_; (try clear hb); (try clear hb2); (try clear hk); (try clear hi)))
 go_ret
 exact ⟨by first | rfl | (simp [errW_none, errW_some] <;> rfl) | (simp [*, errW_none, errW_some] <;> rfl), by repeat (first | (with_reducible first | exact HB.out | apply below_alloc | apply pw_below_drewN | apply below_drew1) | exact HB.out)⟩
/-! ### capstanref01_half: function 94 -/
def capstanref01_half.f (k : Nat) (a0_0 : Bool) (l0_1 : List Int) : Option (Bool × List Int) := (capstanref01_Over.f k false l0_1 2).bind fun bt252 => (some (a0_0, bt252.2))
theorem capstanref01_half.mono : ∀ a0 a1 k, LeO (capstanref01_half.f k a0 a1) (capstanref01_half.f (k + 1) a0 a1) := by
 intro a0 a1 k
 unfold capstanref01_half.f
 repeat' first
   | (with_reducible exact capstanref01_Over.mono _ _ _ _)
   | (with_reducible exact LeO.refl _)
   | (with_reducible exact LeO.none _)
   | (with_reducible refine LeO.ite ?_ ?_)
   | (with_reducible refine LeO.bind ?_ (fun _ => ?_))
   | exact capstanref01_Over.mono _ _ _ _
   | exact LeO.none _
   | refine LeO.ite ?_ ?_
   | refine LeO.bind ?_ (fun _ => ?_)
def capstanref01_half.T1 : Bool × List (List Nat × List Nat) := (true, [([], []), ([0], [0]), ([], []), ([2], [2]), ([3], [3]), ([4], [4]), ([5], [5]), ([1, 6], [1, 6]), ([7, 5, 0, 1, 2, 3, 4, 5, 6, 7], [7])])
def capstanref01_half.B1 : List Nat := [0, 1, 0, 4, 12, 28, 60, 127, 255]
theorem capstanref01_half.tab1 : rtab .any (opsOf Tryz.f94 1) = capstanref01_half.T1 := by kernel_rfl
theorem capstanref01_half.bits1 : waitsOk capstanref01_half.T1.2 capstanref01_half.B1 = true := by kernel_rfl
theorem capstanref01_half.calls (k : Nat) (a0_0 : Bool) (A0_1 : Option Addr) (c0_1 : Nat) (l0_1 : List Int) (r1 : Bool) (r2 : List Int) (w : World) (hr0_1 : Kd.C (Kd.int .i64) w A0_1 l0_1.length l0_1) (hc0_1 : l0_1.length ≤ c0_1) (h : capstanref01_half.f k a0_0 l0_1 = some (r1, r2)) :
  Calls Tryz.prog 94 #[.agg #[.bool a0_0, .slice A0_1 l0_1.length c0_1]] w fun e w' => ∃ v1_ : Value, e = .returned (.agg #[.bool r1, v1_]) ∧ Kd.R (Kd.int .i64) 3 w' w.heap.size (fun _ => True) v1_ r2 ∧ Below w.heap.size w w' := by
 have hu105 := Tryz.underlying105
 have hfld : ∀ (b : Bool) (v : Value) (W : World), (Instr.field 105 (.agg #[.bool b, v]) 1).run Tryz.prog W = .ok v W := fun b v W => by kernel_rfl
 have HR0_1 := Aside0.mk hr0_1
 have HC0_1 := Aside0.mk hc0_1
 clear hr0_1 hc0_1
 have HB := Aside0.mk (Below.refl w.heap.size w)
 have H : ((capstanref01_Over.f k false l0_1 2).bind fun bt252 => (some (a0_0, bt252.2))) = some (r1, r2) := h
 clear h
 replace H := Option.bind_eq_some_iff.mp H
 obtain ⟨⟨t252, t253⟩, A20, H⟩ := H
 replace H : (some (a0_0, t253)) = some (r1, r2) := H
 have A2 := Aside0.mk A20
 clear A20
 simp only [Option.some.injEq, Prod.mk.injEq] at H
 obtain ⟨rfl, rfl⟩ := H
 go_enter Tryz.func94, Tryz.ntmps94
 try go_wp2_with (first | ((with_reducible refine gate_dst (N := 1) rfl ?_); refine box_event ?hg (N := 1) ?hd (cs := #[.bool a0_0, .slice A0_1 l0_1.length c0_1]) (t := 105) ?hr ?_; (case hd => rfl); (case hg => rfl); (case hr => first | (go_simp; done) | (go_simp; rfl)); intro gb250 hg w3 hbox hb; have n0_ := Aside0.mk (below_step z13_7 hb); have n1_ := Aside0.mk (hbox); have n2_ := Aside0.mk ((by rw [hg]; exact (below_size z13_7) : w.heap.size ≤ gb250)); have n3_ := Aside0.mk ((by rw [hg]; exact (below_size z13_7) : w.heap.size ≤ gb250)); clear HB; have HB := n0_; have BK250 := n1_; have GW250 := n2_; have GE250 := n3_; clear n0_ n1_ n2_ n3_; clear hb hbox hg) | ((with_reducible refine gate_dst (N := 2) rfl ?_); refine box_event ?hg (N := 2) ?hd (cs := #[.bool false, .slice none 0 0]) (t := 105) ?hr ?_; (case hd => rfl); (case hg => rfl); (case hr => first | (go_simp; done) | (go_simp; rfl)); intro gb251 hg w4 hbox hb; have n0_ := Aside0.mk (blk_below (g := gb250) (o := .cells #[.bool a0_0, .slice A0_1 l0_1.length c0_1] 105 (0, 0)) (by (with_reducible repeat (first | refine blk_drewN ?_ _ | refine blk_drew ?_ | refine blk_alloc ?_ _)); exact BK250.out) hb); have n1_ := Aside0.mk (below_step (by repeat (first | (with_reducible first | exact HB.out | apply below_alloc | apply pw_below_drewN | apply below_drew1 | refine below_set ?_ GE250.out) | exact HB.out)) hb); have n2_ := Aside0.mk (hbox); have n3_ := Aside0.mk ((by rw [hg]; exact (below_size (by repeat (first | (with_reducible first | exact HB.out | apply below_alloc | apply pw_below_drewN | apply below_drew1 | refine below_set ?_ GE250.out) | exact HB.out))) : w.heap.size ≤ gb251)); have n4_ := Aside0.mk ((by rw [hg]; exact (below_size (by repeat (first | (with_reducible first | exact HB.out | apply below_alloc | apply pw_below_drewN | apply below_drew1 | refine below_set ?_ GE250.out) | exact HB.out))) : w.heap.size ≤ gb251)); have n5_ := Aside0.mk ((by rw [hg]; exact Nat.ne_of_lt (blk_lt (g := gb250) (o := .cells #[.bool a0_0, .slice A0_1 l0_1.length c0_1] 105 (0, 0)) (by (with_reducible repeat (first | refine blk_drewN ?_ _ | refine blk_drew ?_ | refine blk_alloc ?_ _)); exact BK250.out)) : gb250 ≠ gb251)); have n6_ := Aside0.mk ((by rw [hg]; exact Nat.ne_of_gt (blk_lt (g := gb250) (o := .cells #[.bool a0_0, .slice A0_1 l0_1.length c0_1] 105 (0, 0)) (by (with_reducible repeat (first | refine blk_drewN ?_ _ | refine blk_drew ?_ | refine blk_alloc ?_ _)); exact BK250.out)) : gb251 ≠ gb250)); clear BK250; clear HB; have BK250 := n0_; have HB := n1_; have BK251 := n2_; have GW251 := n3_; have GE251 := n4_; have NB250_251 := n5_; have NB251_250 := n6_; clear n0_ n1_ n2_ n3_ n4_ n5_ n6_; clear hb hbox hg))
 have n0_ := Aside0.mk (blk_drew BK250.out)
 have n1_ := Aside0.mk (blk_drew BK251.out)
 have n2_ := Aside0.mk (below_drew1 HB.out)
 clear BK250
 clear BK251
 clear HB
 have BK250 := n0_
 have BK251 := n1_
 have HB := n2_
 clear n0_ n1_ n2_
 refine start_ (n := 9) (S := fun w' => w'.cell? ⟨gb250, 0, none⟩ = some (.bool a0_0) ∧ w'.cell? ⟨gb250, 1, none⟩ = some (.slice A0_1 l0_1.length c0_1)) (ds := []) #[false, false, false, false, false, false, false, false, false] (by kernel_rfl) rfl rfl ⟨(blk_cell BK250.out 0).trans rfl, (blk_cell BK250.out 1).trans rfl⟩ (fun hHeld => ?_); refine with_tabW capstanref01_half.tab1 capstanref01_half.bits1 (fun HT_ HW_ => ?_)
 generalize w4.drew = w5 at BK250 BK251 HB hHeld ⊢
 refine pure_ (i := 0) (N := some 3) (v := ?_) (a' := ?_) #[true, false, false, false, false, false, false, false, false] rfl rfl (any_of HT_.out (by kernel_rfl)) (fun _ _ _ h => h) (Or.inl ⟨by rfl, ?_⟩) ?_ ?_
 rotate_left
 ·intro w'
  go_simp
  with_reducible rfl
 rotate_left
 ·simp only [Act.put, List.setIfInBounds_toArray, List.set_cons_zero, List.set_cons_succ, i64_w, i32_w]
  rfl
 refine pure_ (i := 2) (N := some 5) (v := ?_) (a' := ?_) #[true, false, true, false, false, false, false, false, false] rfl rfl (any_of HT_.out (by kernel_rfl)) (fun _ _ _ h => h) (Or.inl ⟨by rfl, ?_⟩) ?_ ?_
 rotate_left
 ·intro w'
  go_simp
  with_reducible rfl
 rotate_left
 ·simp only [Act.put, List.setIfInBounds_toArray, List.set_cons_zero, List.set_cons_succ, i64_w, i32_w]
  rfl
 refine take_ (i := 1) (N := some 4) (v := ?_) (a' := ?_) #[true, true, true, false, false, false, false, false, false] rfl rfl (take_ofW HT_.out HW_.out (by kernel_rfl)) (fun _ _ _ h => h) (Or.inl ⟨by rfl, ?_⟩) hHeld ?_ ?_
 rotate_left
 ·rintro w' ⟨s0, s1⟩
  go_simp
  with_reducible rfl
 rotate_left
 ·simp only [Act.put, List.setIfInBounds_toArray, List.set_cons_zero, List.set_cons_succ, i64_w, i32_w]
  rfl
 refine take_ (i := 3) (N := some 6) (v := ?_) (a' := ?_) #[true, true, true, true, false, false, false, false, false] rfl rfl (take_ofW HT_.out HW_.out (by kernel_rfl)) (fun _ _ _ h => h) (Or.inl ⟨by rfl, ?_⟩) hHeld ?_ ?_
 rotate_left
 ·rintro w' ⟨s0, s1⟩
  go_simp
  with_reducible rfl
 rotate_left
 ·simp only [Act.put, List.setIfInBounds_toArray, List.set_cons_zero, List.set_cons_succ, i64_w, i32_w]
  rfl
 refine pure_ (i := 4) (N := some 7) (v := ?_) (a' := ?_) #[true, true, true, true, true, false, false, false, false] rfl rfl (any_of HT_.out (by kernel_rfl)) (fun _ _ _ h => h) (Or.inl ⟨by rfl, ?_⟩) ?_ ?_
 rotate_left
 ·intro w'
  go_simp
  with_reducible rfl
 rotate_left
 ·simp only [Act.put, List.setIfInBounds_toArray, List.set_cons_zero, List.set_cons_succ, i64_w, i32_w]
  rfl
 refine one_ (i := 5) (N := some 8) #[true, true, true, true, true, true, false, false, false] rfl rfl (one_of HT_.out (by kernel_rfl)) (by decide) (fun K hK => ?_)
 refine goes_ Tryz.func92 (by kernel_rfl) rfl #[.agg #[.bool false, .slice A0_1 l0_1.length c0_1], .int .i64 2] (by rfl) rfl rfl z13_6 ?_
 with_reducible refine (capstanref01_Over.calls k false _ _ l0_1 2 t252 t253 _ ?side1 ?side2 A2.out).mono ?_
 (case side1 => repeat (first | exact (Kd.C_below HR0_1.out HB.out) | (with_reducible refine Kd.C_alloc ?_ _) | (with_reducible refine Kd.C_drewN ?_ _) | (with_reducible refine Kd.C_drew ?_)))
 (case side2 => exact HC0_1.out)
 rintro e w6 ⟨v254, rfl, ho0, hb⟩
 refine ⟨_, rfl, ?_⟩
 have n0_ := Aside0.mk (Kd.R_lower ho0 (below_size (by repeat (first | (with_reducible first | exact HB.out | apply below_alloc | apply pw_below_drewN | apply below_drew1 | refine below_set ?_ GE250.out | refine below_set ?_ GE251.out) | exact HB.out))))
 have n1_ := Aside0.mk (blk_below (g := gb250) (o := .cells #[.bool a0_0, .slice A0_1 l0_1.length c0_1] 105 (0, 0)) (by (with_reducible repeat (first | refine blk_drewN ?_ _ | refine blk_drew ?_ | refine blk_alloc ?_ _)); exact BK250.out) hb)
 have n2_ := Aside0.mk (blk_below (g := gb251) (o := .cells #[.bool false, .slice none 0 0] 105 (0, 0)) (by (with_reducible repeat (first | refine blk_drewN ?_ _ | refine blk_drew ?_ | refine blk_alloc ?_ _)); exact BK251.out) hb)
 have n3_ := Aside0.mk (below_step (by repeat (first | (with_reducible first | exact HB.out | apply below_alloc | apply pw_below_drewN | apply below_drew1 | refine below_set ?_ GE250.out | refine below_set ?_ GE251.out) | exact HB.out)) hb)
 clear BK250
 clear BK251
 clear HB
 have HO255 := n0_
 have BK250 := n1_
 have BK251 := n2_
 have HB := n3_
 clear n0_ n1_ n2_ n3_
 (try clear hb)
 (try clear hb2)
 (try clear hk)
 (try clear hi)
 (try clear ho0)
 obtain ⟨Ao7, co7, eo7⟩ := Kd.R_slice HO255.out
 (first | subst eo7 | (injection eo7 with f1_ f2_ f3_; have f4_ := f1_.symm; have f5_ := f3_.symm; clear f1_ f2_ f3_; subst f4_; subst f5_))
 refine hK.out _ _ ⟨(blk_cell BK250.out 0).trans rfl, (blk_cell BK250.out 1).trans rfl⟩ (fun hHeld => ?_)
 clear hK K
 refine norm_ (a' := ?_) ?_ ?_
 rotate_left
 ·show Act.put _ (some 8) _ = _
  simp only [Act.put, List.setIfInBounds_toArray, List.set_cons_zero, List.set_cons_succ, i64_w, i32_w]
  rfl
 refine pure_ (i := 6) (N := some 9) (v := ?_) (a' := ?_) #[true, true, true, true, true, true, true, false, false] rfl rfl (any_of HT_.out (by kernel_rfl)) (fun _ _ _ h => h) (Or.inl ⟨by rfl, ?_⟩) ?_ ?_
 rotate_left
 ·intro w'
  go_simp
  with_reducible rfl
 rotate_left
 ·simp only [Act.put, List.setIfInBounds_toArray, List.set_cons_zero, List.set_cons_succ, i64_w, i32_w]
  rfl
 refine pure_ (i := 7) (N := some 10) (v := ?_) (a' := ?_) #[true, true, true, true, true, true, true, true, false] rfl rfl (any_of HT_.out (by kernel_rfl)) (fun _ _ _ h => h) (Or.inl ⟨by rfl, ?_⟩) ?_ ?_
 rotate_left
 ·intro w'
  go_simp
  with_reducible rfl
 rotate_left
 ·simp only [Act.put, List.setIfInBounds_toArray, List.set_cons_zero, List.set_cons_succ, i64_w, i32_w]
  rfl
 refine one_ (i := 8) (N := none) #[true, true, true, true, true, true, true, true, true] rfl rfl (one_of HT_.out (by kernel_rfl)) (by decide) (fun K hK => ?_)
 have hs8 : w6.cell? ⟨gb251, 0, none⟩ = some (.bool false) := (blk_cell BK251.out 0).trans rfl
 have hfs8 := blk_frozen BK251.out 0
 have hns8_0 := NB250_251.out
 have hms8_0 := NB251_250.out
 have hs9 : w6.cell? ⟨gb251, 1, none⟩ = some (.slice none 0 0) := (blk_cell BK251.out 1).trans rfl
 have hfs9 := blk_frozen BK251.out 1
 have hns9_0 := NB250_251.out
 have hms9_0 := NB251_250.out
 refine skip_ (w1 := ?_) (by rfl) rfl ?_ ?_
 rotate_left
 ·go_simp
  rfl
 refine hK.out _ _ ⟨((cell_far (p := ⟨gb251, _, none⟩) NB250_251.out _).trans (((cell_far (p := ⟨gb251, _, none⟩) NB250_251.out _).trans (hHeld.1)))), ((cell_far (p := ⟨gb251, _, none⟩) NB250_251.out _).trans (((cell_far (p := ⟨gb251, _, none⟩) NB250_251.out _).trans (hHeld.2))))⟩ (fun hHeld => ?_)
 clear hK K
 refine done_ (done_of HT_.out (by kernel_rfl)) ?_
 try go_wp2
 refine bodyPost_ret (results_cell_row rfl _ _ gb251 105 #[.bool a0_0, .slice Ao7 t253.length co7] (0, 0) _ rfl (by (with_reducible repeat (first | refine blk_drewN ?_ _ | refine blk_drew ?_ | refine blk_alloc ?_ _)); refine blk_put (cs := #[.bool a0_0, .slice none 0 0]) ?_ 1 _ rfl; (with_reducible repeat (first | refine blk_drewN ?_ _ | refine blk_drew ?_ | refine blk_alloc ?_ _)); refine blk_put (cs := #[.bool false, .slice none 0 0]) ?_ 0 _ rfl; (with_reducible repeat (first | refine blk_drewN ?_ _ | refine blk_drew ?_ | refine blk_alloc ?_ _)); exact BK251.out) Tryz.underlying105 rfl (by kernel_rfl)) rfl ?_
 exact ⟨_, by first | rfl | (simp [errW_none, errW_some] <;> rfl) | (simp [*, errW_none, errW_some] <;> rfl), by (with_reducible repeat (first | apply Kd.R_alloc | apply Kd.R_drewN | apply Kd.R_drew)); exact Kd.R_mono (Kd.R_far (p := ⟨gb251, 1, none⟩) (Kd.R_far (p := ⟨gb251, 0, none⟩) (Kd.R_types HO255.out BK251.out (by decide)) (fun _ hk => hk.2) (.bool a0_0)) (fun _ hk => hk.2) (.slice Ao7 t253.length co7)) (fun _ hk => trivial), by repeat (first | (with_reducible first | exact HB.out | apply below_alloc | apply pw_below_drewN | apply below_drew1 | refine below_set ?_ GE250.out | refine below_set ?_ GE251.out) | exact HB.out)⟩
/-! ### capstanref01_Div: function 60 -/
def capstanref01_Div.f (k : Nat) (a0 : Int) (a1 : Int) : Option (Int × Bool) := if a1 = 0 then (some (0, false)) else ((capstanref01_Of.f k a0).bind fun bt256 => ((capstanref01_Of.f k 1000000).bind fun bt260 => ((capstanref01_Times.f k bt256.1 bt256.2 bt260.1 bt260.2).bind fun bt264 => (if a1 = (-9223372036854775808) then ((capstanref01_half.f k bt264.1 bt264.2).bind fun bt269 => ((capstanref01_Minus.f bt269.1 bt269.2).bind fun bt273 => ((capstanref01_Over.f k bt273.1 bt273.2 4611686018427387904).bind fun bt277 => ((capstanref01_Held.f k bt277.1 bt277.2).bind fun t281 => (some (t281, true)))))) else (if a1 < 0 then ((capstanref01_Minus.f bt264.1 bt264.2).bind fun bt282 => ((capstanref01_Over.f k bt282.1 bt282.2 (wrap64 (-a1))).bind fun bt286 => ((capstanref01_Held.f k bt286.1 bt286.2).bind fun t290 => (some (t290, true))))) else ((capstanref01_Over.f k bt264.1 bt264.2 a1).bind fun bt291 => ((capstanref01_Held.f k bt291.1 bt291.2).bind fun t295 => (some (t295, true)))))))))
theorem capstanref01_Div.mono : ∀ a0 a1 k, LeO (capstanref01_Div.f k a0 a1) (capstanref01_Div.f (k + 1) a0 a1) := by
 intro a0 a1 k
 unfold capstanref01_Div.f
 repeat' first
   | (with_reducible exact capstanref01_Held.mono _ _ _)
   | (with_reducible exact capstanref01_Of.mono _ _)
   | (with_reducible exact capstanref01_Over.mono _ _ _ _)
   | (with_reducible exact capstanref01_Times.mono _ _ _ _ _)
   | (with_reducible exact capstanref01_half.mono _ _ _)
   | (with_reducible exact LeO.refl _)
   | (with_reducible exact LeO.none _)
   | (with_reducible refine LeO.ite ?_ ?_)
   | (with_reducible refine LeO.bind ?_ (fun _ => ?_))
   | exact capstanref01_Held.mono _ _ _
   | exact capstanref01_Of.mono _ _
   | exact capstanref01_Over.mono _ _ _ _
   | exact capstanref01_Times.mono _ _ _ _ _
   | exact capstanref01_half.mono _ _ _
   | exact LeO.none _
   | refine LeO.ite ?_ ?_
   | refine LeO.bind ?_ (fun _ => ?_)
theorem capstanref01_Div.calls (k : Nat) (a0 : Int) (a1 : Int) (r1 : Int) (r2 : Bool) (w : World) (h : capstanref01_Div.f k a0 a1 = some (r1, r2)) :
  Calls Tryz.prog 60 #[.int .i64 a0, .int .i64 a1] w fun e w' => e = .returned (.tuple #[.int .i64 r1, .bool r2]) ∧ Below w.heap.size w w' := by
 have hu105 := Tryz.underlying105
 have HB := Aside0.mk (Below.refl w.heap.size w)
 have H : (if a1 = 0 then (some (0, false)) else ((capstanref01_Of.f k a0).bind fun bt256 => ((capstanref01_Of.f k 1000000).bind fun bt260 => ((capstanref01_Times.f k bt256.1 bt256.2 bt260.1 bt260.2).bind fun bt264 => (if a1 = (-9223372036854775808) then ((capstanref01_half.f k bt264.1 bt264.2).bind fun bt269 => ((capstanref01_Minus.f bt269.1 bt269.2).bind fun bt273 => ((capstanref01_Over.f k bt273.1 bt273.2 4611686018427387904).bind fun bt277 => ((capstanref01_Held.f k bt277.1 bt277.2).bind fun t281 => (some (t281, true)))))) else (if a1 < 0 then ((capstanref01_Minus.f bt264.1 bt264.2).bind fun bt282 => ((capstanref01_Over.f k bt282.1 bt282.2 (wrap64 (-a1))).bind fun bt286 => ((capstanref01_Held.f k bt286.1 bt286.2).bind fun t290 => (some (t290, true))))) else ((capstanref01_Over.f k bt264.1 bt264.2 a1).bind fun bt291 => ((capstanref01_Held.f k bt291.1 bt291.2).bind fun t295 => (some (t295, true)))))))))) = some (r1, r2) := h
 clear h
 by_cases c3 : a1 = 0
 ·rw [if_pos c3] at H
  have c3b0 : (a1 == 0) = true := beq_iff_eq.mpr c3
  have c3b1 : (a1 != 0) = false := bne_eq_false_iff_eq.mpr c3
  clear c3
  simp only [Option.some.injEq, Prod.mk.injEq] at H
  obtain ⟨rfl, rfl⟩ := H
  go_enter Tryz.func60, Tryz.ntmps60
  go_wp2
  go_ret2
  exact ⟨by first | rfl | (simp [errW_none, errW_some] <;> rfl) | (simp [*, errW_none, errW_some] <;> rfl), by repeat (first | (with_reducible first | exact HB.out | apply below_alloc | apply pw_below_drewN | apply below_drew1) | exact HB.out)⟩
 ·rw [if_neg c3] at H
  have c3b0 : (a1 == 0) = false := beq_eq_false_iff_ne.mpr c3
  have c3b1 : (a1 != 0) = true := bne_iff_ne.mpr c3
  replace H := Option.bind_eq_some_iff.mp H
  obtain ⟨⟨t256, t257⟩, A40, H⟩ := H
  replace H : ((capstanref01_Of.f k 1000000).bind fun bt260 => ((capstanref01_Times.f k t256 t257 bt260.1 bt260.2).bind fun bt264 => (if a1 = (-9223372036854775808) then ((capstanref01_half.f k bt264.1 bt264.2).bind fun bt269 => ((capstanref01_Minus.f bt269.1 bt269.2).bind fun bt273 => ((capstanref01_Over.f k bt273.1 bt273.2 4611686018427387904).bind fun bt277 => ((capstanref01_Held.f k bt277.1 bt277.2).bind fun t281 => (some (t281, true)))))) else (if a1 < 0 then ((capstanref01_Minus.f bt264.1 bt264.2).bind fun bt282 => ((capstanref01_Over.f k bt282.1 bt282.2 (wrap64 (-a1))).bind fun bt286 => ((capstanref01_Held.f k bt286.1 bt286.2).bind fun t290 => (some (t290, true))))) else ((capstanref01_Over.f k bt264.1 bt264.2 a1).bind fun bt291 => ((capstanref01_Held.f k bt291.1 bt291.2).bind fun t295 => (some (t295, true)))))))) = some (r1, r2) := H
  have A4 := Aside0.mk A40
  clear A40
  replace H := Option.bind_eq_some_iff.mp H
  obtain ⟨⟨t260, t261⟩, A50, H⟩ := H
  replace H : ((capstanref01_Times.f k t256 t257 t260 t261).bind fun bt264 => (if a1 = (-9223372036854775808) then ((capstanref01_half.f k bt264.1 bt264.2).bind fun bt269 => ((capstanref01_Minus.f bt269.1 bt269.2).bind fun bt273 => ((capstanref01_Over.f k bt273.1 bt273.2 4611686018427387904).bind fun bt277 => ((capstanref01_Held.f k bt277.1 bt277.2).bind fun t281 => (some (t281, true)))))) else (if a1 < 0 then ((capstanref01_Minus.f bt264.1 bt264.2).bind fun bt282 => ((capstanref01_Over.f k bt282.1 bt282.2 (wrap64 (-a1))).bind fun bt286 => ((capstanref01_Held.f k bt286.1 bt286.2).bind fun t290 => (some (t290, true))))) else ((capstanref01_Over.f k bt264.1 bt264.2 a1).bind fun bt291 => ((capstanref01_Held.f k bt291.1 bt291.2).bind fun t295 => (some (t295, true))))))) = some (r1, r2) := H
  have A5 := Aside0.mk A50
  clear A50
  replace H := Option.bind_eq_some_iff.mp H
  obtain ⟨⟨t264, t265⟩, A60, H⟩ := H
  replace H : (if a1 = (-9223372036854775808) then ((capstanref01_half.f k t264 t265).bind fun bt269 => ((capstanref01_Minus.f bt269.1 bt269.2).bind fun bt273 => ((capstanref01_Over.f k bt273.1 bt273.2 4611686018427387904).bind fun bt277 => ((capstanref01_Held.f k bt277.1 bt277.2).bind fun t281 => (some (t281, true)))))) else (if a1 < 0 then ((capstanref01_Minus.f t264 t265).bind fun bt282 => ((capstanref01_Over.f k bt282.1 bt282.2 (wrap64 (-a1))).bind fun bt286 => ((capstanref01_Held.f k bt286.1 bt286.2).bind fun t290 => (some (t290, true))))) else ((capstanref01_Over.f k t264 t265 a1).bind fun bt291 => ((capstanref01_Held.f k bt291.1 bt291.2).bind fun t295 => (some (t295, true)))))) = some (r1, r2) := H
  have A6 := Aside0.mk A60
  clear A60
  by_cases c7 : a1 = (-9223372036854775808)
  ·rw [if_pos c7] at H
   have c7b0 : (a1 == (-9223372036854775808)) = true := beq_iff_eq.mpr c7
   have c7b1 : (a1 != (-9223372036854775808)) = false := bne_eq_false_iff_eq.mpr c7
   clear c7
   replace H := Option.bind_eq_some_iff.mp H
   obtain ⟨⟨t269, t270⟩, A80, H⟩ := H
   replace H : ((capstanref01_Minus.f t269 t270).bind fun bt273 => ((capstanref01_Over.f k bt273.1 bt273.2 4611686018427387904).bind fun bt277 => ((capstanref01_Held.f k bt277.1 bt277.2).bind fun t281 => (some (t281, true))))) = some (r1, r2) := H
   have A8 := Aside0.mk A80
   clear A80
   replace H := Option.bind_eq_some_iff.mp H
   obtain ⟨⟨t273, t274⟩, A90, H⟩ := H
   replace H : ((capstanref01_Over.f k t273 t274 4611686018427387904).bind fun bt277 => ((capstanref01_Held.f k bt277.1 bt277.2).bind fun t281 => (some (t281, true)))) = some (r1, r2) := H
   have A9 := Aside0.mk A90
   clear A90
   replace H := Option.bind_eq_some_iff.mp H
   obtain ⟨⟨t277, t278⟩, A100, H⟩ := H
   replace H : ((capstanref01_Held.f k t277 t278).bind fun t281 => (some (t281, true))) = some (r1, r2) := H
   have A10 := Aside0.mk A100
   clear A100
   replace H := Option.bind_eq_some_iff.mp H
   obtain ⟨t281, A110, H⟩ := H
   replace H : (some (t281, true)) = some (r1, r2) := H
   have A11 := Aside0.mk A110
   clear A110
   simp only [Option.some.injEq, Prod.mk.injEq] at H
   obtain ⟨rfl, rfl⟩ := H
   go_enter Tryz.func60, Tryz.ntmps60
   go_wp2_with (first | ((with_reducible refine gate_callee (f := 51) rfl ?_); refine goesL_ (some 10) rfl rfl Tryz.func51 (by kernel_rfl) rfl #[.int .i64 a0] rfl z13_6 ?_; (with_reducible refine (capstanref01_Of.calls k a0 t256 t257 _ A4.out).mono ?_); rintro e w12 ⟨v258, rfl, ho0, hb⟩; refine ⟨_, rfl, ?_⟩; have n0_ := Aside0.mk (Kd.R_lower ho0 (below_size z13_7)); have n1_ := Aside0.mk (below_step z13_7 hb); clear HB; have HO259 := n0_; have HB := n1_; clear n0_ n1_; (try clear hb); (try clear hb2); (try clear hk); (try clear hi); (try clear ho0)) | ((with_reducible refine gate_callee (f := 51) rfl ?_); refine goesL_ (some 11) rfl rfl Tryz.func51 (by kernel_rfl) rfl #[.int .i64 1000000] rfl z13_6 ?_; (with_reducible refine (capstanref01_Of.calls k 1000000 t260 t261 _ A5.out).mono ?_); rintro e w13 ⟨v262, rfl, ho0, hb⟩; refine ⟨_, rfl, ?_⟩; have n0_ := Aside0.mk (Kd.R_elder' z13_18 (Kd.R_base ho0) hb); have n1_ := Aside0.mk (Kd.R_lower (Kd.R_new' ho0 (Kd.R_lt z13_18)) (below_size z13_7)); have n2_ := Aside0.mk (below_step z13_7 hb); clear HO259; clear HB; have HO259 := n0_; have HO263 := n1_; have HB := n2_; clear n0_ n1_ n2_; (try clear hb); (try clear hb2); (try clear hk); (try clear hi); (try clear ho0); obtain ⟨Ao14, co14, eo14⟩ := Kd.R_slice HO259.out; subst eo14; obtain ⟨Ao15, co15, eo15⟩ := Kd.R_slice HO263.out; subst eo15) | ((with_reducible refine gate_callee (f := 50) rfl ?_); refine goesL_ (some 12) rfl rfl Tryz.func50 (by kernel_rfl) rfl #[.agg #[.bool t256, .slice Ao14 t257.length co14], .agg #[.bool t260, .slice Ao15 t261.length co15]] rfl z13_6 ?_; (with_reducible refine (capstanref01_Times.calls k t256 _ _ t257 t260 _ _ t261 t264 t265 _ ?side1 ?side2 ?side3 ?side4 A6.out).mono ?_); (case side1 => repeat (first | exact (Kd.R_reads' HO259.out).2.2 | (with_reducible refine Kd.C_alloc ?_ _) | (with_reducible refine Kd.C_drewN ?_ _) | (with_reducible refine Kd.C_drew ?_))); (case side2 => exact (Kd.R_reads' HO259.out).2.1); (case side3 => repeat (first | exact (Kd.R_reads' HO263.out).2.2 | (with_reducible refine Kd.C_alloc ?_ _) | (with_reducible refine Kd.C_drewN ?_ _) | (with_reducible refine Kd.C_drew ?_))); (case side4 => exact (Kd.R_reads' HO263.out).2.1); rintro e w16 ⟨v266, rfl, ho0, hb⟩; refine ⟨_, rfl, ?_⟩; have n0_ := Aside0.mk (Kd.R_elder' z13_18 (Kd.R_base ho0) hb); have n1_ := Aside0.mk (Kd.R_elder' z13_19 (Kd.R_base ho0) hb); have n2_ := Aside0.mk (Kd.R_lower (Kd.R_new' (Kd.R_new' ho0 (Kd.R_lt z13_18)) (Kd.R_lt z13_19)) (below_size z13_7)); have n3_ := Aside0.mk (below_step z13_7 hb); clear HO259; clear HO263; clear HB; have HO259 := n0_; have HO263 := n1_; have HO267 := n2_; have HB := n3_; clear n0_ n1_ n2_ n3_; (try clear hb); (try clear hb2); (try clear hk); (try clear hi); (try clear ho0)) | ((with_reducible refine gate_dst (N := 6) rfl ?_); refine box_event ?hg (N := 6) ?hd (cs := #[.bool false, .slice none 0 0]) (t := 105) ?hr ?_; (case hd => rfl); (case hg => rfl); (case hr => first | (go_simp; done) | (go_simp; rfl)); intro gb268 hg w17 hbox hb; have n0_ := Aside0.mk (Kd.R_below z13_18 hb); have n1_ := Aside0.mk (Kd.R_below z13_19 hb); have n2_ := Aside0.mk (Kd.R_below z13_20 hb); have n3_ := Aside0.mk (below_step z13_7 hb); have n4_ := Aside0.mk (hbox); have n5_ := Aside0.mk ((by rw [hg]; exact (below_size z13_7) : w.heap.size ≤ gb268)); have n6_ := Aside0.mk ((by rw [hg]; exact (below_size z13_7) : w.heap.size ≤ gb268)); clear HO259; clear HO263; clear HO267; clear HB; have HO259 := n0_; have HO263 := n1_; have HO267 := n2_; have HB := n3_; have BK268 := n4_; have GW268 := n5_; have GE268 := n6_; clear n0_ n1_ n2_ n3_ n4_ n5_ n6_; clear hb hbox hg; have hcz18_0 : w17.cell? ⟨gb268, 0, none⟩ = some (.bool false) := (blk_cell BK268.out 0).trans rfl; have hcz18_1 : w17.cell? ⟨gb268, 1, none⟩ = some (.slice none 0 0) := (blk_cell BK268.out 1).trans rfl; have hfz18_0 := blk_frozen BK268.out 0; have hfz18_1 := blk_frozen BK268.out 1; obtain ⟨Ao19, co19, eo19⟩ := Kd.R_slice HO267.out; subst eo19) | ((with_reducible refine gate_callee (f := 94) rfl ?_); refine goesL_ (some 16) rfl rfl Tryz.func94 (by kernel_rfl) rfl #[.agg #[.bool t264, .slice Ao19 t265.length co19]] rfl z13_6 ?_; (with_reducible refine (capstanref01_half.calls k t264 _ _ t265 t269 t270 _ ?side1 ?side2 A8.out).mono ?_); (case side1 => refine (Kd.R_reads' (e := 3) (base := w.heap.size) (ok := fun k_ => ((True ∧ some k_ ≠ (.slice Ao14 t257.length co14 : Value).ownBlock) ∧ some k_ ≠ (.slice Ao15 t261.length co15 : Value).ownBlock)) (n := t265.length) (c := co19) ?_).2.2; exact z13_0); (case side2 => exact (Kd.R_reads' HO267.out).2.1); rintro e w20 ⟨v271, rfl, ho0, hb⟩; refine ⟨_, rfl, ?_⟩; have n0_ := Aside0.mk (Kd.R_elder' z13_1 (Kd.R_base ho0) hb); have n1_ := Aside0.mk (Kd.R_elder' z13_2 (Kd.R_base ho0) hb); have n2_ := Aside0.mk (Kd.R_elder' z13_0 (Kd.R_base ho0) hb); have n3_ := Aside0.mk (Kd.R_lower (Kd.R_new' (Kd.R_new' (Kd.R_new' ho0 (Kd.R_lt z13_1)) (Kd.R_lt z13_2)) (Kd.R_lt z13_0)) (below_size (by repeat (first | (with_reducible first | exact HB.out | apply below_alloc | apply pw_below_drewN | apply below_drew1 | refine below_set ?_ GE268.out) | exact HB.out)))); have n4_ := Aside0.mk (blk_below (g := gb268) (o := .cells #[.bool t264, .slice Ao19 t265.length co19] 105 (0, 0)) (by (with_reducible repeat (first | refine blk_drewN ?_ _ | refine blk_drew ?_ | refine blk_alloc ?_ _)); refine blk_put (cs := #[.bool t264, .slice none 0 0]) ?_ 1 _ rfl; (with_reducible repeat (first | refine blk_drewN ?_ _ | refine blk_drew ?_ | refine blk_alloc ?_ _)); refine blk_put (cs := #[.bool false, .slice none 0 0]) ?_ 0 _ rfl; (with_reducible repeat (first | refine blk_drewN ?_ _ | refine blk_drew ?_ | refine blk_alloc ?_ _)); exact BK268.out) hb); have n5_ := Aside0.mk (below_step (by repeat (first | (with_reducible first | exact HB.out | apply below_alloc | apply pw_below_drewN | apply below_drew1 | refine below_set ?_ GE268.out) | exact HB.out)) hb); clear HO259; clear HO263; clear HO267; clear BK268; clear HB; have HO259 := n0_; have HO263 := n1_; have HO267 := n2_; have HO272 := n3_; have BK268 := n4_; have HB := n5_; clear n0_ n1_ n2_ n3_ n4_ n5_; (try clear hb); (try clear hb2); (try clear hk); (try clear hi); (try clear ho0); obtain ⟨Ao21, co21, eo21⟩ := Kd.R_slice HO272.out; subst eo21) | ((with_reducible refine gate_callee (f := 91) rfl ?_); refine goesL_ (some 17) rfl rfl Tryz.func91 (by kernel_rfl) rfl #[.agg #[.bool t269, .slice Ao21 t270.length co21]] rfl z13_6 ?_; (with_reducible refine (capstanref01_Minus.calls t269 (fun k_ => some k_ = (.slice Ao21 t270.length co21 : Value).ownBlock) (.slice Ao21 t270.length co21) t270 t273 t274 w _ ?side1 ?side2 A9.out).mono ?_); (case side1 => repeat (first | (with_reducible first | exact HB.out | apply below_alloc | apply pw_below_drewN | apply below_drew1 | refine below_set ?_ GE268.out) | exact HB.out)); (case side2 => exact Kd.R_tight rfl HO272.out); rintro e w22 ⟨v275, rfl, ho0, hb, hkp⟩; refine ⟨_, rfl, ?_⟩; have n0_ := Aside0.mk (Kd.R_mono (ok' := fun k_ => some k_ ≠ (.slice Ao15 t261.length co15 : Value).ownBlock ∧ some k_ ≠ (.slice Ao19 t265.length co19 : Value).ownBlock ∧ some k_ ≠ (v275 : Value).ownBlock) (Kd.R_keptB (HO259.out) hkp (fun k_ hk_ hs_ => (hk_.2) hs_)) (fun k_ hk_ => ⟨hk_.1.1.1.2, hk_.1.1.2, fun e_ => Or.elim (ho0.1 k_ e_.symm) (fun hs_ => hk_.2.1 hs_) (fun hn_ => Nat.not_le.2 hk_.2.2 hn_)⟩)); have n1_ := Aside0.mk (Kd.R_mono (ok' := fun k_ => some k_ ≠ (.slice Ao14 t257.length co14 : Value).ownBlock ∧ some k_ ≠ (.slice Ao19 t265.length co19 : Value).ownBlock ∧ some k_ ≠ (v275 : Value).ownBlock) (Kd.R_keptB (HO263.out) hkp (fun k_ hk_ hs_ => (hk_.2) hs_)) (fun k_ hk_ => ⟨hk_.1.1.1.2, hk_.1.1.2, fun e_ => Or.elim (ho0.1 k_ e_.symm) (fun hs_ => hk_.2.1 hs_) (fun hn_ => Nat.not_le.2 hk_.2.2 hn_)⟩)); have n2_ := Aside0.mk (Kd.R_mono (ok' := fun k_ => some k_ ≠ (.slice Ao14 t257.length co14 : Value).ownBlock ∧ some k_ ≠ (.slice Ao15 t261.length co15 : Value).ownBlock ∧ some k_ ≠ (v275 : Value).ownBlock) (Kd.R_keptB (HO267.out) hkp (fun k_ hk_ hs_ => (hk_.2) hs_)) (fun k_ hk_ => ⟨hk_.1.1.1.2, hk_.1.1.2, fun e_ => Or.elim (ho0.1 k_ e_.symm) (fun hs_ => hk_.2.1 hs_) (fun hn_ => Nat.not_le.2 hk_.2.2 hn_)⟩)); have n3_ := Aside0.mk (blk_kept (by (with_reducible repeat (first | refine blk_drewN ?_ _ | refine blk_drew ?_ | refine blk_alloc ?_ _)); exact BK268.out) hkp (fun hs_ => (fun e_ => (Kd.R_ne HO272.out BK268.out (by decide)) e_) hs_)); have n4_ := Aside0.mk (Kd.R_mono (ok' := fun k_ => some k_ ≠ (.slice Ao14 t257.length co14 : Value).ownBlock ∧ some k_ ≠ (.slice Ao15 t261.length co15 : Value).ownBlock ∧ some k_ ≠ (.slice Ao19 t265.length co19 : Value).ownBlock) ho0 (fun k_ hk_ => ⟨Or.elim hk_ (fun hs_ => fun e_ => (((HO259.out).1 k_ e_.symm).2) hs_) (fun hn_ => (Kd.fresh' (Kd.R_lt z13_18) k_ hn_)), Or.elim hk_ (fun hs_ => fun e_ => (((HO263.out).1 k_ e_.symm).2) hs_) (fun hn_ => (Kd.fresh' (Kd.R_lt z13_19) k_ hn_)), Or.elim hk_ (fun hs_ => fun e_ => (((HO267.out).1 k_ e_.symm).2) hs_) (fun hn_ => (Kd.fresh' (Kd.R_lt z13_20) k_ hn_))⟩)); have n5_ := Aside0.mk (hb); clear HO259; clear HO263; clear HO267; clear BK268; clear HB; clear HO272; have HO259 := n0_; have HO263 := n1_; have HO267 := n2_; have BK268 := n3_; have HO276 := n4_; have HB := n5_; clear n0_ n1_ n2_ n3_ n4_ n5_; (try clear hb); (try clear hkp); (try clear ho0); obtain ⟨Ao23, co23, eo23⟩ := Kd.R_slice HO276.out; subst eo23) | ((with_reducible refine gate_callee (f := 92) rfl ?_); refine goesL_ (some 18) rfl rfl Tryz.func92 (by kernel_rfl) rfl #[.agg #[.bool t273, .slice Ao23 t274.length co23], .int .i64 4611686018427387904] rfl z13_6 ?_; (with_reducible refine (capstanref01_Over.calls k t273 _ _ t274 4611686018427387904 t277 t278 _ ?side1 ?side2 A10.out).mono ?_); (case side1 => repeat (first | exact (Kd.R_reads' HO276.out).2.2 | (with_reducible refine Kd.C_alloc ?_ _) | (with_reducible refine Kd.C_drewN ?_ _) | (with_reducible refine Kd.C_drew ?_))); (case side2 => exact (Kd.R_reads' HO276.out).2.1); rintro e w24 ⟨v279, rfl, ho0, hb⟩; refine ⟨_, rfl, ?_⟩; have n0_ := Aside0.mk (Kd.R_elder' z13_18 (Kd.R_base ho0) hb); have n1_ := Aside0.mk (Kd.R_elder' z13_19 (Kd.R_base ho0) hb); have n2_ := Aside0.mk (Kd.R_elder' z13_20 (Kd.R_base ho0) hb); have n3_ := Aside0.mk (Kd.R_elder' z13_21 (Kd.R_base ho0) hb); have n4_ := Aside0.mk (Kd.R_lower (Kd.R_new' (Kd.R_new' (Kd.R_new' (Kd.R_new' ho0 (Kd.R_lt z13_18)) (Kd.R_lt z13_19)) (Kd.R_lt z13_20)) (Kd.R_lt z13_21)) (below_size (by repeat (first | (with_reducible first | exact HB.out | apply below_alloc | apply pw_below_drewN | apply below_drew1 | refine below_set ?_ GE268.out) | exact HB.out)))); have n5_ := Aside0.mk (blk_below (g := gb268) (o := .cells #[.bool t264, .slice Ao19 t265.length co19] 105 (0, 0)) (by (with_reducible repeat (first | refine blk_drewN ?_ _ | refine blk_drew ?_ | refine blk_alloc ?_ _)); exact BK268.out) hb); have n6_ := Aside0.mk (below_step (by repeat (first | (with_reducible first | exact HB.out | apply below_alloc | apply pw_below_drewN | apply below_drew1 | refine below_set ?_ GE268.out) | exact HB.out)) hb); clear HO259; clear HO263; clear HO267; clear HO276; clear BK268; clear HB; have HO259 := n0_; have HO263 := n1_; have HO267 := n2_; have HO276 := n3_; have HO280 := n4_; have BK268 := n5_; have HB := n6_; clear n0_ n1_ n2_ n3_ n4_ n5_ n6_; (try clear hb); (try clear hb2); (try clear hk); (try clear hi); (try clear ho0); obtain ⟨Ao25, co25, eo25⟩ := Kd.R_slice HO280.out; subst eo25) | ((with_reducible refine gate_callee (f := 49) rfl ?_); refine goesL_ (some 19) rfl rfl Tryz.func49 (by kernel_rfl) rfl #[.agg #[.bool t277, .slice Ao25 t278.length co25]] rfl z13_6 ?_; (with_reducible refine (capstanref01_Held.calls k t277 _ _ t278 t281 _ ?side1 ?side2 A11.out).mono ?_); (case side1 => repeat (first | exact (Kd.R_reads' HO280.out).2.2 | (with_reducible refine Kd.C_alloc ?_ _) | (with_reducible refine Kd.C_drewN ?_ _) | (with_reducible refine Kd.C_drew ?_))); (case side2 => exact (Kd.R_reads' HO280.out).2.1); rintro e w26 ⟨rfl, hb⟩; refine ⟨_, rfl, ?_⟩; have n0_ := Aside0.mk (Kd.R_below z13_18 hb); have n1_ := Aside0.mk (Kd.R_below z13_19 hb); have n2_ := Aside0.mk (Kd.R_below z13_20 hb); have n3_ := Aside0.mk (Kd.R_below z13_21 hb); have n4_ := Aside0.mk (Kd.R_below (by (with_reducible repeat (first | apply Kd.R_alloc | apply Kd.R_drewN | apply Kd.R_drew)); exact HO280.out) hb); have n5_ := Aside0.mk (blk_below (g := gb268) (o := .cells #[.bool t264, .slice Ao19 t265.length co19] 105 (0, 0)) (by (with_reducible repeat (first | refine blk_drewN ?_ _ | refine blk_drew ?_ | refine blk_alloc ?_ _)); exact BK268.out) hb); have n6_ := Aside0.mk (below_step (by repeat (first | (with_reducible first | exact HB.out | apply below_alloc | apply pw_below_drewN | apply below_drew1 | refine below_set ?_ GE268.out) | exact HB.out)) hb); clear HO259; clear HO263; clear HO267; clear HO276; clear HO280; clear BK268; clear HB; have HO259 := n0_; have HO263 := n1_; have HO267 := n2_; have HO276 := n3_; have HO280 := n4_; have BK268 := n5_; have HB := n6_; clear n0_ n1_ n2_ n3_ n4_ n5_ n6_; (try clear hb); (try clear hb2); (try clear hk); (try clear hi)))
   go_ret2
   exact ⟨by first | rfl | (simp [errW_none, errW_some] <;> rfl) | (simp [*, errW_none, errW_some] <;> rfl), by repeat (first | (with_reducible first | exact HB.out | apply below_alloc | apply pw_below_drewN | apply below_drew1 | refine below_set ?_ GE268.out) | exact HB.out)⟩
  ·rw [if_neg c7] at H
   have c7b0 : (a1 == (-9223372036854775808)) = false := beq_eq_false_iff_ne.mpr c7
   have c7b1 : (a1 != (-9223372036854775808)) = true := bne_iff_ne.mpr c7
   by_cases c27 : a1 < 0
   ·rw [if_pos c27] at H
    have c27b0 : decide (a1 < 0) = true := decide_eq_true c27
    clear c27
    replace H := Option.bind_eq_some_iff.mp H
    obtain ⟨⟨t282, t283⟩, A280, H⟩ := H
    replace H : ((capstanref01_Over.f k t282 t283 (wrap64 (-a1))).bind fun bt286 => ((capstanref01_Held.f k bt286.1 bt286.2).bind fun t290 => (some (t290, true)))) = some (r1, r2) := H
    have A28 := Aside0.mk A280
    clear A280
    replace H := Option.bind_eq_some_iff.mp H
    obtain ⟨⟨t286, t287⟩, A290, H⟩ := H
    replace H : ((capstanref01_Held.f k t286 t287).bind fun t290 => (some (t290, true))) = some (r1, r2) := H
    have A29 := Aside0.mk A290
    clear A290
    replace H := Option.bind_eq_some_iff.mp H
    obtain ⟨t290, A300, H⟩ := H
    replace H : (some (t290, true)) = some (r1, r2) := H
    have A30 := Aside0.mk A300
    clear A300
    simp only [Option.some.injEq, Prod.mk.injEq] at H
    obtain ⟨rfl, rfl⟩ := H
    go_enter Tryz.func60, Tryz.ntmps60
    go_wp2_with (first | ((with_reducible refine gate_callee (f := 51) rfl ?_); refine goesL_ (some 10) rfl rfl Tryz.func51 (by kernel_rfl) rfl #[.int .i64 a0] rfl z13_6 ?_; (with_reducible refine (capstanref01_Of.calls k a0 t256 t257 _ A4.out).mono ?_); rintro e w31 ⟨v258, rfl, ho0, hb⟩; refine ⟨_, rfl, ?_⟩; have n0_ := Aside0.mk (Kd.R_lower ho0 (below_size z13_7)); have n1_ := Aside0.mk (below_step z13_7 hb); clear HB; have HO259 := n0_; have HB := n1_; clear n0_ n1_; (try clear hb); (try clear hb2); (try clear hk); (try clear hi); (try clear ho0)) | ((with_reducible refine gate_callee (f := 51) rfl ?_); refine goesL_ (some 11) rfl rfl Tryz.func51 (by kernel_rfl) rfl #[.int .i64 1000000] rfl z13_6 ?_; (with_reducible refine (capstanref01_Of.calls k 1000000 t260 t261 _ A5.out).mono ?_); rintro e w32 ⟨v262, rfl, ho0, hb⟩; refine ⟨_, rfl, ?_⟩; have n0_ := Aside0.mk (Kd.R_elder' z13_18 (Kd.R_base ho0) hb); have n1_ := Aside0.mk (Kd.R_lower (Kd.R_new' ho0 (Kd.R_lt z13_18)) (below_size z13_7)); have n2_ := Aside0.mk (below_step z13_7 hb); clear HO259; clear HB; have HO259 := n0_; have HO263 := n1_; have HB := n2_; clear n0_ n1_ n2_; (try clear hb); (try clear hb2); (try clear hk); (try clear hi); (try clear ho0); obtain ⟨Ao33, co33, eo33⟩ := Kd.R_slice HO259.out; subst eo33; obtain ⟨Ao34, co34, eo34⟩ := Kd.R_slice HO263.out; subst eo34) | ((with_reducible refine gate_callee (f := 50) rfl ?_); refine goesL_ (some 12) rfl rfl Tryz.func50 (by kernel_rfl) rfl #[.agg #[.bool t256, .slice Ao33 t257.length co33], .agg #[.bool t260, .slice Ao34 t261.length co34]] rfl z13_6 ?_; (with_reducible refine (capstanref01_Times.calls k t256 _ _ t257 t260 _ _ t261 t264 t265 _ ?side1 ?side2 ?side3 ?side4 A6.out).mono ?_); (case side1 => repeat (first | exact (Kd.R_reads' HO259.out).2.2 | (with_reducible refine Kd.C_alloc ?_ _) | (with_reducible refine Kd.C_drewN ?_ _) | (with_reducible refine Kd.C_drew ?_))); (case side2 => exact (Kd.R_reads' HO259.out).2.1); (case side3 => repeat (first | exact (Kd.R_reads' HO263.out).2.2 | (with_reducible refine Kd.C_alloc ?_ _) | (with_reducible refine Kd.C_drewN ?_ _) | (with_reducible refine Kd.C_drew ?_))); (case side4 => exact (Kd.R_reads' HO263.out).2.1); rintro e w35 ⟨v266, rfl, ho0, hb⟩; refine ⟨_, rfl, ?_⟩; have n0_ := Aside0.mk (Kd.R_elder' z13_18 (Kd.R_base ho0) hb); have n1_ := Aside0.mk (Kd.R_elder' z13_19 (Kd.R_base ho0) hb); have n2_ := Aside0.mk (Kd.R_lower (Kd.R_new' (Kd.R_new' ho0 (Kd.R_lt z13_18)) (Kd.R_lt z13_19)) (below_size z13_7)); have n3_ := Aside0.mk (below_step z13_7 hb); clear HO259; clear HO263; clear HB; have HO259 := n0_; have HO263 := n1_; have HO267 := n2_; have HB := n3_; clear n0_ n1_ n2_ n3_; (try clear hb); (try clear hb2); (try clear hk); (try clear hi); (try clear ho0)) | ((with_reducible refine gate_dst (N := 6) rfl ?_); refine box_event ?hg (N := 6) ?hd (cs := #[.bool false, .slice none 0 0]) (t := 105) ?hr ?_; (case hd => rfl); (case hg => rfl); (case hr => first | (go_simp; done) | (go_simp; rfl)); intro gb268 hg w36 hbox hb; have n0_ := Aside0.mk (Kd.R_below z13_18 hb); have n1_ := Aside0.mk (Kd.R_below z13_19 hb); have n2_ := Aside0.mk (Kd.R_below z13_20 hb); have n3_ := Aside0.mk (below_step z13_7 hb); have n4_ := Aside0.mk (hbox); have n5_ := Aside0.mk ((by rw [hg]; exact (below_size z13_7) : w.heap.size ≤ gb268)); have n6_ := Aside0.mk ((by rw [hg]; exact (below_size z13_7) : w.heap.size ≤ gb268)); clear HO259; clear HO263; clear HO267; clear HB; have HO259 := n0_; have HO263 := n1_; have HO267 := n2_; have HB := n3_; have BK268 := n4_; have GW268 := n5_; have GE268 := n6_; clear n0_ n1_ n2_ n3_ n4_ n5_ n6_; clear hb hbox hg; have hcz37_0 : w36.cell? ⟨gb268, 0, none⟩ = some (.bool false) := (blk_cell BK268.out 0).trans rfl; have hcz37_1 : w36.cell? ⟨gb268, 1, none⟩ = some (.slice none 0 0) := (blk_cell BK268.out 1).trans rfl; have hfz37_0 := blk_frozen BK268.out 0; have hfz37_1 := blk_frozen BK268.out 1; obtain ⟨Ao38, co38, eo38⟩ := Kd.R_slice HO267.out; subst eo38) | ((with_reducible refine gate_store (t := 105) (p := 6) rfl ?_); refine store_event (t := 105) (p := 6) (v := ?vo_w39) (w1 := ((w36.setCell ⟨gb268, 0, none⟩ (.bool t264)).setCell ⟨gb268, 1, none⟩ (.slice Ao38 t265.length co38))) ?hg ?ho ?hn ?hr ?_; (case ho => rfl); (case hg => rfl); (case hn => rfl); (case hr => first | (go_simp; done) | (go_simp; rfl)); intro w39 hw; have n0_ : Aside0 (Kd.R (Kd.int .i64) 3 w39 w.heap.size (fun k_ => some k_ ≠ (.slice Ao34 t261.length co34 : Value).ownBlock ∧ some k_ ≠ (.slice Ao38 t265.length co38 : Value).ownBlock) (.slice Ao33 t257.length co33) t257) := ⟨(by rw [hw]; exact (by (with_reducible repeat (first | apply Kd.R_alloc | apply Kd.R_drewN | apply Kd.R_drew)); exact Kd.R_mono (Kd.R_far (p := ⟨gb268, 1, none⟩) (Kd.R_far (p := ⟨gb268, 0, none⟩) (Kd.R_types HO259.out BK268.out (by decide)) (fun _ hk => hk.2) (.bool t264)) (fun _ hk => hk.2) (.slice Ao38 t265.length co38)) (fun _ hk => ⟨hk.1.1.2, hk.1.2⟩)))⟩; have n1_ : Aside0 (Kd.R (Kd.int .i64) 3 w39 w.heap.size (fun k_ => some k_ ≠ (.slice Ao33 t257.length co33 : Value).ownBlock ∧ some k_ ≠ (.slice Ao38 t265.length co38 : Value).ownBlock) (.slice Ao34 t261.length co34) t261) := ⟨(by rw [hw]; exact (by (with_reducible repeat (first | apply Kd.R_alloc | apply Kd.R_drewN | apply Kd.R_drew)); exact Kd.R_mono (Kd.R_far (p := ⟨gb268, 1, none⟩) (Kd.R_far (p := ⟨gb268, 0, none⟩) (Kd.R_types HO263.out BK268.out (by decide)) (fun _ hk => hk.2) (.bool t264)) (fun _ hk => hk.2) (.slice Ao38 t265.length co38)) (fun _ hk => ⟨hk.1.1.2, hk.1.2⟩)))⟩; have n2_ : Aside0 (Kd.R (Kd.int .i64) 3 w39 w.heap.size (fun k_ => some k_ ≠ (.slice Ao33 t257.length co33 : Value).ownBlock ∧ some k_ ≠ (.slice Ao34 t261.length co34 : Value).ownBlock) (.slice Ao38 t265.length co38) t265) := ⟨(by rw [hw]; exact (by (with_reducible repeat (first | apply Kd.R_alloc | apply Kd.R_drewN | apply Kd.R_drew)); exact Kd.R_mono (Kd.R_far (p := ⟨gb268, 1, none⟩) (Kd.R_far (p := ⟨gb268, 0, none⟩) (Kd.R_types HO267.out BK268.out (by decide)) (fun _ hk => hk.2) (.bool t264)) (fun _ hk => hk.2) (.slice Ao38 t265.length co38)) (fun _ hk => ⟨hk.1.1.2, hk.1.2⟩)))⟩; have n3_ : Aside0 (w39.heap[gb268]? = some (.cells #[.bool t264, .slice Ao38 t265.length co38] 105 (0, 0))) := ⟨(by rw [hw]; exact (by (with_reducible repeat (first | refine blk_drewN ?_ _ | refine blk_drew ?_ | refine blk_alloc ?_ _)); refine blk_put (cs := #[.bool t264, .slice none 0 0]) ?_ 1 _ rfl; (with_reducible repeat (first | refine blk_drewN ?_ _ | refine blk_drew ?_ | refine blk_alloc ?_ _)); refine blk_put (cs := #[.bool false, .slice none 0 0]) ?_ 0 _ rfl; (with_reducible repeat (first | refine blk_drewN ?_ _ | refine blk_drew ?_ | refine blk_alloc ?_ _)); exact BK268.out))⟩; have n4_ : Aside0 (Below w.heap.size w w39) := ⟨(by rw [hw]; exact (by repeat (first | (with_reducible first | exact HB.out | apply below_alloc | apply pw_below_drewN | apply below_drew1 | refine below_set ?_ GE268.out) | exact HB.out)))⟩; clear hw; clear HO259; clear HO263; clear HO267; clear BK268; clear HB; have HO259 := n0_; have HO263 := n1_; have HO267 := n2_; have BK268 := n3_; have HB := n4_; clear n0_ n1_ n2_ n3_ n4_; have hcz40_0 : w39.cell? ⟨gb268, 0, none⟩ = some (.bool t264) := (blk_cell BK268.out 0).trans rfl; have hcz40_1 : w39.cell? ⟨gb268, 1, none⟩ = some (.slice Ao38 t265.length co38) := (blk_cell BK268.out 1).trans rfl; have hfz40_0 := blk_frozen BK268.out 0; have hfz40_1 := blk_frozen BK268.out 1) | ((with_reducible refine gate_callee (f := 91) rfl ?_); refine goesL_ (some 23) rfl rfl Tryz.func91 (by kernel_rfl) rfl #[.agg #[.bool t264, .slice Ao38 t265.length co38]] rfl z13_6 ?_; (with_reducible refine (capstanref01_Minus.calls t264 (fun k_ => some k_ = (.slice Ao38 t265.length co38 : Value).ownBlock) (.slice Ao38 t265.length co38) t265 t282 t283 w _ ?side1 ?side2 A28.out).mono ?_); (case side1 => repeat (first | (with_reducible first | exact HB.out | apply below_alloc | apply pw_below_drewN | apply below_drew1 | refine below_set ?_ GE268.out) | exact HB.out)); (case side2 => exact Kd.R_tight rfl HO267.out); rintro e w41 ⟨v284, rfl, ho0, hb, hkp⟩; refine ⟨_, rfl, ?_⟩; have n0_ := Aside0.mk (Kd.R_mono (ok' := fun k_ => some k_ ≠ (.slice Ao34 t261.length co34 : Value).ownBlock ∧ some k_ ≠ (v284 : Value).ownBlock) (Kd.R_keptB (HO259.out) hkp (fun k_ hk_ hs_ => (hk_.2) hs_)) (fun k_ hk_ => ⟨hk_.1.1, fun e_ => Or.elim (ho0.1 k_ e_.symm) (fun hs_ => hk_.2.1 hs_) (fun hn_ => Nat.not_le.2 hk_.2.2 hn_)⟩)); have n1_ := Aside0.mk (Kd.R_mono (ok' := fun k_ => some k_ ≠ (.slice Ao33 t257.length co33 : Value).ownBlock ∧ some k_ ≠ (v284 : Value).ownBlock) (Kd.R_keptB (HO263.out) hkp (fun k_ hk_ hs_ => (hk_.2) hs_)) (fun k_ hk_ => ⟨hk_.1.1, fun e_ => Or.elim (ho0.1 k_ e_.symm) (fun hs_ => hk_.2.1 hs_) (fun hn_ => Nat.not_le.2 hk_.2.2 hn_)⟩)); have n2_ := Aside0.mk (blk_kept (by (with_reducible repeat (first | refine blk_drewN ?_ _ | refine blk_drew ?_ | refine blk_alloc ?_ _)); exact BK268.out) hkp (fun hs_ => (fun e_ => (Kd.R_ne HO267.out BK268.out (by decide)) e_) hs_)); have n3_ := Aside0.mk (Kd.R_mono (ok' := fun k_ => some k_ ≠ (.slice Ao33 t257.length co33 : Value).ownBlock ∧ some k_ ≠ (.slice Ao34 t261.length co34 : Value).ownBlock) ho0 (fun k_ hk_ => ⟨Or.elim hk_ (fun hs_ => fun e_ => (((HO259.out).1 k_ e_.symm).2) hs_) (fun hn_ => (Kd.fresh' (Kd.R_lt z13_18) k_ hn_)), Or.elim hk_ (fun hs_ => fun e_ => (((HO263.out).1 k_ e_.symm).2) hs_) (fun hn_ => (Kd.fresh' (Kd.R_lt z13_19) k_ hn_))⟩)); have n4_ := Aside0.mk (hb); clear HO259; clear HO263; clear BK268; clear HB; clear HO267; have HO259 := n0_; have HO263 := n1_; have BK268 := n2_; have HO285 := n3_; have HB := n4_; clear n0_ n1_ n2_ n3_ n4_; (try clear hb); (try clear hkp); (try clear ho0); obtain ⟨Ao42, co42, eo42⟩ := Kd.R_slice HO285.out; subst eo42) | ((with_reducible refine gate_callee (f := 92) rfl ?_); refine goesL_ (some 26) rfl rfl Tryz.func92 (by kernel_rfl) rfl #[.agg #[.bool t282, .slice Ao42 t283.length co42], .int .i64 (wrap64 (-a1))] rfl z13_6 ?_; (with_reducible refine (capstanref01_Over.calls k t282 _ _ t283 (wrap64 (-a1)) t286 t287 _ ?side1 ?side2 A29.out).mono ?_); (case side1 => repeat (first | exact (Kd.R_reads' HO285.out).2.2 | (with_reducible refine Kd.C_alloc ?_ _) | (with_reducible refine Kd.C_drewN ?_ _) | (with_reducible refine Kd.C_drew ?_))); (case side2 => exact (Kd.R_reads' HO285.out).2.1); rintro e w43 ⟨v288, rfl, ho0, hb⟩; refine ⟨_, rfl, ?_⟩; have n0_ := Aside0.mk (Kd.R_elder' z13_18 (Kd.R_base ho0) hb); have n1_ := Aside0.mk (Kd.R_elder' z13_19 (Kd.R_base ho0) hb); have n2_ := Aside0.mk (Kd.R_elder' z13_22 (Kd.R_base ho0) hb); have n3_ := Aside0.mk (Kd.R_lower (Kd.R_new' (Kd.R_new' (Kd.R_new' ho0 (Kd.R_lt z13_18)) (Kd.R_lt z13_19)) (Kd.R_lt z13_22)) (below_size (by repeat (first | (with_reducible first | exact HB.out | apply below_alloc | apply pw_below_drewN | apply below_drew1 | refine below_set ?_ GE268.out) | exact HB.out)))); have n4_ := Aside0.mk (blk_below (g := gb268) (o := .cells #[.bool t264, .slice Ao38 t265.length co38] 105 (0, 0)) (by (with_reducible repeat (first | refine blk_drewN ?_ _ | refine blk_drew ?_ | refine blk_alloc ?_ _)); exact BK268.out) hb); have n5_ := Aside0.mk (below_step (by repeat (first | (with_reducible first | exact HB.out | apply below_alloc | apply pw_below_drewN | apply below_drew1 | refine below_set ?_ GE268.out) | exact HB.out)) hb); clear HO259; clear HO263; clear HO285; clear BK268; clear HB; have HO259 := n0_; have HO263 := n1_; have HO285 := n2_; have HO289 := n3_; have BK268 := n4_; have HB := n5_; clear n0_ n1_ n2_ n3_ n4_ n5_; (try clear hb); (try clear hb2); (try clear hk); (try clear hi); (try clear ho0); obtain ⟨Ao44, co44, eo44⟩ := Kd.R_slice HO289.out; subst eo44) | ((with_reducible refine gate_callee (f := 49) rfl ?_); refine goesL_ (some 27) rfl rfl Tryz.func49 (by kernel_rfl) rfl #[.agg #[.bool t286, .slice Ao44 t287.length co44]] rfl z13_6 ?_; (with_reducible refine (capstanref01_Held.calls k t286 _ _ t287 t290 _ ?side1 ?side2 A30.out).mono ?_); (case side1 => repeat (first | exact (Kd.R_reads' HO289.out).2.2 | (with_reducible refine Kd.C_alloc ?_ _) | (with_reducible refine Kd.C_drewN ?_ _) | (with_reducible refine Kd.C_drew ?_))); (case side2 => exact (Kd.R_reads' HO289.out).2.1); rintro e w45 ⟨rfl, hb⟩; refine ⟨_, rfl, ?_⟩; have n0_ := Aside0.mk (Kd.R_below z13_18 hb); have n1_ := Aside0.mk (Kd.R_below z13_19 hb); have n2_ := Aside0.mk (Kd.R_below z13_22 hb); have n3_ := Aside0.mk (Kd.R_below (by (with_reducible repeat (first | apply Kd.R_alloc | apply Kd.R_drewN | apply Kd.R_drew)); exact HO289.out) hb); have n4_ := Aside0.mk (blk_below (g := gb268) (o := .cells #[.bool t264, .slice Ao38 t265.length co38] 105 (0, 0)) (by (with_reducible repeat (first | refine blk_drewN ?_ _ | refine blk_drew ?_ | refine blk_alloc ?_ _)); exact BK268.out) hb); have n5_ := Aside0.mk (below_step (by repeat (first | (with_reducible first | exact HB.out | apply below_alloc | apply pw_below_drewN | apply below_drew1 | refine below_set ?_ GE268.out) | exact HB.out)) hb); clear HO259; clear HO263; clear HO285; clear HO289; clear BK268; clear HB; have HO259 := n0_; have HO263 := n1_; have HO285 := n2_; have HO289 := n3_; have BK268 := n4_; have HB := n5_; clear n0_ n1_ n2_ n3_ n4_ n5_; (try clear hb); (try clear hb2); (try clear hk); (try clear hi)))
    go_ret2
    exact ⟨by first | rfl | (simp [errW_none, errW_some] <;> rfl) | (simp [*, errW_none, errW_some] <;> rfl), by repeat (first | (with_reducible first | exact HB.out | apply below_alloc | apply pw_below_drewN | apply below_drew1 | refine below_set ?_ GE268.out) | exact HB.out)⟩
   ·rw [if_neg c27] at H
    have c27b0 : decide (a1 < 0) = false := decide_eq_false c27
    clear c27
    replace H := Option.bind_eq_some_iff.mp H
    obtain ⟨⟨t291, t292⟩, A460, H⟩ := H
    replace H : ((capstanref01_Held.f k t291 t292).bind fun t295 => (some (t295, true))) = some (r1, r2) := H
    have A46 := Aside0.mk A460
    clear A460
    replace H := Option.bind_eq_some_iff.mp H
    obtain ⟨t295, A470, H⟩ := H
    replace H : (some (t295, true)) = some (r1, r2) := H
    have A47 := Aside0.mk A470
    clear A470
    simp only [Option.some.injEq, Prod.mk.injEq] at H
    obtain ⟨rfl, rfl⟩ := H
    go_enter Tryz.func60, Tryz.ntmps60
    go_wp2_with (first | ((with_reducible refine gate_callee (f := 51) rfl ?_); refine goesL_ (some 10) rfl rfl Tryz.func51 (by kernel_rfl) rfl #[.int .i64 a0] rfl z13_6 ?_; (with_reducible refine (capstanref01_Of.calls k a0 t256 t257 _ A4.out).mono ?_); rintro e w48 ⟨v258, rfl, ho0, hb⟩; refine ⟨_, rfl, ?_⟩; have n0_ := Aside0.mk (Kd.R_lower ho0 (below_size z13_7)); have n1_ := Aside0.mk (below_step z13_7 hb); clear HB; have HO259 := n0_; have HB := n1_; clear n0_ n1_; (try clear hb); (try clear hb2); (try clear hk); (try clear hi); (try clear ho0)) | ((with_reducible refine gate_callee (f := 51) rfl ?_); refine goesL_ (some 11) rfl rfl Tryz.func51 (by kernel_rfl) rfl #[.int .i64 1000000] rfl z13_6 ?_; (with_reducible refine (capstanref01_Of.calls k 1000000 t260 t261 _ A5.out).mono ?_); rintro e w49 ⟨v262, rfl, ho0, hb⟩; refine ⟨_, rfl, ?_⟩; have n0_ := Aside0.mk (Kd.R_elder' z13_18 (Kd.R_base ho0) hb); have n1_ := Aside0.mk (Kd.R_lower (Kd.R_new' ho0 (Kd.R_lt z13_18)) (below_size z13_7)); have n2_ := Aside0.mk (below_step z13_7 hb); clear HO259; clear HB; have HO259 := n0_; have HO263 := n1_; have HB := n2_; clear n0_ n1_ n2_; (try clear hb); (try clear hb2); (try clear hk); (try clear hi); (try clear ho0); obtain ⟨Ao50, co50, eo50⟩ := Kd.R_slice HO259.out; subst eo50; obtain ⟨Ao51, co51, eo51⟩ := Kd.R_slice HO263.out; subst eo51) | ((with_reducible refine gate_callee (f := 50) rfl ?_); refine goesL_ (some 12) rfl rfl Tryz.func50 (by kernel_rfl) rfl #[.agg #[.bool t256, .slice Ao50 t257.length co50], .agg #[.bool t260, .slice Ao51 t261.length co51]] rfl z13_6 ?_; (with_reducible refine (capstanref01_Times.calls k t256 _ _ t257 t260 _ _ t261 t264 t265 _ ?side1 ?side2 ?side3 ?side4 A6.out).mono ?_); (case side1 => repeat (first | exact (Kd.R_reads' HO259.out).2.2 | (with_reducible refine Kd.C_alloc ?_ _) | (with_reducible refine Kd.C_drewN ?_ _) | (with_reducible refine Kd.C_drew ?_))); (case side2 => exact (Kd.R_reads' HO259.out).2.1); (case side3 => repeat (first | exact (Kd.R_reads' HO263.out).2.2 | (with_reducible refine Kd.C_alloc ?_ _) | (with_reducible refine Kd.C_drewN ?_ _) | (with_reducible refine Kd.C_drew ?_))); (case side4 => exact (Kd.R_reads' HO263.out).2.1); rintro e w52 ⟨v266, rfl, ho0, hb⟩; refine ⟨_, rfl, ?_⟩; have n0_ := Aside0.mk (Kd.R_elder' z13_18 (Kd.R_base ho0) hb); have n1_ := Aside0.mk (Kd.R_elder' z13_19 (Kd.R_base ho0) hb); have n2_ := Aside0.mk (Kd.R_lower (Kd.R_new' (Kd.R_new' ho0 (Kd.R_lt z13_18)) (Kd.R_lt z13_19)) (below_size z13_7)); have n3_ := Aside0.mk (below_step z13_7 hb); clear HO259; clear HO263; clear HB; have HO259 := n0_; have HO263 := n1_; have HO267 := n2_; have HB := n3_; clear n0_ n1_ n2_ n3_; (try clear hb); (try clear hb2); (try clear hk); (try clear hi); (try clear ho0)) | ((with_reducible refine gate_dst (N := 6) rfl ?_); refine box_event ?hg (N := 6) ?hd (cs := #[.bool false, .slice none 0 0]) (t := 105) ?hr ?_; (case hd => rfl); (case hg => rfl); (case hr => first | (go_simp; done) | (go_simp; rfl)); intro gb268 hg w53 hbox hb; have n0_ := Aside0.mk (Kd.R_below z13_18 hb); have n1_ := Aside0.mk (Kd.R_below z13_19 hb); have n2_ := Aside0.mk (Kd.R_below z13_20 hb); have n3_ := Aside0.mk (below_step z13_7 hb); have n4_ := Aside0.mk (hbox); have n5_ := Aside0.mk ((by rw [hg]; exact (below_size z13_7) : w.heap.size ≤ gb268)); have n6_ := Aside0.mk ((by rw [hg]; exact (below_size z13_7) : w.heap.size ≤ gb268)); clear HO259; clear HO263; clear HO267; clear HB; have HO259 := n0_; have HO263 := n1_; have HO267 := n2_; have HB := n3_; have BK268 := n4_; have GW268 := n5_; have GE268 := n6_; clear n0_ n1_ n2_ n3_ n4_ n5_ n6_; clear hb hbox hg; have hcz54_0 : w53.cell? ⟨gb268, 0, none⟩ = some (.bool false) := (blk_cell BK268.out 0).trans rfl; have hcz54_1 : w53.cell? ⟨gb268, 1, none⟩ = some (.slice none 0 0) := (blk_cell BK268.out 1).trans rfl; have hfz54_0 := blk_frozen BK268.out 0; have hfz54_1 := blk_frozen BK268.out 1; obtain ⟨Ao55, co55, eo55⟩ := Kd.R_slice HO267.out; subst eo55) | ((with_reducible refine gate_callee (f := 92) rfl ?_); refine goesL_ (some 30) rfl rfl Tryz.func92 (by kernel_rfl) rfl #[.agg #[.bool t264, .slice Ao55 t265.length co55], .int .i64 a1] rfl z13_6 ?_; (with_reducible refine (capstanref01_Over.calls k t264 _ _ t265 a1 t291 t292 _ ?side1 ?side2 A46.out).mono ?_); (case side1 => refine (Kd.R_reads' (e := 3) (base := w.heap.size) (ok := fun k_ => ((True ∧ some k_ ≠ (.slice Ao50 t257.length co50 : Value).ownBlock) ∧ some k_ ≠ (.slice Ao51 t261.length co51 : Value).ownBlock)) (n := t265.length) (c := co55) ?_).2.2; exact z13_3); (case side2 => exact (Kd.R_reads' HO267.out).2.1); rintro e w56 ⟨v293, rfl, ho0, hb⟩; refine ⟨_, rfl, ?_⟩; have n0_ := Aside0.mk (Kd.R_elder' z13_4 (Kd.R_base ho0) hb); have n1_ := Aside0.mk (Kd.R_elder' z13_5 (Kd.R_base ho0) hb); have n2_ := Aside0.mk (Kd.R_elder' z13_3 (Kd.R_base ho0) hb); have n3_ := Aside0.mk (Kd.R_lower (Kd.R_new' (Kd.R_new' (Kd.R_new' ho0 (Kd.R_lt z13_4)) (Kd.R_lt z13_5)) (Kd.R_lt z13_3)) (below_size (by repeat (first | (with_reducible first | exact HB.out | apply below_alloc | apply pw_below_drewN | apply below_drew1 | refine below_set ?_ GE268.out) | exact HB.out)))); have n4_ := Aside0.mk (blk_below (g := gb268) (o := .cells #[.bool t264, .slice Ao55 t265.length co55] 105 (0, 0)) (by (with_reducible repeat (first | refine blk_drewN ?_ _ | refine blk_drew ?_ | refine blk_alloc ?_ _)); refine blk_put (cs := #[.bool t264, .slice none 0 0]) ?_ 1 _ rfl; (with_reducible repeat (first | refine blk_drewN ?_ _ | refine blk_drew ?_ | refine blk_alloc ?_ _)); refine blk_put (cs := #[.bool false, .slice none 0 0]) ?_ 0 _ rfl; (with_reducible repeat (first | refine blk_drewN ?_ _ | refine blk_drew ?_ | refine blk_alloc ?_ _)); exact BK268.out) hb); have n5_ := Aside0.mk (below_step (by repeat (first | (with_reducible first | exact HB.out | apply below_alloc | apply pw_below_drewN | apply below_drew1 | refine below_set ?_ GE268.out) | exact HB.out)) hb); clear HO259; clear HO263; clear HO267; clear BK268; clear HB; have HO259 := n0_; have HO263 := n1_; have HO267 := n2_; have HO294 := n3_; have BK268 := n4_; have HB := n5_; clear n0_ n1_ n2_ n3_ n4_ n5_; (try clear hb); (try clear hb2); (try clear hk); (try clear hi); (try clear ho0); obtain ⟨Ao57, co57, eo57⟩ := Kd.R_slice HO294.out; subst eo57) | ((with_reducible refine gate_callee (f := 49) rfl ?_); refine goesL_ (some 31) rfl rfl Tryz.func49 (by kernel_rfl) rfl #[.agg #[.bool t291, .slice Ao57 t292.length co57]] rfl z13_6 ?_; (with_reducible refine (capstanref01_Held.calls k t291 _ _ t292 t295 _ ?side1 ?side2 A47.out).mono ?_); (case side1 => repeat (first | exact (Kd.R_reads' HO294.out).2.2 | (with_reducible refine Kd.C_alloc ?_ _) | (with_reducible refine Kd.C_drewN ?_ _) | (with_reducible refine Kd.C_drew ?_))); (case side2 => exact (Kd.R_reads' HO294.out).2.1); rintro e w58 ⟨rfl, hb⟩; refine ⟨_, rfl, ?_⟩; have n0_ := Aside0.mk (Kd.R_below z13_18 hb); have n1_ := Aside0.mk (Kd.R_below z13_19 hb); have n2_ := Aside0.mk (Kd.R_below z13_20 hb); have n3_ := Aside0.mk (Kd.R_below (by (with_reducible repeat (first | apply Kd.R_alloc | apply Kd.R_drewN | apply Kd.R_drew)); exact HO294.out) hb); have n4_ := Aside0.mk (blk_below (g := gb268) (o := .cells #[.bool t264, .slice Ao55 t265.length co55] 105 (0, 0)) (by (with_reducible repeat (first | refine blk_drewN ?_ _ | refine blk_drew ?_ | refine blk_alloc ?_ _)); exact BK268.out) hb); have n5_ := Aside0.mk (below_step (by repeat (first | (with_reducible first | exact HB.out | apply below_alloc | apply pw_below_drewN | apply below_drew1 | refine below_set ?_ GE268.out) | exact HB.out)) hb); clear HO259; clear HO263; clear HO267; clear HO294; clear BK268; clear HB; have HO259 := n0_; have HO263 := n1_; have HO267 := n2_; have HO294 := n3_; have BK268 := n4_; have HB := n5_; clear n0_ n1_ n2_ n3_ n4_ n5_; (try clear hb); (try clear hb2); (try clear hk); (try clear hi)))
    go_ret2
    exact ⟨by first | rfl | (simp [errW_none, errW_some] <;> rfl) | (simp [*, errW_none, errW_some] <;> rfl), by repeat (first | (with_reducible first | exact HB.out | apply below_alloc | apply pw_below_drewN | apply below_drew1 | refine below_set ?_ GE268.out) | exact HB.out)⟩
/-! ### capstanref01_Scale: function 56 -/
def capstanref01_Scale.j0 : Nat → Int → Int → Int → Bool → Option (Int)
 | 0, _, _, _, _ => none
 | k + 1, x0, x1, x2, x12 => if x12 = true then (some 0) else ((capstanref01_Of.f k x0).bind fun bt296 => ((capstanref01_Of.f k x1).bind fun bt300 => ((capstanref01_Times.f k bt296.1 bt296.2 bt300.1 bt300.2).bind fun bt304 => ((capstanref01_Over.f k bt304.1 bt304.2 x2).bind fun bt308 => ((capstanref01_Held.f k bt308.1 bt308.2).bind fun t312 => (some t312))))))
def capstanref01_Scale.f (k : Nat) (a0 : Int) (a1 : Int) (a2 : Int) : Option (Int) := if a1 < 0 then (capstanref01_Scale.j0 k a0 a1 a2 true) else (capstanref01_Scale.j0 k a0 a1 a2 (decide (a2 < 1)))
theorem capstanref01_Scale.mono_l : ∀ k, (∀ y0 y1 y2 y3, LeO (capstanref01_Scale.j0 k y0 y1 y2 y3) (capstanref01_Scale.j0 (k + 1) y0 y1 y2 y3))
 | 0 => fun _ _ _ _ r h => by simp [capstanref01_Scale.j0] at h
 | k + 1 => by
  have ih0 := capstanref01_Scale.mono_l k
  ·intro y0 y1 y2 y3
   unfold capstanref01_Scale.j0
   repeat' first
   | (with_reducible exact ih0 _ _ _ _)
   | (with_reducible exact capstanref01_Held.mono _ _ _)
   | (with_reducible exact capstanref01_Of.mono _ _)
   | (with_reducible exact capstanref01_Over.mono _ _ _ _)
   | (with_reducible exact capstanref01_Times.mono _ _ _ _ _)
   | (with_reducible exact LeO.refl _)
   | (with_reducible exact LeO.none _)
   | (with_reducible refine LeO.ite ?_ ?_)
   | (with_reducible refine LeO.bind ?_ (fun _ => ?_))
   | exact ih0 _ _ _ _
   | exact capstanref01_Held.mono _ _ _
   | exact capstanref01_Of.mono _ _
   | exact capstanref01_Over.mono _ _ _ _
   | exact capstanref01_Times.mono _ _ _ _ _
   | exact LeO.none _
   | refine LeO.ite ?_ ?_
   | refine LeO.bind ?_ (fun _ => ?_)
theorem capstanref01_Scale.mono : ∀ a0 a1 a2 k, LeO (capstanref01_Scale.f k a0 a1 a2) (capstanref01_Scale.f (k + 1) a0 a1 a2) := by
 intro a0 a1 a2 k
 have ih0 := capstanref01_Scale.mono_l k
 unfold capstanref01_Scale.f
 repeat' first
   | (with_reducible exact ih0 _ _ _ _)
   | (with_reducible exact capstanref01_Held.mono _ _ _)
   | (with_reducible exact capstanref01_Of.mono _ _)
   | (with_reducible exact capstanref01_Over.mono _ _ _ _)
   | (with_reducible exact capstanref01_Times.mono _ _ _ _ _)
   | (with_reducible exact LeO.refl _)
   | (with_reducible exact LeO.none _)
   | (with_reducible refine LeO.ite ?_ ?_)
   | (with_reducible refine LeO.bind ?_ (fun _ => ?_))
   | exact ih0 _ _ _ _
   | exact capstanref01_Held.mono _ _ _
   | exact capstanref01_Of.mono _ _
   | exact capstanref01_Over.mono _ _ _ _
   | exact capstanref01_Times.mono _ _ _ _ _
   | exact LeO.none _
   | refine LeO.ite ?_ ?_
   | refine LeO.bind ?_ (fun _ => ?_)
theorem capstanref01_Scale.calls (k : Nat) (a0 : Int) (a1 : Int) (a2 : Int) (r : Int) (w : World) (h : capstanref01_Scale.f k a0 a1 a2 = some r) :
  Calls Tryz.prog 56 #[.int .i64 a0, .int .i64 a1, .int .i64 a2] w fun e w' => e = .returned (.int .i64 r) ∧ Below w.heap.size w w' := by
 have HB := Aside0.mk (Below.refl w.heap.size w)
 have H : (if a1 < 0 then (capstanref01_Scale.j0 k a0 a1 a2 true) else (capstanref01_Scale.j0 k a0 a1 a2 (decide (a2 < 1)))) = some r := h
 clear h
 have HC4 := Aside0.mk H
 clear H
 go_enter Tryz.func56, Tryz.ntmps56
 go_upto_region 1 with (fail)
 go_cut [12] (fun v12 wc => ∃ (kq : Nat) (x12_3 : Bool), v12 = .bool x12_3 ∧ Aside0 (capstanref01_Scale.j0 kq a0 a1 a2 x12_3 = some r) ∧ Aside0 (kq ≤ k) ∧ Aside0 (Below w.heap.size w wc))
 case first =>
  have H := HC4.out
  clear HC4
  by_cases c5 : a1 < 0
  ·rw [if_pos c5] at H
   have c5b0 : decide (a1 < 0) = true := decide_eq_true c5
   clear c5
   (first | rw [c5b0] | (simp only [i64_w, i32_w]; rw [c5b0]) | skip)
   have H' := Aside0.mk H
   clear H
   go_wp2
   go_meet
   case rel => exact ⟨_, (true), z13_28, H', ⟨by first | omega | exact Nat.le_refl _⟩, ⟨by repeat (first | (with_reducible first | exact HB.out | apply below_alloc | apply pw_below_drewN | apply below_drew1) | exact HB.out)⟩⟩
  ·rw [if_neg c5] at H
   have c5b0 : decide (a1 < 0) = false := decide_eq_false c5
   clear c5
   (first | rw [c5b0] | (simp only [i64_w, i32_w]; rw [c5b0]) | skip)
   have H' := Aside0.mk H
   clear H
   go_wp2
   go_meet
   case rel => exact ⟨_, (decide (a2 < 1)), z13_28, H', ⟨by first | omega | exact Nat.le_refl _⟩, ⟨by repeat (first | (with_reducible first | exact HB.out | apply below_alloc | apply pw_below_drewN | apply below_drew1) | exact HB.out)⟩⟩
 case rest =>
  clear HC4
  try clear p2
  try clear c5
  try clear c5b0
  obtain ⟨kq, x12_3, rfl, HA, HJ3, HB⟩ := hcut
  cases kq with
  | zero => exact absurd HA.out (by simp [capstanref01_Scale.j0])
  | succ kj3 =>
   have H := HA.out
   clear HA
   simp only [capstanref01_Scale.j0] at H
   by_cases c6 : x12_3 = true
   ·subst c6
    have H1 : (some 0) = some r := by rw [if_pos rfl] at H; exact H
    clear H
    have H := H1
    clear H1
    obtain rfl := Option.some.inj H
    go_wp2
    go_ret
    exact ⟨by first | rfl | (simp [errW_none, errW_some] <;> rfl) | (simp [*, errW_none, errW_some] <;> rfl), by repeat (first | (with_reducible first | exact HB.out | apply below_alloc | apply pw_below_drewN | apply below_drew1) | exact HB.out)⟩
   ·replace c6 := Bool.eq_false_iff.mpr c6
    subst c6
    have H1 : ((capstanref01_Of.f kj3 a0).bind fun bt296 => ((capstanref01_Of.f kj3 a1).bind fun bt300 => ((capstanref01_Times.f kj3 bt296.1 bt296.2 bt300.1 bt300.2).bind fun bt304 => ((capstanref01_Over.f kj3 bt304.1 bt304.2 a2).bind fun bt308 => ((capstanref01_Held.f kj3 bt308.1 bt308.2).bind fun t312 => (some t312)))))) = some r := by rw [if_neg (show ¬ (false = true) by decide)] at H; exact H
    clear H
    have H := H1
    clear H1
    replace H := Option.bind_eq_some_iff.mp H
    obtain ⟨⟨t296, t297⟩, A70, H⟩ := H
    replace H : ((capstanref01_Of.f kj3 a1).bind fun bt300 => ((capstanref01_Times.f kj3 t296 t297 bt300.1 bt300.2).bind fun bt304 => ((capstanref01_Over.f kj3 bt304.1 bt304.2 a2).bind fun bt308 => ((capstanref01_Held.f kj3 bt308.1 bt308.2).bind fun t312 => (some t312))))) = some r := H
    have A7 := Aside0.mk A70
    clear A70
    replace H := Option.bind_eq_some_iff.mp H
    obtain ⟨⟨t300, t301⟩, A80, H⟩ := H
    replace H : ((capstanref01_Times.f kj3 t296 t297 t300 t301).bind fun bt304 => ((capstanref01_Over.f kj3 bt304.1 bt304.2 a2).bind fun bt308 => ((capstanref01_Held.f kj3 bt308.1 bt308.2).bind fun t312 => (some t312)))) = some r := H
    have A8 := Aside0.mk A80
    clear A80
    replace H := Option.bind_eq_some_iff.mp H
    obtain ⟨⟨t304, t305⟩, A90, H⟩ := H
    replace H : ((capstanref01_Over.f kj3 t304 t305 a2).bind fun bt308 => ((capstanref01_Held.f kj3 bt308.1 bt308.2).bind fun t312 => (some t312))) = some r := H
    have A9 := Aside0.mk A90
    clear A90
    replace H := Option.bind_eq_some_iff.mp H
    obtain ⟨⟨t308, t309⟩, A100, H⟩ := H
    replace H : ((capstanref01_Held.f kj3 t308 t309).bind fun t312 => (some t312)) = some r := H
    have A10 := Aside0.mk A100
    clear A100
    replace H := Option.bind_eq_some_iff.mp H
    obtain ⟨t312, A110, H⟩ := H
    replace H : (some t312) = some r := H
    have A11 := Aside0.mk A110
    clear A110
    obtain rfl := Option.some.inj H
    go_wp2_with (first | ((with_reducible refine gate_callee (f := 51) rfl ?_); refine goesL_ (some 14) rfl rfl Tryz.func51 (by kernel_rfl) rfl #[.int .i64 a0] rfl z13_6 ?_; (with_reducible refine (capstanref01_Of.calls kj3 a0 t296 t297 _ A7.out).mono ?_); rintro e w12 ⟨v298, rfl, ho0, hb⟩; refine ⟨_, rfl, ?_⟩; have n0_ := Aside0.mk (Kd.R_lower ho0 (below_size z13_7)); have n1_ := Aside0.mk (below_step z13_7 hb); clear HB; have HO299 := n0_; have HB := n1_; clear n0_ n1_; (try clear hb); (try clear hb2); (try clear hk); (try clear hi); (try clear ho0)) | ((with_reducible refine gate_callee (f := 51) rfl ?_); refine goesL_ (some 16) rfl rfl Tryz.func51 (by kernel_rfl) rfl #[.int .i64 a1] rfl z13_6 ?_; (with_reducible refine (capstanref01_Of.calls kj3 a1 t300 t301 _ A8.out).mono ?_); rintro e w13 ⟨v302, rfl, ho0, hb⟩; refine ⟨_, rfl, ?_⟩; have n0_ := Aside0.mk (Kd.R_elder' z13_23 (Kd.R_base ho0) hb); have n1_ := Aside0.mk (Kd.R_lower (Kd.R_new' ho0 (Kd.R_lt z13_23)) (below_size z13_7)); have n2_ := Aside0.mk (below_step z13_7 hb); clear HO299; clear HB; have HO299 := n0_; have HO303 := n1_; have HB := n2_; clear n0_ n1_ n2_; (try clear hb); (try clear hb2); (try clear hk); (try clear hi); (try clear ho0); obtain ⟨Ao14, co14, eo14⟩ := Kd.R_slice HO299.out; subst eo14; obtain ⟨Ao15, co15, eo15⟩ := Kd.R_slice HO303.out; subst eo15) | ((with_reducible refine gate_callee (f := 50) rfl ?_); refine goesL_ (some 17) rfl rfl Tryz.func50 (by kernel_rfl) rfl #[.agg #[.bool t296, .slice Ao14 t297.length co14], .agg #[.bool t300, .slice Ao15 t301.length co15]] rfl z13_6 ?_; (with_reducible refine (capstanref01_Times.calls kj3 t296 _ _ t297 t300 _ _ t301 t304 t305 _ ?side1 ?side2 ?side3 ?side4 A9.out).mono ?_); (case side1 => repeat (first | exact (Kd.R_reads' HO299.out).2.2 | (with_reducible refine Kd.C_alloc ?_ _) | (with_reducible refine Kd.C_drewN ?_ _) | (with_reducible refine Kd.C_drew ?_))); (case side2 => exact (Kd.R_reads' HO299.out).2.1); (case side3 => repeat (first | exact (Kd.R_reads' HO303.out).2.2 | (with_reducible refine Kd.C_alloc ?_ _) | (with_reducible refine Kd.C_drewN ?_ _) | (with_reducible refine Kd.C_drew ?_))); (case side4 => exact (Kd.R_reads' HO303.out).2.1); rintro e w16 ⟨v306, rfl, ho0, hb⟩; refine ⟨_, rfl, ?_⟩; have n0_ := Aside0.mk (Kd.R_elder' z13_23 (Kd.R_base ho0) hb); have n1_ := Aside0.mk (Kd.R_elder' z13_24 (Kd.R_base ho0) hb); have n2_ := Aside0.mk (Kd.R_lower (Kd.R_new' (Kd.R_new' ho0 (Kd.R_lt z13_23)) (Kd.R_lt z13_24)) (below_size z13_7)); have n3_ := Aside0.mk (below_step z13_7 hb); clear HO299; clear HO303; clear HB; have HO299 := n0_; have HO303 := n1_; have HO307 := n2_; have HB := n3_; clear n0_ n1_ n2_ n3_; (try clear hb); (try clear hb2); (try clear hk); (try clear hi); (try clear ho0); obtain ⟨Ao17, co17, eo17⟩ := Kd.R_slice HO307.out; subst eo17) | ((with_reducible refine gate_callee (f := 92) rfl ?_); refine goesL_ (some 19) rfl rfl Tryz.func92 (by kernel_rfl) rfl #[.agg #[.bool t304, .slice Ao17 t305.length co17], .int .i64 a2] rfl z13_6 ?_; (with_reducible refine (capstanref01_Over.calls kj3 t304 _ _ t305 a2 t308 t309 _ ?side1 ?side2 A10.out).mono ?_); (case side1 => repeat (first | exact (Kd.R_reads' HO307.out).2.2 | (with_reducible refine Kd.C_alloc ?_ _) | (with_reducible refine Kd.C_drewN ?_ _) | (with_reducible refine Kd.C_drew ?_))); (case side2 => exact (Kd.R_reads' HO307.out).2.1); rintro e w18 ⟨v310, rfl, ho0, hb⟩; refine ⟨_, rfl, ?_⟩; have n0_ := Aside0.mk (Kd.R_elder' z13_23 (Kd.R_base ho0) hb); have n1_ := Aside0.mk (Kd.R_elder' z13_24 (Kd.R_base ho0) hb); have n2_ := Aside0.mk (Kd.R_elder' z13_25 (Kd.R_base ho0) hb); have n3_ := Aside0.mk (Kd.R_lower (Kd.R_new' (Kd.R_new' (Kd.R_new' ho0 (Kd.R_lt z13_23)) (Kd.R_lt z13_24)) (Kd.R_lt z13_25)) (below_size z13_7)); have n4_ := Aside0.mk (below_step z13_7 hb); clear HO299; clear HO303; clear HO307; clear HB; have HO299 := n0_; have HO303 := n1_; have HO307 := n2_; have HO311 := n3_; have HB := n4_; clear n0_ n1_ n2_ n3_ n4_; (try clear hb); (try clear hb2); (try clear hk); (try clear hi); (try clear ho0); obtain ⟨Ao19, co19, eo19⟩ := Kd.R_slice HO311.out; subst eo19) | ((with_reducible refine gate_callee (f := 49) rfl ?_); refine goesL_ (some 20) rfl rfl Tryz.func49 (by kernel_rfl) rfl #[.agg #[.bool t308, .slice Ao19 t309.length co19]] rfl z13_6 ?_; (with_reducible refine (capstanref01_Held.calls kj3 t308 _ _ t309 t312 _ ?side1 ?side2 A11.out).mono ?_); (case side1 => repeat (first | exact (Kd.R_reads' HO311.out).2.2 | (with_reducible refine Kd.C_alloc ?_ _) | (with_reducible refine Kd.C_drewN ?_ _) | (with_reducible refine Kd.C_drew ?_))); (case side2 => exact (Kd.R_reads' HO311.out).2.1); rintro e w20 ⟨rfl, hb⟩; refine ⟨_, rfl, ?_⟩; have n0_ := Aside0.mk (Kd.R_below z13_23 hb); have n1_ := Aside0.mk (Kd.R_below z13_24 hb); have n2_ := Aside0.mk (Kd.R_below z13_25 hb); have n3_ := Aside0.mk (Kd.R_below (by (with_reducible repeat (first | apply Kd.R_alloc | apply Kd.R_drewN | apply Kd.R_drew)); exact HO311.out) hb); have n4_ := Aside0.mk (below_step z13_7 hb); clear HO299; clear HO303; clear HO307; clear HO311; clear HB; have HO299 := n0_; have HO303 := n1_; have HO307 := n2_; have HO311 := n3_; have HB := n4_; clear n0_ n1_ n2_ n3_ n4_; (try clear hb); (try clear hb2); (try clear hk); (try clear hi)))
    go_ret
    exact ⟨by first | rfl | (simp [errW_none, errW_some] <;> rfl) | (simp [*, errW_none, errW_some] <;> rfl), by repeat (first | (with_reducible first | exact HB.out | apply below_alloc | apply pw_below_drewN | apply below_drew1) | exact HB.out)⟩

end Go.Proofs.YtpljkcakijkklaaGreatDoor.XRef01

end
