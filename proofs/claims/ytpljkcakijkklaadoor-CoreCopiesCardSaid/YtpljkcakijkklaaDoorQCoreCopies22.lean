/-
  Texts of this seat, joined, less what CoreCopies does not lean on: Copy, SamePlan.
-/
import Derived.Test.YtpljkcakijkklaaDoorQCoreCopies21
import Derived.Test.YtpljkcakijkklaaDoorQCoreCopies13
import Derived.Test.YtpljkcakijkklaaDoorQCoreCopies19
set_option linter.unusedVariables false
set_option linter.unusedSimpArgs false
set_option maxHeartbeats 16000000
set_option maxRecDepth 100000
section
namespace Go.Proofs.YtpljkcakijkklaaDoor
set_option linter.unusedVariables false
set_option linter.unusedSimpArgs false
open Go.RowKit Go.Proofs.YtpljkcakijkklaaDoorW.PrintWords Go.Proofs.YtpljkcakijkklaaDoorW.PrintLast Go.Proofs.YtpljkcakijkklaaDoorW.PrintMore

theorem plan_at {w : World} {g : Nat} {v0 v1 v2 v3 v4 v5 v6 v7 v8 v9 v10 v11 v12 v13 : Value} (h : w.heap[g]? = some (.cells #[v0, v1, v2, v3, v4, v5, v6, v7, v8, v9, v10, v11, v12, v13] 53 (0, 0))) :
  (w.cell? ⟨g, 0, none⟩ = some v0 ∧ w.cell? ⟨g, 1, none⟩ = some v1 ∧ w.cell? ⟨g, 2, none⟩ = some v2 ∧ w.cell? ⟨g, 3, none⟩ = some v3 ∧ w.cell? ⟨g, 4, none⟩ = some v4 ∧ w.cell? ⟨g, 5, none⟩ = some v5 ∧ w.cell? ⟨g, 6, none⟩ = some v6 ∧ w.cell? ⟨g, 7, none⟩ = some v7 ∧ w.cell? ⟨g, 8, none⟩ = some v8 ∧ w.cell? ⟨g, 9, none⟩ = some v9 ∧ w.cell? ⟨g, 10, none⟩ = some v10 ∧ w.cell? ⟨g, 11, none⟩ = some v11 ∧ w.cell? ⟨g, 12, none⟩ = some v12 ∧ w.cell? ⟨g, 13, none⟩ = some v13) ∧
  (w.frozen? ⟨g, 0, none⟩ = false ∧ w.frozen? ⟨g, 1, none⟩ = false ∧ w.frozen? ⟨g, 2, none⟩ = false ∧ w.frozen? ⟨g, 3, none⟩ = false ∧ w.frozen? ⟨g, 4, none⟩ = false ∧ w.frozen? ⟨g, 5, none⟩ = false ∧ w.frozen? ⟨g, 6, none⟩ = false ∧ w.frozen? ⟨g, 7, none⟩ = false ∧ w.frozen? ⟨g, 8, none⟩ = false ∧ w.frozen? ⟨g, 9, none⟩ = false ∧ w.frozen? ⟨g, 10, none⟩ = false ∧ w.frozen? ⟨g, 11, none⟩ = false ∧ w.frozen? ⟨g, 12, none⟩ = false ∧ w.frozen? ⟨g, 13, none⟩ = false) :=
 ⟨⟨(blk_cell h 0).trans rfl, (blk_cell h 1).trans rfl, (blk_cell h 2).trans rfl, (blk_cell h 3).trans rfl, (blk_cell h 4).trans rfl, (blk_cell h 5).trans rfl, (blk_cell h 6).trans rfl, (blk_cell h 7).trans rfl, (blk_cell h 8).trans rfl, (blk_cell h 9).trans rfl, (blk_cell h 10).trans rfl, (blk_cell h 11).trans rfl, (blk_cell h 12).trans rfl, (blk_cell h 13).trans rfl⟩,
  ⟨blk_frozen h 0, blk_frozen h 1, blk_frozen h 2, blk_frozen h 3, blk_frozen h 4, blk_frozen h 5, blk_frozen h 6, blk_frozen h 7, blk_frozen h 8, blk_frozen h 9, blk_frozen h 10, blk_frozen h 11, blk_frozen h 12, blk_frozen h 13⟩⟩
theorem plan_put {w : World} {g : Nat} {z0 z1 z2 z3 z4 z5 z6 z7 z8 z9 z10 z11 z12 z13 v0 v1 v2 v3 v4 v5 v6 v7 v8 v9 v10 v11 v12 v13 : Value} {T : TypeId} (h : w.heap[g]? = some (.cells #[z0, z1, z2, z3, z4, z5, z6, z7, z8, z9, z10, z11, z12, z13] T (0, 0))) :
  (((((((((((((((w.setCell ⟨g, 0, none⟩ v0).setCell ⟨g, 1, none⟩ v1).setCell ⟨g, 2, none⟩ v2).setCell ⟨g, 3, none⟩ v3).setCell ⟨g, 4, none⟩ v4).setCell ⟨g, 5, none⟩ v5).setCell ⟨g, 6, none⟩ v6).setCell ⟨g, 7, none⟩ v7).setCell ⟨g, 8, none⟩ v8).setCell ⟨g, 9, none⟩ v9).setCell ⟨g, 10, none⟩ v10).setCell ⟨g, 11, none⟩ v11).setCell ⟨g, 12, none⟩ v12).setCell ⟨g, 13, none⟩ v13)).heap[g]? = some (.cells #[v0, v1, v2, v3, v4, v5, v6, v7, v8, v9, v10, v11, v12, v13] T (0, 0)) := by
 have h0 := blk_put (cs' := #[v0, z1, z2, z3, z4, z5, z6, z7, z8, z9, z10, z11, z12, z13]) h 0 v0 rfl
 have h1 := blk_put (cs' := #[v0, v1, z2, z3, z4, z5, z6, z7, z8, z9, z10, z11, z12, z13]) h0 1 v1 rfl
 have h2 := blk_put (cs' := #[v0, v1, v2, z3, z4, z5, z6, z7, z8, z9, z10, z11, z12, z13]) h1 2 v2 rfl
 have h3 := blk_put (cs' := #[v0, v1, v2, v3, z4, z5, z6, z7, z8, z9, z10, z11, z12, z13]) h2 3 v3 rfl
 have h4 := blk_put (cs' := #[v0, v1, v2, v3, v4, z5, z6, z7, z8, z9, z10, z11, z12, z13]) h3 4 v4 rfl
 have h5 := blk_put (cs' := #[v0, v1, v2, v3, v4, v5, z6, z7, z8, z9, z10, z11, z12, z13]) h4 5 v5 rfl
 have h6 := blk_put (cs' := #[v0, v1, v2, v3, v4, v5, v6, z7, z8, z9, z10, z11, z12, z13]) h5 6 v6 rfl
 have h7 := blk_put (cs' := #[v0, v1, v2, v3, v4, v5, v6, v7, z8, z9, z10, z11, z12, z13]) h6 7 v7 rfl
 have h8 := blk_put (cs' := #[v0, v1, v2, v3, v4, v5, v6, v7, v8, z9, z10, z11, z12, z13]) h7 8 v8 rfl
 have h9 := blk_put (cs' := #[v0, v1, v2, v3, v4, v5, v6, v7, v8, v9, z10, z11, z12, z13]) h8 9 v9 rfl
 have h10 := blk_put (cs' := #[v0, v1, v2, v3, v4, v5, v6, v7, v8, v9, v10, z11, z12, z13]) h9 10 v10 rfl
 have h11 := blk_put (cs' := #[v0, v1, v2, v3, v4, v5, v6, v7, v8, v9, v10, v11, z12, z13]) h10 11 v11 rfl
 have h12 := blk_put (cs' := #[v0, v1, v2, v3, v4, v5, v6, v7, v8, v9, v10, v11, v12, z13]) h11 12 v12 rfl
 have h13 := blk_put (cs' := #[v0, v1, v2, v3, v4, v5, v6, v7, v8, v9, v10, v11, v12, v13]) h12 13 v13 rfl
 exact h13
theorem copy_fin {w : World} (g : Nat) (s9 s10 s11 s12 s13 v0 v1 v2 v3 v4 v5 v6 v7 v8 v9 v10 v11 v12 v13 : Value) (h : w.heap[g + 1]? = some (.cells #[.slice none 0 0, .int .i64 0, .int .i64 0, .int .i64 0, .int .i64 0, .int .i64 0, .slice none 0 0, .slice none 0 0, .int .i64 0, .slice none 0 0, .int .i64 0, .int .i64 0, .int .i64 0, .slice none 0 0] 53 (0, 0))) :
  Ex [g, g + 1] w (((((((((((((((((((w.setCell ⟨g, 9, none⟩ s9).setCell ⟨g, 10, none⟩ s10).setCell ⟨g, 11, none⟩ s11).setCell ⟨g, 12, none⟩ s12).setCell ⟨g, 13, none⟩ s13).setCell ⟨g + 1, 0, none⟩ v0).setCell ⟨g + 1, 1, none⟩ v1).setCell ⟨g + 1, 2, none⟩ v2).setCell ⟨g + 1, 3, none⟩ v3).setCell ⟨g + 1, 4, none⟩ v4).setCell ⟨g + 1, 5, none⟩ v5).setCell ⟨g + 1, 6, none⟩ v6).setCell ⟨g + 1, 7, none⟩ v7).setCell ⟨g + 1, 8, none⟩ v8).setCell ⟨g + 1, 9, none⟩ v9).setCell ⟨g + 1, 10, none⟩ v10).setCell ⟨g + 1, 11, none⟩ v11).setCell ⟨g + 1, 12, none⟩ v12).setCell ⟨g + 1, 13, none⟩ v13) ∧ (((((((((((((((((((w.setCell ⟨g, 9, none⟩ s9).setCell ⟨g, 10, none⟩ s10).setCell ⟨g, 11, none⟩ s11).setCell ⟨g, 12, none⟩ s12).setCell ⟨g, 13, none⟩ s13).setCell ⟨g + 1, 0, none⟩ v0).setCell ⟨g + 1, 1, none⟩ v1).setCell ⟨g + 1, 2, none⟩ v2).setCell ⟨g + 1, 3, none⟩ v3).setCell ⟨g + 1, 4, none⟩ v4).setCell ⟨g + 1, 5, none⟩ v5).setCell ⟨g + 1, 6, none⟩ v6).setCell ⟨g + 1, 7, none⟩ v7).setCell ⟨g + 1, 8, none⟩ v8).setCell ⟨g + 1, 9, none⟩ v9).setCell ⟨g + 1, 10, none⟩ v10).setCell ⟨g + 1, 11, none⟩ v11).setCell ⟨g + 1, 12, none⟩ v12).setCell ⟨g + 1, 13, none⟩ v13).heap[g + 1]? = some (.cells #[v0, v1, v2, v3, v4, v5, v6, v7, v8, v9, v10, v11, v12, v13] 53 (0, 0)) := by
 have n1 : ¬ g + 1 = g := by omega
 have m0 : g ∈ [g, g + 1] := by simp
 have m1 : g + 1 ∈ [g, g + 1] := by simp
 have e0 := Ex.refl [g, g + 1] w
 have e1 := e0.set (p := ⟨g, 9, none⟩) m0 s9
 have e2 := e1.set (p := ⟨g, 10, none⟩) m0 s10
 have e3 := e2.set (p := ⟨g, 11, none⟩) m0 s11
 have e4 := e3.set (p := ⟨g, 12, none⟩) m0 s12
 have e5 := e4.set (p := ⟨g, 13, none⟩) m0 s13
 have e6 := e5.set (p := ⟨g + 1, 0, none⟩) m1 v0
 have e7 := e6.set (p := ⟨g + 1, 1, none⟩) m1 v1
 have e8 := e7.set (p := ⟨g + 1, 2, none⟩) m1 v2
 have e9 := e8.set (p := ⟨g + 1, 3, none⟩) m1 v3
 have e10 := e9.set (p := ⟨g + 1, 4, none⟩) m1 v4
 have e11 := e10.set (p := ⟨g + 1, 5, none⟩) m1 v5
 have e12 := e11.set (p := ⟨g + 1, 6, none⟩) m1 v6
 have e13 := e12.set (p := ⟨g + 1, 7, none⟩) m1 v7
 have e14 := e13.set (p := ⟨g + 1, 8, none⟩) m1 v8
 have e15 := e14.set (p := ⟨g + 1, 9, none⟩) m1 v9
 have e16 := e15.set (p := ⟨g + 1, 10, none⟩) m1 v10
 have e17 := e16.set (p := ⟨g + 1, 11, none⟩) m1 v11
 have e18 := e17.set (p := ⟨g + 1, 12, none⟩) m1 v12
 have e19 := e18.set (p := ⟨g + 1, 13, none⟩) m1 v13
 exact ⟨e19, plan_put (blk_far (p := ⟨g, 13, none⟩) (blk_far (p := ⟨g, 12, none⟩) (blk_far (p := ⟨g, 11, none⟩) (blk_far (p := ⟨g, 10, none⟩) (blk_far (p := ⟨g, 9, none⟩) h n1 _) n1 _) n1 _) n1 _) n1 _)⟩
def CopyPost (p : PlanS) (w : World) (e : Ending) (w' : World) : Prop := (∃ q : PlanS, e = .returned (.agg #[.slice q.ma q.mets.length q.mcap, .int .i64 q.r0, .int .i64 q.r1, .int .i64 q.r2, .int .i64 q.r3, .int .i64 q.r4, .slice q.wa q.wins.length q.wcap, .slice q.ca q.crons.length q.ccap, .int .i64 q.locals, .slice q.ga q.guards.length q.gcap, .int .i64 q.fin.op, .int .i64 q.fin.n, .int .i64 q.fin.m, .slice q.fin.at_ q.fin.kids.length q.fin.cap]) ∧ SameP q p ∧ NewP w.heap.size w' q) ∧ Below w.heap.size w w'
theorem copy_calls {p : PlanS} {w : World} (h : PlanL w p) : Calls Tryd.prog 17 #[.agg #[.slice p.ma p.mets.length p.mcap, .int .i64 p.r0, .int .i64 p.r1, .int .i64 p.r2, .int .i64 p.r3, .int .i64 p.r4, .slice p.wa p.wins.length p.wcap, .slice p.ca p.crons.length p.ccap, .int .i64 p.locals, .slice p.ga p.guards.length p.gcap, .int .i64 p.fin.op, .int .i64 p.fin.n, .int .i64 p.fin.m, .slice p.fin.at_ p.fin.kids.length p.fin.cap]] w (CopyPost p w) := by
 obtain ⟨i0, hi, hz0, hz1, hz2⟩ := guard_info
 obtain ⟨w1, e1, b1, k1, k2, s1⟩ := box2 w (.cells #[.slice p.ma p.mets.length p.mcap, .int .i64 p.r0, .int .i64 p.r1, .int .i64 p.r2, .int .i64 p.r3, .int .i64 p.r4, .slice p.wa p.wins.length p.wcap, .slice p.ca p.crons.length p.ccap, .int .i64 p.locals, .slice p.ga p.guards.length p.gcap, .int .i64 p.fin.op, .int .i64 p.fin.n, .int .i64 p.fin.m, .slice p.fin.at_ p.fin.kids.length p.fin.cap] 53) (.cells #[.slice none 0 0, .int .i64 0, .int .i64 0, .int .i64 0, .int .i64 0, .int .i64 0, .slice none 0 0, .slice none 0 0, .int .i64 0, .slice none 0 0, .int .i64 0, .int .i64 0, .int .i64 0, .slice none 0 0] 53)
 have HE := Lib.hid e1
 have B1 := Lib.hid b1
 have HS1 := Lib.hid s1
 have HP := Lib.hid (h.below b1)
 obtain ⟨gP, hgP⟩ : ∃ g, w.heap.size = g := ⟨_, rfl⟩
 have HGP := Lib.hid hgP
 have HC := Lib.hid fun (w' : World) (hb : Below w1.heap.size w1 w') => plan_at (blk_below k1 hb)
 have HK := Lib.hid fun (w' : World) (hb : Below w1.heap.size w1 w') => (show _ ∧ _ from ⟨blk_below k1 hb, blk_below k2 hb⟩)
 rw [hgP] at HC HK
 have hlt : gP < w1.heap.size := by omega
 have HLT := Lib.hid hlt
 have HP0 := Lib.hid h
 have HG0 := Lib.hid h.guards
 obtain ⟨ga, hga⟩ : ∃ a, p.ga = a := ⟨_, rfl⟩
 rw [hga] at HC HK HE HG0 ⊢
 obtain ⟨len, hlen⟩ : ∃ n, p.guards.length = n := ⟨_, rfl⟩
 have HLEN := Lib.hid hlen
 rw [hlen] at HC HK HE HG0 ⊢
 have HRM := Lib.hid (show len ≤ 1466015503658 from HG0.out.2.1)
 clear h k1 k2 e1 b1 s1 hlt hga hlen
 go_enter Tryd.func17, Tryd.ntmps17
 go_wp2_with fail
 rw [HE.out]
 try rw [hgP]
 clear hgP
 refine wp_region_tail (S := fun w' => Aside0 (Below w1.heap.size w1 w')) 10 ?_ (fun hHeld => ?_)
 ·exact ⟨(Below.refl _ _).drew⟩
 generalize World.drew _ = wDa at hHeld ⊢
 have HCr := HC
 refine' tkT 0 ?_
 try simp only [pt]
 refine' tkT 1 ?_
 try simp only [pt]
 refine' tkT 3 ?_
 try simp only [pt]
 refine' tkT 4 ?_
 try simp only [pt]
 refine' tkT 6 ?_
 try simp only [pt]
 refine' tkT 7 ?_
 try simp only [pt]
 refine' cmT 2 (fun K hK => ?_)
 go_simp
 refine (clone_strings ((HP.out.mets.2.2.2).below hHeld.out (by decide)) HP.out.mets.2.1).mono ?_
 rintro e w2 ⟨⟨v1, rfl, o1⟩, b1⟩
 obtain ⟨a1, k1, rfl, -, -⟩ := own_arr o1 (fun _ => rfl) (by decide)
 have O1 := Lib.hid (own_mono o1 hHeld.out.size)
 clear o1
 refine hK.out _ _ ⟨hHeld.out.trans (b1.mono hHeld.out.size)⟩ (fun hHeld => ?_)
 clear b1
 clear hK K
 try simp only [pt]
 refine' tkT 9 ?_
 try simp only [pt]
 refine' cmT 5 (fun K hK => ?_)
 go_simp
 refine (clone_wins ((HP.out.wins.2.2.2).below hHeld.out (by decide)) HP.out.wins.2.1).mono ?_
 rintro e w3 ⟨⟨v2, rfl, o2⟩, b2⟩
 obtain ⟨a2, k2, rfl, -, -⟩ := own_arr o2 (fun _ => rfl) (by decide)
 have O2 := Lib.hid (own_mono o2 hHeld.out.size)
 replace O1 := Lib.hid (own_below O1.out b2)
 clear o2
 refine hK.out _ _ ⟨hHeld.out.trans (b2.mono hHeld.out.size)⟩ (fun hHeld => ?_)
 clear b2
 clear hK K
 try simp only [pt]
 refine' cmT 8 (fun K hK => ?_)
 go_simp
 refine (clone_crons ((HP.out.crons.2.2.2).below hHeld.out (by decide)) HP.out.crons.2.1).mono ?_
 rintro e w4 ⟨⟨v3, rfl, o3⟩, b3⟩
 obtain ⟨a3, k3, rfl, -, -⟩ := own_arr o3 (fun _ => rfl) (by decide)
 have O3 := Lib.hid (own_mono o3 hHeld.out.size)
 replace O1 := Lib.hid (own_below O1.out b3)
 replace O2 := Lib.hid (own_below O2.out b3)
 clear o3
 refine hK.out _ _ ⟨hHeld.out.trans (b3.mono hHeld.out.size)⟩ (fun hHeld => ?_)
 clear b3
 clear hK K
 try simp only [pt]
 refine doneT ?_
 simp only [List.drop_succ_cons, List.drop_zero]
 obtain ⟨⟨x0, x1, x2, x3, x4, x5, x6, x7, x8, x9, x10, x11, x12, x13⟩, ⟨f0, f1, f2, f3, f4, f5, f6, f7, f8, f9, f10, f11, f12, f13⟩⟩ := HC.out w4 hHeld.out
 obtain ⟨KA, KB⟩ := HK.out w4 hHeld.out
 have HKA := Lib.hid KA
 have HKB := Lib.hid KB
 have B4 := Lib.hid hHeld.out
 clear KA KB hHeld
 go_wp2_with fail
 have BS0 := (B1.out.trans (B4.out.mono B1.out.size))
 generalize hwS : World.setCell (World.setCell (World.setCell w4 _ _) _ _) _ _ = wS
 have BS := Lib.hid (show Below w.heap.size w wS by
  rw [← hwS]
  exact ((BS0.setCell (p := ⟨gP, 0, none⟩) (Nat.le_of_eq HGP.out) _).setCell (p := ⟨gP, 6, none⟩) (Nat.le_of_eq HGP.out) _).setCell (p := ⟨gP, 7, none⟩) (Nat.le_of_eq HGP.out) _)
 have EXS := Lib.hid (show Ex [gP] w4 wS by
  rw [← hwS]
  exact (((Ex.refl _ _).set (by simp) _).set (by simp) _).set (by simp) _)
 have HSS := Lib.hid (show wS.heap.size = w4.heap.size by rw [← hwS]; simp)
 have KAS := Lib.hid (show wS.heap[gP]? = some (.cells #[.slice a1 p.mets.length k1, .int .i64 p.r0, .int .i64 p.r1, .int .i64 p.r2, .int .i64 p.r3, .int .i64 p.r4, .slice a2 p.wins.length k2, .slice a3 p.crons.length k3, .int .i64 p.locals, .slice ga len p.gcap, .int .i64 p.fin.op, .int .i64 p.fin.n, .int .i64 p.fin.m, .slice p.fin.at_ p.fin.kids.length p.fin.cap] 53 (0, 0)) by
  rw [← hwS]
  exact blk_put (blk_put (blk_put HKA.out 0 _ rfl) 6 _ rfl) 7 _ rfl)
 have KBS := Lib.hid (show wS.heap[gP + 1]? = some (.cells #[.slice none 0 0, .int .i64 0, .int .i64 0, .int .i64 0, .int .i64 0, .int .i64 0, .slice none 0 0, .slice none 0 0, .int .i64 0, .slice none 0 0, .int .i64 0, .int .i64 0, .int .i64 0, .slice none 0 0] 53 (0, 0)) by
  have n1 : ¬ gP + 1 = gP := by omega
  rw [← hwS]
  exact blk_far (p := ⟨gP, 7, none⟩) (blk_far (p := ⟨gP, 6, none⟩) (blk_far (p := ⟨gP, 0, none⟩) HKB.out n1 _) n1 _) n1 _)
 have HPB := Lib.hid (show gP + 1 < w1.heap.size by have := HS1.out; have := HGP.out; omega)
 have ob {sz : Nat} {T : TypeId} {v : Value} {n : Nat} {xs : List Value} (o : w4.ownsRow w1.heap.size T sz v n xs) : wS.ownsRow w1.heap.size T sz v n xs := own_ex o EXS.out (fun b hb hm => by
  have := (o.lt b hb).1
  have := List.mem_singleton.1 hm
  have := HPB.out
  omega)
 replace O1 := Lib.hid (ob O1.out)
 replace O2 := Lib.hid (ob O2.out)
 replace O3 := Lib.hid (ob O3.out)
 obtain ⟨R, hR⟩ : ∃ R, rowB (.slice a1 p.mets.length k1) ++ (rowB (.slice a2 p.wins.length k2) ++ rowB (.slice a3 p.crons.length k3)) = R := ⟨_, rfl⟩
 have HRR := Lib.hid hR
 have HRB := Lib.hid (show ∀ b ∈ R, b < wS.heap.size by
  intro b hb
  rw [← hR] at hb
  rcases List.mem_append.1 hb with hb | hb
  ·exact (O1.out.lt b (rowB_mem hb)).2
  ·rcases List.mem_append.1 hb with hb | hb
   ·exact (O2.out.lt b (rowB_mem hb)).2
   ·exact (O3.out.lt b (rowB_mem hb)).2)
 clear hwS HKA HKB ob hR BS0 x0 x1 x2 x3 x4 x5 x6 x7 x8 x9 x10 x11 x12 x13 f0 f1 f2 f3 f4 f5 f6 f7 f8 f9 f10 f11 f12 f13
 go_loopg [3, 21] len (fun gg v3 v21 wr => ∃ (i : Nat) (K : List (Cr × Cr)), v21 = .int .i64 i ∧ Aside0 (i + gg = len) ∧ Aside0 (K.map (fun g => (g.1.tr, g.2.tr)) = (p.guards.take i).map (fun g => (g.1.tr, g.2.tr))) ∧ Aside0 (GrowG wS.heap.size R K v3 wr) ∧ Aside0 (Below wS.heap.size wS wr))
 case atStart => exact ⟨0, [], rfl, ⟨by omega⟩, ⟨by rw [List.take_zero]⟩, ⟨GrowG.nil _ _ _⟩, ⟨Below.refl _ _⟩⟩
 case round =>
  obtain ⟨i, K, rfl, hk, hT, hG, hB⟩ := hrel
  have HI := Lib.hid hk.out
  have HT := Lib.hid hT.out
  have HG := Lib.hid hG.out
  have HB := Lib.hid hB.out
  have HKL := Lib.hid (show K.length = i by
   have h := congrArg List.length hT.out
   rw [List.length_map, List.length_map, List.length_take] at h
   have := hk.out
   have := HLEN.out
   omega)
  have BW := Lib.hid (BS.out.trans (HB.out.mono BS.out.size))
  clear hk hT hG hB
  by_cases hin : i < len
  ·obtain ⟨x, hx⟩ : ∃ x, p.guards[i]? = some x := ⟨_, List.getElem?_eq_getElem (by rw [HLEN.out]; exact hin)⟩
   have hA := HG0.out.2.2.2.below BW.out (by decide)
   obtain ⟨b, rfl, -⟩ := hA i x hx
   obtain ⟨c0, c1, c2, c3, c4, c5, c6, c7⟩ := guard_at hA hx
   have hgl := HG0.out.2.2.1 x (List.mem_of_getElem? hx)
   have q0 := eq_true (show (0 : Int) ≤ (i : Int) by omega)
   have q1 : ((i : Int) < (len : Int)) = True := eq_true (by omega)
   have q2 : (i < len) = True := eq_true hin
   have w5 : wrap64 ((i : Int) + 1) = ((i + 1 : Nat) : Int) := by have := HRM.out; unfold wrap64; omega
   have HX := Lib.hid hx
   have HIL := Lib.hid hin
   have hlt : (b.add (i * 8)).block < wr.heap.size := World.block_lt_of_cell? wr _ c0
   have n0 : ¬ (b.add (i * 8)).block = wr.heap.size := by omega
   have n1 : ¬ wr.heap.size = (b.add (i * 8)).block := by omega
   obtain ⟨wG, e5, b5, k5, s5⟩ := box1 wr (.cells #[.int .i64 x.1.op, .int .i64 x.1.n, .int .i64 x.1.m, .slice x.1.at_ x.1.kids.length x.1.cap, .int .i64 x.2.op, .int .i64 x.2.n, .int .i64 x.2.m, .slice x.2.at_ x.2.kids.length x.2.cap] 60)
   have HE5 := Lib.hid e5
   have B5 := Lib.hid b5
   have HX1 := Lib.hid ((hgl.1.below BW.out).below b5)
   have HX2 := Lib.hid ((hgl.2.below BW.out).below b5)
   obtain ⟨gB, hgB⟩ : ∃ g, wr.heap.size = g := ⟨_, rfl⟩
   rw [hgB] at k5
   have HC5 := Lib.hid fun (w' : World) (hb : Below wG.heap.size wG w') => (show _ ∧ _ ∧ _ ∧ _ ∧ _ ∧ _ ∧ _ ∧ _ from ⟨(blk_cell (blk_below k5 hb) 0).trans rfl, (blk_cell (blk_below k5 hb) 1).trans rfl, (blk_cell (blk_below k5 hb) 2).trans rfl, (blk_cell (blk_below k5 hb) 3).trans rfl, (blk_cell (blk_below k5 hb) 4).trans rfl, (blk_cell (blk_below k5 hb) 5).trans rfl, (blk_cell (blk_below k5 hb) 6).trans rfl, (blk_cell (blk_below k5 hb) 7).trans rfl⟩)
   have HGB := Lib.hid hgB
   clear hx hin hA hgl e5 b5 k5 s5 hgB
   go_wp2_with fail
   rw [HE5.out]
   try rw [HGB.out]
   clear c0 c1 c2 c3 c4 c5 c6 c7 n0 n1 hlt
   refine wp_region_tail (S := fun w' => Aside0 (Below wG.heap.size wG w')) 9 ?_ (fun hHeld => ?_)
   ·exact ⟨(Below.refl _ _).drew⟩
   generalize World.drew _ = wDb at hHeld ⊢
   have HCr := HC5
   refine' tkT 0 ?_
   try simp only [pt]
   refine' tkT 1 ?_
   try simp only [pt]
   refine' tkT 2 ?_
   try simp only [pt]
   refine' tkT 4 ?_
   try simp only [pt]
   refine' tkT 5 ?_
   try simp only [pt]
   refine' cmT 3 (fun K hK => ?_)
   go_simp
   refine (copied_calls x.1 _ (HX1.out.below hHeld.out)).mono ?_
   rintro e w6 ⟨⟨y1, rfl, hy1, hn1⟩, b6⟩
   have HY1 := Lib.hid hy1
   have B6 := Lib.hid (B5.out.trans ((hHeld.out.trans (b6.mono hHeld.out.size)).mono B5.out.size))
   have HN1 := Lib.hid (hn1.mono (Nat.le_trans B5.out.size hHeld.out.size))
   clear hy1 hn1
   refine hK.out _ _ ⟨hHeld.out.trans (b6.mono hHeld.out.size)⟩ (fun hHeld => ?_)
   clear b6
   clear hK K
   try simp only [pt]
   refine' cmT 6 (fun K hK => ?_)
   go_simp
   refine (copied_calls x.2 _ (HX2.out.below hHeld.out)).mono ?_
   rintro e w7 ⟨⟨y2, rfl, hy2, hn2⟩, b7⟩
   have HY2 := Lib.hid hy2
   have HN2 := Lib.hid hn2
   have B67 := Lib.hid b7
   have HB7 := Lib.hid (HB.out.trans ((B6.out.trans (b7.mono B6.out.size)).mono HB.out.size))
   have HO := Lib.hid ((HG.out.below B6.out).below b7)
   have HCN := Lib.hid (cells_new w7 (guardCells (y1, y2)) 60)
   clear hy2 hn2
   refine hK.out _ _ ⟨hHeld.out.trans (b7.mono hHeld.out.size)⟩ (fun hHeld => ?_)
   clear b7
   clear hK K
   try simp only [pt]
   refine' tkT 7 ?_
   try simp only [pt]
   refine' cmT 8 (fun K hK => ?_)
   go_simp
   refine hK.out _ _ ⟨hHeld.out.alloc hHeld.out.size _⟩ (fun hHeld => ?_)
   clear hK K
   try simp only [pt]
   refine doneT ?_
   simp only [List.drop_succ_cons, List.drop_zero]
   have hb1 := HB7.out.size
   have hkl := HKL.out
   have hlt := HIL.out
   have hrm := HRM.out
   go_wp2_with (first
    | (
     at_builtin
     refine wpList_append_own_at _ rfl _ _ 51 rfl wS.heap.size 60 i0 (.agg #[.int .i64 0, .int .i64 0, .int .i64 0, .slice none 0 0, .int .i64 0, .int .i64 0, .int .i64 0, .slice none 0 0]) 8 96 Tryd.underlying51 hi hz0 hz1 hz2 rfl (by decide) _ K.length _ rfl (HO.out.own.alloc _) ⟨w7.heap.size, 0, none⟩ 1 1 (guardCells (y1, y2)) rfl rfl HCN.out (fun u hu => by simp only [guardCells, Cr.cells, List.cons_append, List.nil_append, List.mem_cons, List.not_mem_nil, or_false] at hu; rcases hu with rfl | rfl | rfl | rfl | rfl | rfl | rfl | rfl <;> rfl) (by simp only [maxLen]; omega) (by omega) (by simp; omega) ?_
     intro v' wN hown' hgrow' hnil' hat'
     have X : Aside (GrowG wS.heap.size R (K ++ [(y1, y2)]) v' wN ∧ Below wS.heap.size wS wN) := ⟨HG.out.push HB.out.size (fun b hb => Nat.lt_of_lt_of_le (HRB.out b hb) HB.out.size) B6.out HN1.out B67.out HN2.out (below_alloc (Below.refl _ _) _) hown' hgrow' hat', Below.grown (HB7.out.alloc hb1 _) hgrow' (by simp; omega) (fun j hj => ((HO.out.own.lt) j hj).1)⟩
     clear hown' hgrow' hnil' hat'))
   go_roundg (gk - 1)
   case measure => clear w5; have := HI.out; have := HIL.out; omega
   case rel => exact ⟨i + 1, K ++ [(y1, y2)], by first | rfl | simp [w5], ⟨by clear w5; have := HI.out; have := HIL.out; omega⟩, ⟨by rw [List.map_append, HT.out, List.take_add_one, HX.out, List.map_append]; show _ ++ [(y1.tr, y2.tr)] = _ ++ [(x.1.tr, x.2.tr)]; rw [HY1.out, HY2.out]⟩, ⟨X.out.1⟩, ⟨X.out.2⟩⟩
  ·have hie : i = len := by have := HI.out; omega
   have q1 : ((i : Int) < (len : Int)) = False := eq_false (by omega)
   have q2 : (i < len) = False := eq_false hin
   have HTF := Lib.hid (show K.map (fun g => (g.1.tr, g.2.tr)) = p.guards.map (fun g => (g.1.tr, g.2.tr)) by have := HT.out; rwa [hie, ← HLEN.out, List.take_length] at this)
   obtain ⟨a4, k4, rfl, -, -⟩ := own_arr HG.out.own guardCells_len (by decide)
   have KW := Lib.hid (blk_below KAS.out HB.out)
   obtain ⟨⟨x0, x1, x2, x3, x4, x5, x6, x7, x8, x9, x10, x11, x12, x13⟩, ⟨f0, f1, f2, f3, f4, f5, f6, f7, f8, f9, f10, f11, f12, f13⟩⟩ := plan_at KW.out
   clear hin hie
   go_wp2_with fail
   refine (copied_calls p.fin wr (HP0.out.fin.below BW.out)).mono ?_
   rintro e w8 ⟨⟨y, rfl, hy, hn⟩, b8⟩
   have HY := Lib.hid hy
   have HN := Lib.hid hn
   have B8 := Lib.hid b8
   have HB8 := Lib.hid (HB.out.trans (b8.mono HB.out.size))
   have KA8 := Lib.hid (blk_below KAS.out HB8.out)
   have KB8 := Lib.hid (blk_below KBS.out HB8.out)
   have HG8 := Lib.hid (HG.out.below b8)
   clear hy hn b8 x0 x1 x2 x3 x4 x5 x6 x7 x8 x9 x10 x11 x12 x13 f0 f1 f2 f3 f4 f5 f6 f7 f8 f9 f10 f11 f12 f13
   obtain ⟨⟨x0, x1, x2, x3, x4, x5, x6, x7, x8, x9, x10, x11, x12, x13⟩, ⟨f0, f1, f2, f3, f4, f5, f6, f7, f8, f9, f10, f11, f12, f13⟩⟩ := plan_at KA8.out
   obtain ⟨⟨y0, y1, y2, y3, y4, y5, y6, y7, y8, y9, y10, y11, y12, y13⟩, ⟨h0, h1, h2, h3, h4, h5, h6, h7, h8, h9, h10, h11, h12, h13⟩⟩ := plan_at KB8.out
   go_wp2_with fail
   have HF := copy_fin (w := w8) gP (.slice a4 K.length k4) (.int .i64 y.op) (.int .i64 y.n) (.int .i64 y.m) (.slice y.at_ y.kids.length y.cap) (.slice a1 p.mets.length k1) (.int .i64 p.r0) (.int .i64 p.r1) (.int .i64 p.r2) (.int .i64 p.r3) (.int .i64 p.r4) (.slice a2 p.wins.length k2) (.slice a3 p.crons.length k3) (.int .i64 p.locals) (.slice a4 K.length k4) (.int .i64 y.op) (.int .i64 y.n) (.int .i64 y.m) (.slice y.at_ y.kids.length y.cap) KB8.out
   have hlt1 := HPB.out
   have hsS : w1.heap.size ≤ wS.heap.size := by rw [HSS.out]; exact B4.out.size
   have hsr := HB.out.size
   have far (b : Nat) (hb : w1.heap.size ≤ b) : b ∉ [gP, gP + 1] := by
    intro hm
    simp only [List.mem_cons, List.not_mem_nil, or_false] at hm
    omega
   have HFAR := Lib.hid far
   clear x0 x1 x2 x3 x4 x5 x6 x7 x8 x9 x10 x11 x12 x13 f0 f1 f2 f3 f4 f5 f6 f7 f8 f9 f10 f11 f12 f13 y0 y1 y2 y3 y4 y5 y6 y7 y8 y9 y10 y11 y12 y13 h0 h1 h2 h3 h4 h5 h6 h7 h8 h9 h10 h11 h12 h13 q1 q2 far
   refine bodyPost_ret (results_cell_row (fn := Tryd.f17) (p := 2) rfl _ _ (gP + 1) 53 #[.slice a1 p.mets.length k1, .int .i64 p.r0, .int .i64 p.r1, .int .i64 p.r2, .int .i64 p.r3, .int .i64 p.r4, .slice a2 p.wins.length k2, .slice a3 p.crons.length k3, .int .i64 p.locals, .slice a4 K.length k4, .int .i64 y.op, .int .i64 y.n, .int .i64 y.m, .slice y.at_ y.kids.length y.cap] (0, 0) _ rfl HF.2 Tryd.underlying53 rfl (by kernel_rfl)) rfl ?_
   suffices hW : ∀ wF, Ex [gP, gP + 1] w8 wF → CopyPost p w (.returned (.agg #[.slice a1 p.mets.length k1, .int .i64 p.r0, .int .i64 p.r1, .int .i64 p.r2, .int .i64 p.r3, .int .i64 p.r4, .slice a2 p.wins.length k2, .slice a3 p.crons.length k3, .int .i64 p.locals, .slice a4 K.length k4, .int .i64 y.op, .int .i64 y.n, .int .i64 y.m, .slice y.at_ y.kids.length y.cap])) wF from hW _ HF.1
   clear HF
   intro wF hEXF
   have EXF := Lib.hid hEXF
   clear hEXF
   have hlo : w.heap.size ≤ w1.heap.size := B1.out.size
   have ow {sz : Nat} {T : TypeId} {v : Value} {n : Nat} {xs : List Value} (o : wS.ownsRow w1.heap.size T sz v n xs) : wF.ownsRow w.heap.size T sz v n xs := own_mono (own_ex (own_below o HB8.out) EXF.out fun b hb => HFAR.out b ((o.lt b hb).1)) hlo
   refine ⟨⟨⟨a1, k1, p.mets, p.r0, p.r1, p.r2, p.r3, p.r4, a2, k2, p.wins, a3, k3, p.crons, p.locals, a4, k4, K, y⟩, rfl, ⟨rfl, ⟨rfl, rfl, rfl, rfl, rfl⟩, rfl, rfl, rfl, HTF.out, HY.out⟩, ⟨ow O1.out, ow O2.out, ow O3.out, ?_, ?_⟩⟩, ?_⟩
   ·exact own_mono (own_ex HG8.out.own EXF.out fun b hb => HFAR.out b (Nat.le_trans hsS ((HG8.out.own.lt b hb).1))) (Nat.le_trans hlo hsS)
   ·have hp := HG8.out.parts.push HN.out hsr (fun b hb => (HG.out.parts.blocks b hb).2) (fun b hb => (List.mem_append.1 hb).elim (fun e => (HG.out.own.lt b (rowB_mem e)).2) (fun e => Nat.lt_of_lt_of_le (HRB.out b e) hsr))
    refine ((hp.ex EXF.out fun b hb hf => HFAR.out b (Nat.le_trans hsS (hp.blocks b hf).1) hb).mono (Nat.le_trans hlo hsS)).rows fun b hb => hp.row b ?_
    unfold PlanS.rows at hb
    simp only at hb
    rw [← HRR.out]
    rcases List.mem_append.1 hb with e | hb
    ·exact List.mem_append_right _ (List.mem_append_left _ e)
    ·rcases List.mem_append.1 hb with e | hb
     ·exact List.mem_append_right _ (List.mem_append_right _ (List.mem_append_left _ e))
     ·rcases List.mem_append.1 hb with e | e
      ·exact List.mem_append_right _ (List.mem_append_right _ (List.mem_append_right _ e))
      ·exact List.mem_append_left _ e
   ·have hB8 := BS.out.trans (HB8.out.mono BS.out.size)
    refine hB8.trans (EXF.out.below (fun k hk => ?_) hB8.size)
    have := HGP.out
    simp only [List.mem_cons, List.not_mem_nil, or_false] at hk
    omega
end Go.Proofs.YtpljkcakijkklaaDoor

end
section
namespace Go.Proofs.YtpljkcakijkklaaDoor
set_option linter.unusedVariables false
set_option linter.unusedSimpArgs false
open Go.RowKit Go.Proofs.YtpljkcakijkklaaDoorW.PrintWords Go.Proofs.YtpljkcakijkklaaDoorW.PrintLast Go.Proofs.YtpljkcakijkklaaDoorW.PrintMore

theorem SameP.cores {q p : PlanS} (h : SameP q p) : trL q.cores = trL p.cores := by
 have e : ∀ l : List (Cr × Cr), trL (l.flatMap fun g => [g.1, g.2]) = (l.map fun g => (g.1.tr, g.2.tr)).flatMap fun t => [t.1, t.2] := by
  intro l
  induction l with
  | nil => rfl
  | cons a t ih =>
   rw [List.flatMap_cons, trL_append, ih, List.map_cons, List.flatMap_cons]
   show [a.1.tr, a.2.tr] ++ _ = _
   rfl
 unfold PlanS.cores
 rw [trL_append, trL_append, e, e, h.guards]
 show _ ++ [q.fin.tr] = _ ++ [p.fin.tr]
 rw [h.fin]
theorem str_at {w : World} {b : Addr} {l : List ByteArray} (h : ArrL w (some b) 1 (fun s => [Value.string s]) l) {i : Nat} {x : ByteArray} (hx : l[i]? = some x) : w.cell? (b.add i) = some (.string x) := by
 obtain ⟨h0, h1⟩ := h.cellsAt hx (by decide)
 have := h0 _ rfl
 rwa [Nat.mul_one] at this
theorem win_cells {w : World} {b : Addr} {l : List WinP} (h : ArrL w (some b) 4 WinP.cells l) {i : Nat} {x : WinP} (hx : l[i]? = some x) :
  w.cell? (b.add (i * 4)) = some (.int .i64 x.met) ∧ w.cell? ⟨(b.add (i * 4)).block, (b.add (i * 4)).off + 1, none⟩ = some (.int .i64 x.agg) ∧ w.cell? ⟨(b.add (i * 4)).block, (b.add (i * 4)).off + 2, none⟩ = some (.int .i64 x.span) ∧ w.cell? ⟨(b.add (i * 4)).block, (b.add (i * 4)).off + 3, none⟩ = some (.int .i64 x.rank) := by
 obtain ⟨h0, h1⟩ := h.cellsAt hx (by decide)
 exact ⟨h0 _ rfl, h1 0 _ rfl, h1 1 _ rfl, h1 2 _ rfl⟩
theorem cron_cells {w : World} {b : Addr} {l : List CronP} (h : ArrL w (some b) 5 CronP.cells l) {i : Nat} {x : CronP} (hx : l[i]? = some x) :
  w.cell? (b.add (i * 5)) = some (.int .u64 x.f0) ∧ w.cell? ⟨(b.add (i * 5)).block, (b.add (i * 5)).off + 1, none⟩ = some (.int .u64 x.f1) ∧ w.cell? ⟨(b.add (i * 5)).block, (b.add (i * 5)).off + 2, none⟩ = some (.int .u64 x.f2) ∧ w.cell? ⟨(b.add (i * 5)).block, (b.add (i * 5)).off + 3, none⟩ = some (.int .u64 x.f3) ∧ w.cell? ⟨(b.add (i * 5)).block, (b.add (i * 5)).off + 4, none⟩ = some (.int .u64 x.f4) := by
 obtain ⟨h0, h1⟩ := h.cellsAt hx (by decide)
 exact ⟨h0 _ rfl, h1 0 _ rfl, h1 1 _ rfl, h1 2 _ rfl, h1 3 _ rfl⟩
theorem samePlan_core {ma ma' wa wa' ca ca' ga ga' : Option Addr} {mcap mcap' wcap wcap' ccap ccap' gcap gcap' : Nat} {mets : List ByteArray} {r0 r1 r2 r3 r4 locals : Int} {wins : List WinP} {crons : List CronP} {gl gl' : List (Cr × Cr)} {fin fin' : Cr} {w : World}
  (h : PlanL w ⟨ma, mcap, mets, r0, r1, r2, r3, r4, wa, wcap, wins, ca, ccap, crons, locals, ga, gcap, gl, fin⟩) (h' : PlanL w ⟨ma', mcap', mets, r0, r1, r2, r3, r4, wa', wcap', wins, ca', ccap', crons, locals, ga', gcap', gl', fin'⟩) (ht : trL (PlanS.cores ⟨ma, mcap, mets, r0, r1, r2, r3, r4, wa, wcap, wins, ca, ccap, crons, locals, ga, gcap, gl, fin⟩) = trL (PlanS.cores ⟨ma', mcap', mets, r0, r1, r2, r3, r4, wa', wcap', wins, ca', ccap', crons, locals, ga', gcap', gl', fin'⟩)) {len : Nat} (hl : gl.length = len) (hl' : gl'.length = len) :
  Calls Tryd.prog 18 #[.agg #[.slice ma mets.length mcap, .int .i64 r0, .int .i64 r1, .int .i64 r2, .int .i64 r3, .int .i64 r4, .slice wa wins.length wcap, .slice ca crons.length ccap, .int .i64 locals, .slice ga len gcap, .int .i64 fin.op, .int .i64 fin.n, .int .i64 fin.m, .slice fin.at_ fin.kids.length fin.cap], .agg #[.slice ma' mets.length mcap', .int .i64 r0, .int .i64 r1, .int .i64 r2, .int .i64 r3, .int .i64 r4, .slice wa' wins.length wcap', .slice ca' crons.length ccap', .int .i64 locals, .slice ga' len gcap', .int .i64 fin'.op, .int .i64 fin'.n, .int .i64 fin'.m, .slice fin'.at_ fin'.kids.length fin'.cap]] w fun e w' => e = .returned (.bool true) ∧ Below w.heap.size w w' := by
 have hca := fun (w' : World) (hb : Below w.heap.size w w') => rcores_calls (h.below hb)
 have hcb := fun (w' : World) (hb : Below w.heap.size w w') => rcores_calls (h'.below hb)
 have hlen := cores_len h
 have hla : ∀ c ∈ PlanS.cores ⟨ma, mcap, mets, r0, r1, r2, r3, r4, wa, wcap, wins, ca, ccap, crons, locals, ga, gcap, gl, fin⟩, Lies w c := h.core
 have hlb : ∀ c ∈ PlanS.cores ⟨ma', mcap', mets, r0, r1, r2, r3, r4, wa', wcap', wins, ca', ccap', crons, locals, ga', gcap', gl', fin'⟩, Lies w c := h'.core
 obtain ⟨qa, hqa⟩ : ∃ q, PlanS.cores ⟨ma, mcap, mets, r0, r1, r2, r3, r4, wa, wcap, wins, ca, ccap, crons, locals, ga, gcap, gl, fin⟩ = q := ⟨_, rfl⟩
 obtain ⟨qb, hqb⟩ : ∃ q, PlanS.cores ⟨ma', mcap', mets, r0, r1, r2, r3, r4, wa', wcap', wins, ca', ccap', crons, locals, ga', gcap', gl', fin'⟩ = q := ⟨_, rfl⟩
 rw [hqa] at hca hlen hla ht
 rw [hqb] at hcb hlb ht
 simp only [hl] at hca
 simp only [hl'] at hcb
 have hm := h.mets
 have hm' := h'.mets
 have hw := h.wins
 have hw' := h'.wins
 have hc := h.crons
 have hc' := h'.crons
 simp only at hm hm' hw hw' hc hc'
 have HCA := Lib.hid hca
 have HCB := Lib.hid hcb
 have HT := Lib.hid ht
 have HM := Lib.hid hm
 have HM' := Lib.hid hm'
 have HW := Lib.hid hw
 have HW' := Lib.hid hw'
 have HN := Lib.hid hc
 have HN' := Lib.hid hc'
 have HLN := Lib.hid hlen
 obtain ⟨w1, e1, b1, k1, k2, s1⟩ := box2 w (.cells #[.slice ma mets.length mcap, .int .i64 r0, .int .i64 r1, .int .i64 r2, .int .i64 r3, .int .i64 r4, .slice wa wins.length wcap, .slice ca crons.length ccap, .int .i64 locals, .slice ga len gcap, .int .i64 fin.op, .int .i64 fin.n, .int .i64 fin.m, .slice fin.at_ fin.kids.length fin.cap] 53) (.cells #[.slice ma' mets.length mcap', .int .i64 r0, .int .i64 r1, .int .i64 r2, .int .i64 r3, .int .i64 r4, .slice wa' wins.length wcap', .slice ca' crons.length ccap', .int .i64 locals, .slice ga' len gcap', .int .i64 fin'.op, .int .i64 fin'.n, .int .i64 fin'.m, .slice fin'.at_ fin'.kids.length fin'.cap] 53)
 have HE := Lib.hid e1
 have B1 := Lib.hid b1
 obtain ⟨gA, hgA⟩ : ∃ g, w.heap.size = g := ⟨_, rfl⟩
 have HG := Lib.hid fun (w' : World) (hb : Below w1.heap.size w1 w') => (show _ ∧ _ from ⟨(plan_at (blk_below k1 hb)).1, (plan_at (blk_below k2 hb)).1⟩)
 rw [hgA] at HG
 have HGA := Lib.hid hgA
 clear h h' ht hl hl' hca hcb hlen hla hlb hqa hqb hm hm' hw hw' hc hc' k1 k2 e1 b1 s1 hgA
 obtain ⟨⟨x0, x1, x2, x3, x4, x5, x6, x7, x8, x9, x10, x11, x12, x13⟩, ⟨y0, y1, y2, y3, y4, y5, y6, y7, y8, y9, y10, y11, y12, y13⟩⟩ := HG.out w1 (Below.refl _ _)
 have mz : ∀ x : Int, (x != x) = false := fun x => by simp
 go_enter Tryd.func18, Tryd.ntmps18
 go_wp2_with fail
 rw [HE.out]
 try rw [HGA.out]
 go_wp2_with fail
 clear x0 x1 x2 x3 x4 x5 x6 x7 x8 x9 x10 x11 x12 x13 y0 y1 y2 y3 y4 y5 y6 y7 y8 y9 y10 y11 y12 y13
 go_loopg [5] mets.length (fun gg v wr => ∃ i : Nat, v = .int .i64 i ∧ Aside0 (i + gg = mets.length) ∧ Aside0 (Below w1.heap.size w1 wr))
 case atStart => exact ⟨0, rfl, ⟨by omega⟩, ⟨Below.refl _ _⟩⟩
 case round =>
  obtain ⟨i, rfl, hi, hB⟩ := hrel
  have HI := Lib.hid hi.out
  have HB := Lib.hid hB.out
  have HBB := Lib.hid (hB.out)
  clear hi hB
  obtain ⟨⟨x0, x1, x2, x3, x4, x5, x6, x7, x8, x9, x10, x11, x12, x13⟩, ⟨y0, y1, y2, y3, y4, y5, y6, y7, y8, y9, y10, y11, y12, y13⟩⟩ := HG.out wr HBB.out
  by_cases hlt : i < mets.length
  ·obtain ⟨x, hx⟩ : ∃ x, mets[i]? = some x := ⟨_, List.getElem?_eq_getElem hlt⟩
   have hA := HM.out.2.2.2.below (B1.out.trans (HBB.out.mono B1.out.size)) (by decide)
   have hA' := HM'.out.2.2.2.below (B1.out.trans (HBB.out.mono B1.out.size)) (by decide)
   obtain ⟨b, rfl, -⟩ := hA i x hx
   obtain ⟨b', rfl, -⟩ := hA' i x hx
   have HCW := Lib.hid fun (w' : World) (hb : Below wr.heap.size wr w') => (show _ ∧ _ ∧ _ from ⟨HG.out w' (HBB.out.trans (hb.mono HBB.out.size)), str_at (hA.below hb (by decide)) hx, str_at (hA'.below hb (by decide)) hx⟩)
   have q0 := eq_true (show (0 : Int) ≤ (i : Int) by omega)
   have q1 : ((i : Int) < (mets.length : Int)) = True := eq_true (by omega)
   have q2 : (i < mets.length) = True := eq_true hlt
   have w5 : wrap64 ((i : Int) + 1) = ((i + 1 : Nat) : Int) := by have := HM.out.2.1; unfold wrap64; omega
   have HLT := Lib.hid hlt
   clear hlt hA hA' hx
   go_wp2_with fail
   clear x0 x1 x2 x3 x4 x5 x6 x7 x8 x9 x10 x11 x12 x13 y0 y1 y2 y3 y4 y5 y6 y7 y8 y9 y10 y11 y12 y13
   refine wp_region_held_drew (S := fun w' => Aside0 (Below wr.heap.size wr w')) (by kernel_rfl) ?_ (fun hHeld => ?_)
   ·exact ⟨(Below.refl _ _).drew⟩
   generalize World.drew _ = wDl5 at hHeld ⊢
   have HCr := HCW
   refine' tk 0 ?_
   try simp only [pt]
   refine' tk 1 ?_
   try simp only [pt]
   refine' tk 2 ?_
   try simp only [pt]
   refine' tk 3 ?_
   try simp only [pt]
   refine' tk 4 ?_
   try simp only [pt]
   refine' tk 5 ?_
   try simp only [pt]
   refine' tk 6 ?_
   try simp only [pt]
   refine' tk 7 ?_
   try simp only [pt]
   refine' tk 8 ?_
   try simp only [pt]
   refine' tk 9 ?_
   try simp only [pt]
   refine' tk 10 ?_
   try simp only [pt]
   refine wpAnyH_done (by kernel_rfl) ?_ _
   go_wp2_with fail
   go_roundg (gk - 1)
   case measure => clear w5; have := HI.out; have := HLT.out; omega
   case rel => exact ⟨i + 1, by first | rfl | simp [w5], ⟨by clear w5; have := HI.out; have := HLT.out; omega⟩, ⟨HB.out.trans (hHeld.out.mono HB.out.size)⟩⟩
  ·have q1 : ((i : Int) < (mets.length : Int)) = False := eq_false (by omega)
   have q2 : (i < mets.length) = False := eq_false hlt
   clear hlt
   go_wp2_with fail
   clear x0 x1 x2 x3 x4 x5 x6 x7 x8 x9 x10 x11 x12 x13 y0 y1 y2 y3 y4 y5 y6 y7 y8 y9 y10 y11 y12 y13 q1 q2
   obtain ⟨wA, rfl⟩ : ∃ x, x = wr := ⟨_, rfl⟩
   have BwA := Lib.hid HBB.out
   clear HBB HB HI
   go_loopg [6] wins.length (fun gg v wr => ∃ i : Nat, v = .int .i64 i ∧ Aside0 (i + gg = wins.length) ∧ Aside0 (Below wA.heap.size wA wr))
   case atStart => exact ⟨0, rfl, ⟨by omega⟩, ⟨Below.refl _ _⟩⟩
   case round =>
    obtain ⟨i, rfl, hi, hB⟩ := hrel
    have HI := Lib.hid hi.out
    have HB := Lib.hid hB.out
    have HBB := Lib.hid (BwA.out.trans (hB.out.mono BwA.out.size))
    clear hi hB
    obtain ⟨⟨x0, x1, x2, x3, x4, x5, x6, x7, x8, x9, x10, x11, x12, x13⟩, ⟨y0, y1, y2, y3, y4, y5, y6, y7, y8, y9, y10, y11, y12, y13⟩⟩ := HG.out wr HBB.out
    by_cases hlt : i < wins.length
    ·obtain ⟨x, hx⟩ : ∃ x, wins[i]? = some x := ⟨_, List.getElem?_eq_getElem hlt⟩
     have hA := HW.out.2.2.2.below (B1.out.trans (HBB.out.mono B1.out.size)) (by decide)
     have hA' := HW'.out.2.2.2.below (B1.out.trans (HBB.out.mono B1.out.size)) (by decide)
     obtain ⟨b, rfl, -⟩ := hA i x hx
     obtain ⟨b', rfl, -⟩ := hA' i x hx
     have HCW := Lib.hid fun (w' : World) (hb : Below wr.heap.size wr w') => (show _ ∧ _ ∧ _ from ⟨HG.out w' (HBB.out.trans (hb.mono HBB.out.size)), win_cells (hA.below hb (by decide)) hx, win_cells (hA'.below hb (by decide)) hx⟩)
     have q0 := eq_true (show (0 : Int) ≤ (i : Int) by omega)
     have q1 : ((i : Int) < (wins.length : Int)) = True := eq_true (by omega)
     have q2 : (i < wins.length) = True := eq_true hlt
     have w5 : wrap64 ((i : Int) + 1) = ((i + 1 : Nat) : Int) := by have := HW.out.2.1; unfold wrap64; omega
     have HLT := Lib.hid hlt
     clear hlt hA hA' hx
     go_wp2_with fail
     clear x0 x1 x2 x3 x4 x5 x6 x7 x8 x9 x10 x11 x12 x13 y0 y1 y2 y3 y4 y5 y6 y7 y8 y9 y10 y11 y12 y13
     refine wp_region_held_drew (S := fun w' => Aside0 (Below wr.heap.size wr w')) (by kernel_rfl) ?_ (fun hHeld => ?_)
     ·exact ⟨(Below.refl _ _).drew⟩
     generalize World.drew _ = wDl6 at hHeld ⊢
     have HCr := HCW
     refine' tk 0 ?_
     try simp only [pt]
     refine' tk 1 ?_
     try simp only [pt]
     refine' tk 2 ?_
     try simp only [pt]
     refine' tk 3 ?_
     try simp only [pt]
     refine' tk 4 ?_
     try simp only [pt]
     refine' tk 5 ?_
     try simp only [pt]
     refine' tk 6 ?_
     try simp only [pt]
     refine' tk 7 ?_
     try simp only [pt]
     refine' tk 8 ?_
     try simp only [pt]
     refine' tk 9 ?_
     try simp only [pt]
     refine' tk 10 ?_
     try simp only [pt]
     refine wpAnyH_done (by kernel_rfl) ?_ _
     go_wp2_with fail
     go_roundg (gk - 1)
     case measure => clear w5; have := HI.out; have := HLT.out; omega
     case rel => exact ⟨i + 1, by first | rfl | simp [w5], ⟨by clear w5; have := HI.out; have := HLT.out; omega⟩, ⟨HB.out.trans (hHeld.out.mono HB.out.size)⟩⟩
    ·have q1 : ((i : Int) < (wins.length : Int)) = False := eq_false (by omega)
     have q2 : (i < wins.length) = False := eq_false hlt
     clear hlt
     go_wp2_with fail
     clear x0 x1 x2 x3 x4 x5 x6 x7 x8 x9 x10 x11 x12 x13 y0 y1 y2 y3 y4 y5 y6 y7 y8 y9 y10 y11 y12 y13 q1 q2
     obtain ⟨wB, rfl⟩ : ∃ x, x = wr := ⟨_, rfl⟩
     have BwB := Lib.hid HBB.out
     clear HBB HB HI
     go_loopg [7] crons.length (fun gg v wr => ∃ i : Nat, v = .int .i64 i ∧ Aside0 (i + gg = crons.length) ∧ Aside0 (Below wB.heap.size wB wr))
     case atStart => exact ⟨0, rfl, ⟨by omega⟩, ⟨Below.refl _ _⟩⟩
     case round =>
      obtain ⟨i, rfl, hi, hB⟩ := hrel
      have HI := Lib.hid hi.out
      have HB := Lib.hid hB.out
      have HBB := Lib.hid (BwB.out.trans (hB.out.mono BwB.out.size))
      clear hi hB
      obtain ⟨⟨x0, x1, x2, x3, x4, x5, x6, x7, x8, x9, x10, x11, x12, x13⟩, ⟨y0, y1, y2, y3, y4, y5, y6, y7, y8, y9, y10, y11, y12, y13⟩⟩ := HG.out wr HBB.out
      by_cases hlt : i < crons.length
      ·obtain ⟨x, hx⟩ : ∃ x, crons[i]? = some x := ⟨_, List.getElem?_eq_getElem hlt⟩
       have hA := HN.out.2.2.2.below (B1.out.trans (HBB.out.mono B1.out.size)) (by decide)
       have hA' := HN'.out.2.2.2.below (B1.out.trans (HBB.out.mono B1.out.size)) (by decide)
       obtain ⟨b, rfl, -⟩ := hA i x hx
       obtain ⟨b', rfl, -⟩ := hA' i x hx
       have HCW := Lib.hid fun (w' : World) (hb : Below wr.heap.size wr w') => (show _ ∧ _ ∧ _ from ⟨HG.out w' (HBB.out.trans (hb.mono HBB.out.size)), cron_cells (hA.below hb (by decide)) hx, cron_cells (hA'.below hb (by decide)) hx⟩)
       have q0 := eq_true (show (0 : Int) ≤ (i : Int) by omega)
       have q1 : ((i : Int) < (crons.length : Int)) = True := eq_true (by omega)
       have q2 : (i < crons.length) = True := eq_true hlt
       have w5 : wrap64 ((i : Int) + 1) = ((i + 1 : Nat) : Int) := by have := HN.out.2.1; unfold wrap64; omega
       have HLT := Lib.hid hlt
       clear hlt hA hA' hx
       go_wp2_with fail
       clear x0 x1 x2 x3 x4 x5 x6 x7 x8 x9 x10 x11 x12 x13 y0 y1 y2 y3 y4 y5 y6 y7 y8 y9 y10 y11 y12 y13
       refine wp_region_held_drew (S := fun w' => Aside0 (Below wr.heap.size wr w')) (by kernel_rfl) ?_ (fun hHeld => ?_)
       ·exact ⟨(Below.refl _ _).drew⟩
       generalize World.drew _ = wDl7 at hHeld ⊢
       have HCr := HCW
       refine' tk 0 ?_
       try simp only [pt]
       refine' tk 1 ?_
       try simp only [pt]
       refine' tk 2 ?_
       try simp only [pt]
       refine' tk 3 ?_
       try simp only [pt]
       refine' tk 4 ?_
       try simp only [pt]
       refine' tk 5 ?_
       try simp only [pt]
       refine' tk 6 ?_
       try simp only [pt]
       refine' tk 7 ?_
       try simp only [pt]
       refine' tk 8 ?_
       try simp only [pt]
       refine' tk 9 ?_
       try simp only [pt]
       refine' tk 10 ?_
       try simp only [pt]
       refine wpAnyH_done (by kernel_rfl) ?_ _
       go_wp2_with fail
       go_roundg (gk - 1)
       case measure => clear w5; have := HI.out; have := HLT.out; omega
       case rel => exact ⟨i + 1, by first | rfl | simp [w5], ⟨by clear w5; have := HI.out; have := HLT.out; omega⟩, ⟨HB.out.trans (hHeld.out.mono HB.out.size)⟩⟩
      ·have q1 : ((i : Int) < (crons.length : Int)) = False := eq_false (by omega)
       have q2 : (i < crons.length) = False := eq_false hlt
       clear hlt
       go_wp2_with fail
       clear x0 x1 x2 x3 x4 x5 x6 x7 x8 x9 x10 x11 x12 x13 y0 y1 y2 y3 y4 y5 y6 y7 y8 y9 y10 y11 y12 y13 q1 q2
       obtain ⟨wC, rfl⟩ : ∃ x, x = wr := ⟨_, rfl⟩
       have BwC := Lib.hid HBB.out
       clear HBB HB HI
       have HGC := Lib.hid fun (w' : World) (hb : Below wC.heap.size wC w') => HG.out w' (BwC.out.trans (hb.mono BwC.out.size))
       refine wp_region_held_drew (S := fun w' => Aside0 (Below wC.heap.size wC w')) (by kernel_rfl) ?_ (fun hHeld => ?_)
       ·exact ⟨(Below.refl _ _).drew⟩
       generalize World.drew _ = wDm at hHeld ⊢
       have HCr := HGC
       refine' tk 0 ?_
       try simp only [pt]
       refine' tk 2 ?_
       try simp only [pt]
       refine' cm 1 (fun K hK => ?_)
       go_simp
       refine (HCA.out _ (B1.out.trans ((BwC.out.trans (hHeld.out.mono BwC.out.size)).mono B1.out.size))).mono ?_
       rintro e w7 ⟨⟨A, cA, rfl, hL, hcA⟩, b7⟩
       have HL := Lib.hid hL
       have B7 := Lib.hid (hHeld.out.trans (b7.mono hHeld.out.size))
       clear hL hcA
       refine hK.out _ _ ⟨hHeld.out.trans (b7.mono hHeld.out.size)⟩ (fun hHeld => ?_)
       clear b7
       clear hK K
       try simp only [pt]
       refine' cm 3 (fun K hK => ?_)
       go_simp
       refine (HCB.out _ (B1.out.trans ((BwC.out.trans (hHeld.out.mono BwC.out.size)).mono B1.out.size))).mono ?_
       rintro e w8 ⟨⟨A', cB, rfl, hL', hcB⟩, b8⟩
       have HL2 := Lib.hid (HL.out.below b8)
       have HL' := Lib.hid hL'
       have B8 := Lib.hid (BwC.out.trans ((hHeld.out.trans (b8.mono hHeld.out.size)).mono BwC.out.size))
       clear hL' hcB
       refine hK.out _ _ ⟨hHeld.out.trans (b8.mono hHeld.out.size)⟩ (fun hHeld => ?_)
       clear b8
       clear hK K
       try simp only [pt]
       refine' tk 4 ?_
       try simp only [pt]
       refine' tk 5 ?_
       try simp only [pt]
       refine wpAnyH_done (by kernel_rfl) ?_ _
       have hlq : qb.length = qa.length := by
        have h := congrArg List.length HT.out
        rw [trL_map, trL_map, List.length_map, List.length_map] at h
        exact h.symm
       obtain ⟨n, hn⟩ : ∃ n, qa.length = n := ⟨_, rfl⟩
       have HNA := Lib.hid hn
       have HNB := Lib.hid (hlq.trans hn)
       have HN2 := Lib.hid HLN.out
       rw [hn] at HN2 ⊢
       rw [hlq, hn]
       clear hlq hn hHeld
       go_wp2_with fail
       go_loopg [10] n (fun gg v wr => ∃ i : Nat, v = .int .i64 i ∧ Aside0 (i + gg = n) ∧ Aside0 (Below w8.heap.size w8 wr))
       case atStart => exact ⟨0, rfl, ⟨by omega⟩, ⟨Below.refl _ _⟩⟩
       case round =>
        obtain ⟨i, rfl, hi, hB⟩ := hrel
        have HI := Lib.hid hi.out
        have HB := Lib.hid hB.out
        clear hi hB
        by_cases hlt : i < n
        ·obtain ⟨x, hx⟩ : ∃ x, qa[i]? = some x := ⟨_, List.getElem?_eq_getElem (by rw [HNA.out]; exact hlt)⟩
         obtain ⟨y, hy⟩ : ∃ y, qb[i]? = some y := ⟨_, List.getElem?_eq_getElem (by rw [HNB.out]; exact hlt)⟩
         have LX := Lib.hid (HL2.out.below HB.out)
         have LY := Lib.hid (HL'.out.below HB.out)
         obtain ⟨b, rfl, -⟩ := LX.out.cellsB (Below.refl _ _) hx
         obtain ⟨b', rfl, -⟩ := LY.out.cellsB (Below.refl _ _) hy
         have HCW := Lib.hid fun (w' : World) (hb : Below wr.heap.size wr w') => (show _ ∧ _ from ⟨by obtain ⟨b1, e, h⟩ := LX.out.cellsB hb hx; cases e; exact h.2, by obtain ⟨b1, e, h⟩ := LY.out.cellsB hb hy; cases e; exact h.2⟩)
         have HXL := Lib.hid (LiesL.lies LX.out (List.mem_of_getElem? hx))
         have HYL := Lib.hid (LiesL.lies LY.out (List.mem_of_getElem? hy))
         have HSM := Lib.hid (show sameS x y = true by
          rw [sameS_tr]
          have h := congrArg (fun l => l[i]?) HT.out
          simp only [trL_map, List.getElem?_map, hx, hy, Option.map_some, Option.some.injEq] at h
          exact h)
         have q0 := eq_true (show (0 : Int) ≤ (i : Int) by omega)
         have q1 : ((i : Int) < (n : Int)) = True := eq_true (by omega)
         have q2 : (i < n) = True := eq_true hlt
         have w5 : wrap64 ((i : Int) + 1) = ((i + 1 : Nat) : Int) := by have := HN2.out; unfold wrap64; omega
         have HLT := Lib.hid hlt
         clear hlt hx hy
         go_wp2_with fail
         refine wp_region_held_drew (S := fun w' => Aside0 (Below wr.heap.size wr w')) (by kernel_rfl) ?_ (fun hHeld => ?_)
         ·exact ⟨(Below.refl _ _).drew⟩
         generalize World.drew _ = wDn at hHeld ⊢
         have HCr := HCW
         refine' tk 0 ?_
         try simp only [pt]
         refine' tk 1 ?_
         try simp only [pt]
         refine' tk 2 ?_
         try simp only [pt]
         refine' tk 3 ?_
         try simp only [pt]
         refine' tk 4 ?_
         try simp only [pt]
         refine' tk 5 ?_
         try simp only [pt]
         refine' tk 6 ?_
         try simp only [pt]
         refine' tk 7 ?_
         try simp only [pt]
         refine' cm 8 (fun K hK => ?_)
         go_simp
         refine (rsame_calls x y _ (HXL.out.below hHeld.out) (HYL.out.below hHeld.out)).mono ?_
         rintro e w9 ⟨rfl, b9⟩
         rw [HSM.out]
         refine hK.out _ _ ⟨hHeld.out.trans (b9.mono hHeld.out.size)⟩ (fun hHeld => ?_)
         clear b9
         clear hK K
         try simp only [pt]
         refine' tk 9 ?_
         try simp only [pt]
         refine wpAnyH_done (by kernel_rfl) ?_ _
         go_wp2_with fail
         go_roundg (gk - 1)
         case measure => clear w5; have := HI.out; have := HLT.out; omega
         case rel => exact ⟨i + 1, by first | rfl | simp [w5], ⟨by clear w5; have := HI.out; have := HLT.out; omega⟩, ⟨HB.out.trans (hHeld.out.mono HB.out.size)⟩⟩
        ·have q1 : ((i : Int) < (n : Int)) = False := eq_false (by omega)
         have q2 : (i < n) = False := eq_false hlt
         clear hlt
         go_wp2_with fail
         go_ret
         exact ⟨rfl, B1.out.trans ((B8.out.trans (HB.out.mono B8.out.size)).mono B1.out.size)⟩
theorem samePlan_calls {q p : PlanS} {w : World} (hq : PlanL w q) (hp : PlanL w p) (h : SameP q p) :
  Calls Tryd.prog 18 #[.agg q.cells.toArray, .agg p.cells.toArray] w fun e w' => e = .returned (.bool true) ∧ Below w.heap.size w w' := by
 have ht := h.cores
 obtain ⟨ma, mcap, mets, r0, r1, r2, r3, r4, wa, wcap, wins, ca, ccap, crons, locals, ga, gcap, gl, fin⟩ := q
 obtain ⟨ma', mcap', mets', r0', r1', r2', r3', r4', wa', wcap', wins', ca', ccap', crons', locals', ga', gcap', gl', fin'⟩ := p
 obtain ⟨h1, ⟨h2, h3, h4, h5, h6⟩, h7, h8, h9, h10, h11⟩ := h
 simp only at h1 h2 h3 h4 h5 h6 h7 h8 h9 h10 h11
 subst h1 h2 h3 h4 h5 h6 h7 h8 h9
 have hl : gl'.length = gl.length := by
  have e := congrArg List.length h10
  rw [List.length_map, List.length_map] at e
  exact e.symm
 have := samePlan_core hq hp ht rfl hl
 unfold PlanS.cells
 rw [hl]
 exact this
end Go.Proofs.YtpljkcakijkklaaDoor

end
