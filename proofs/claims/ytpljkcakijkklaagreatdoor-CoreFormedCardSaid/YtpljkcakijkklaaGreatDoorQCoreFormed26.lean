/-
  Texts of this seat, joined, less what CoreFormed does not lean on: CFormedLaw.
-/
import Derived.Test.YtpljkcakijkklaaGreatDoorQCoreFormed22
import Derived.Test.YtpljkcakijkklaaGreatDoorQCoreFormed23
set_option linter.unusedVariables false
set_option linter.unusedSimpArgs false
set_option maxHeartbeats 16000000
set_option maxRecDepth 100000
section
namespace Go.Proofs.YtpljkcakijkklaaGreatDoor
set_option linter.unusedVariables false
set_option linter.unusedSimpArgs false
open Go.RowKit Go.Proofs.YtpljkcakijkklaaGreatDoorW.PrintWords Go.Proofs.YtpljkcakijkklaaGreatDoorW.PrintLast Go.Proofs.YtpljkcakijkklaaGreatDoorW.PrintMore

theorem CoreFormed_lies {p : PlanS} {a b c d e : Int} {w : World} (h : PlanL w p) (hF : FieldsAt w) (ht : ErrT w) : Calls Tryz.prog 4 #[.agg #[.slice p.ma p.mets.length p.mcap, .int .i64 p.r0, .int .i64 p.r1, .int .i64 p.r2, .int .i64 p.r3, .int .i64 p.r4, .slice p.wa p.wins.length p.wcap, .slice p.ca p.crons.length p.ccap, .int .i64 p.locals, .slice p.ga p.guards.length p.gcap, .int .i64 p.fin.op, .int .i64 p.fin.n, .int .i64 p.fin.m, .slice p.fin.at_ p.fin.kids.length p.fin.cap], .agg #[.int .i64 a, .int .i64 b, .int .i64 c, .int .i64 d, .int .i64 e]] w fun en w' => en = .returned (.bool true) ∧ Below w.heap.size w w' := by
 obtain ⟨w1, e1, b1, k1, k2, s1⟩ := box2 w (.cells #[.slice p.ma p.mets.length p.mcap, .int .i64 p.r0, .int .i64 p.r1, .int .i64 p.r2, .int .i64 p.r3, .int .i64 p.r4, .slice p.wa p.wins.length p.wcap, .slice p.ca p.crons.length p.ccap, .int .i64 p.locals, .slice p.ga p.guards.length p.gcap, .int .i64 p.fin.op, .int .i64 p.fin.n, .int .i64 p.fin.m, .slice p.fin.at_ p.fin.kids.length p.fin.cap] 49) (.cells #[.int .i64 a, .int .i64 b, .int .i64 c, .int .i64 d, .int .i64 e] 44)
 have HE := Lib.hid e1
 have B1 := Lib.hid b1
 have HP := Lib.hid (h.below b1)
 have HT := Lib.hid (ht.below b1)
 have hlF : 0 < w.heap.size := World.block_lt_of_cell? w _ (hF 0 (by decide)).1
 have HF := Lib.hid (hF.below b1 hlF)
 have HLF := Lib.hid (show 0 < w1.heap.size from Nat.lt_of_lt_of_le hlF b1.size)
 obtain ⟨gP, hgP⟩ : ∃ g, w.heap.size = g := ⟨_, rfl⟩
 have HGP := Lib.hid hgP
 have HC := Lib.hid fun (w' : World) (hb : Below w1.heap.size w1 w') => (show _ ∧ _ ∧ _ ∧ _ ∧ _ ∧ _ from ⟨plan_cells (p := p) (blk_below k1 hb), (blk_cell (blk_below k2 hb) 0).trans rfl, (blk_cell (blk_below k2 hb) 1).trans rfl, (blk_cell (blk_below k2 hb) 2).trans rfl, (blk_cell (blk_below k2 hb) 3).trans rfl, (blk_cell (blk_below k2 hb) 4).trans rfl⟩)
 rw [hgP] at HC
 obtain ⟨fb, hfb⟩ : ∃ x, formedP p = x := ⟨_, rfl⟩
 obtain ⟨rb, hrb⟩ : ∃ x, rightB a b c d e = x := ⟨_, rfl⟩
 have HFB := Lib.hid hfb
 have HRB := Lib.hid hrb
 clear h hF ht hlF e1 b1 k1 k2 s1 hgP hfb hrb
 go_enter Tryz.func4, Tryz.ntmps4
 go_wp2_with fail
 rw [HE.out]
 try rw [HGP.out]
 refine wp_region_held_drew (S := fun w' => Aside0 (Below w1.heap.size w1 w')) (by kernel_rfl) ?_ (fun hHeld => ?_)
 ·exact ⟨(Below.refl _ _).drew⟩
 generalize World.drew _ = wD at hHeld ⊢
 have HCr := HC
 refine' cm 0 (fun K hK => ?_)
 go_simp
 refine (awake15 _ (HT.out.below hHeld.out)).mono ?_
 rintro en wq ⟨rfl, bq⟩
 refine hK.out _ _ ⟨hHeld.out.trans (bq.mono hHeld.out.size)⟩ (fun hHeld => ?_)
 clear bq
 clear hK K
 try simp only [pt]
 refine' tk 1 ?_
 try simp only [pt]
 refine' tk 2 ?_
 try simp only [pt]
 refine' cm 3 (fun K hK => ?_)
 go_simp
 refine (few_calls (HP.out.below hHeld.out)).mono ?_
 rintro en wq ⟨⟨nb, rfl⟩, bq⟩
 refine hK.out _ _ ⟨hHeld.out.trans (bq.mono hHeld.out.size)⟩ (fun hHeld => ?_)
 clear bq
 clear hK K
 try simp only [pt]
 cases nb with
 | false =>
  refine' tk 4 ?_
  try simp only [pt]
  refine' tk 5 ?_
  try simp only [pt]
  refine' tn 6 ?_
  try simp only [pt]
  refine' tn 7 ?_
  try simp only [pt]
  refine' tn 8 ?_
  try simp only [pt]
  refine' tn 9 ?_
  try simp only [pt]
  refine' tn 10 ?_
  try simp only [pt]
  refine' tk 11 ?_
  try simp only [pt]
  refine' tk 12 ?_
  try simp only [pt]
  refine' tk 13 ?_
  try simp only [pt]
  refine' tk 14 ?_
  try simp only [pt]
  refine' tk 16 ?_
  try simp only [pt]
  refine' cm 15 (fun K hK => ?_)
  go_simp
  refine (right_calls _ _ _ _ _ _).mono ?_
  rintro en wq ⟨rfl, bq⟩
  rw [HRB.out]
  refine hK.out _ _ ⟨hHeld.out.trans (bq.mono hHeld.out.size)⟩ (fun hHeld => ?_)
  clear bq
  clear hK K
  try simp only [pt]
  refine' cm 17 (fun K hK => ?_)
  go_simp
  refine (rright_calls _ _ _ _ _ _).mono ?_
  rintro en wq ⟨rfl, bq⟩
  rw [HRB.out]
  refine hK.out _ _ ⟨hHeld.out.trans (bq.mono hHeld.out.size)⟩ (fun hHeld => ?_)
  clear bq
  clear hK K
  try simp only [pt]
  refine' tk 18 ?_
  try simp only [pt]
  refine' tk 19 ?_
  try simp only [pt]
  refine' tk 20 ?_
  try simp only [pt]
  refine wpAnyH_done (by kernel_rfl) ?_ _
  go_wp2_with fail
  go_ret
  exact ⟨by first | rfl | simp, B1.out.trans (hHeld.out.mono B1.out.size)⟩
 | true =>
  refine' tk 4 ?_
  try simp only [pt]
  refine' tk 5 ?_
  try simp only [pt]
  refine' tk 6 ?_
  try simp only [pt]
  refine' tk 8 ?_
  try simp only [pt]
  refine' cm 7 (fun K hK => ?_)
  go_simp
  refine (cformed_calls (HP.out.below hHeld.out) (HF.out.below hHeld.out HLF.out)).mono ?_
  rintro en wq ⟨rfl, bq⟩
  rw [HFB.out]
  refine hK.out _ _ ⟨hHeld.out.trans (bq.mono hHeld.out.size)⟩ (fun hHeld => ?_)
  clear bq
  clear hK K
  try simp only [pt]
  refine' cm 9 (fun K hK => ?_)
  go_simp
  refine (refformed_calls (HP.out.below hHeld.out)).mono ?_
  rintro en wq ⟨rfl, bq⟩
  rw [HFB.out]
  refine hK.out _ _ ⟨hHeld.out.trans (bq.mono hHeld.out.size)⟩ (fun hHeld => ?_)
  clear bq
  clear hK K
  try simp only [pt]
  refine' tk 10 ?_
  try simp only [pt]
  refine' tk 11 ?_
  try simp only [pt]
  refine' tk 12 ?_
  try simp only [pt]
  refine' tk 13 ?_
  try simp only [pt]
  refine' tk 14 ?_
  try simp only [pt]
  refine' tk 16 ?_
  try simp only [pt]
  refine' cm 15 (fun K hK => ?_)
  go_simp
  refine (right_calls _ _ _ _ _ _).mono ?_
  rintro en wq ⟨rfl, bq⟩
  rw [HRB.out]
  refine hK.out _ _ ⟨hHeld.out.trans (bq.mono hHeld.out.size)⟩ (fun hHeld => ?_)
  clear bq
  clear hK K
  try simp only [pt]
  refine' cm 17 (fun K hK => ?_)
  go_simp
  refine (rright_calls _ _ _ _ _ _).mono ?_
  rintro en wq ⟨rfl, bq⟩
  rw [HRB.out]
  refine hK.out _ _ ⟨hHeld.out.trans (bq.mono hHeld.out.size)⟩ (fun hHeld => ?_)
  clear bq
  clear hK K
  try simp only [pt]
  refine' tk 18 ?_
  try simp only [pt]
  refine' tk 19 ?_
  try simp only [pt]
  refine' tk 20 ?_
  try simp only [pt]
  refine wpAnyH_done (by kernel_rfl) ?_ _
  go_wp2_with fail
  go_ret
  exact ⟨by first | rfl | simp, B1.out.trans (hHeld.out.mono B1.out.size)⟩
end Go.Proofs.YtpljkcakijkklaaGreatDoor

end
