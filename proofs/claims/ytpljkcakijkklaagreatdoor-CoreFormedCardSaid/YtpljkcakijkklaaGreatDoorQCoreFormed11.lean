/-
  Texts of this seat, joined, less what CoreFormed does not lean on: Rsort4, Rsort6, Rsort7.
-/
import Derived.Test.YtpljkcakijkklaaGreatDoorQCoreFormed10
set_option linter.unusedVariables false
set_option linter.unusedSimpArgs false
set_option maxHeartbeats 16000000
set_option maxRecDepth 100000
section
namespace Go.Proofs.YtpljkcakijkklaaGreatDoor
set_option linter.unusedVariables false
set_option linter.unusedSimpArgs false
open Go.RowKit Go.Proofs.YtpljkcakijkklaaGreatDoorW.PrintWords Go.Proofs.YtpljkcakijkklaaGreatDoorW.PrintLast Go.Proofs.YtpljkcakijkklaaGreatDoorW.PrintMore

section
variable {rw rc rl op n m : Int} {at_ : Option Addr} {cap : Nat} {w : World}
theorem rs_node1_7 (hop : op = 7) (hf : fieldsS rw rc rl op n m = true) {ka : Cr} {va : Int} (hl : Lies w (.node op n m at_ cap [ka])) (ika : SortR rw rc rl ka va) (hv : va = 0 ∨ va = 1 ∨ va = 2 ∨ va = 3) :
  Calls Tryz.prog 10 #[.agg #[.int .i64 rw, .int .i64 rc, .int .i64 rl], .agg #[.int .i64 op, .int .i64 n, .int .i64 m, .slice at_ 1 cap]] w fun e w' => e = .returned (.int .i64 (oneS rl op n m va)) ∧ Below w.heap.size w w' := by
 obtain ⟨p, rfl⟩ : ∃ p, at_ = some p := by
  obtain ⟨b, hb, -⟩ := hl.kids.cells (i := 0) (k := ka) rfl
  exact ⟨b, hb⟩
 obtain ⟨w1, e1, b1, k2, k3, s1⟩ := box2 w (.cells #[.int .i64 rw, .int .i64 rc, .int .i64 rl] 38) (.cells #[.int .i64 op, .int .i64 n, .int .i64 m, .slice (some p) 1 cap] 24)
 have HE := Lib.hid e1
 have B1 := Lib.hid b1
 obtain ⟨y0, y1, y2⟩ := room2_cells k2
 obtain ⟨x0, x1, x2, x3⟩ := core_cells k3
 have HK := Lib.hid (hl.below b1).kids
 simp only [Cr.at_, Cr.kids] at HK
 have HC := Lib.hid fun (w' : World) (hb : Below w1.heap.size w1 w') => (show ((w'.cell? ⟨w.heap.size, 0, none⟩ = some (.int .i64 rw) ∧ w'.cell? ⟨w.heap.size, 1, none⟩ = some (.int .i64 rc) ∧ w'.cell? ⟨w.heap.size, 2, none⟩ = some (.int .i64 rl)) ∧ (w'.cell? ⟨w.heap.size + 1, 0, none⟩ = some (.int .i64 op) ∧ w'.cell? ⟨w.heap.size + 1, 1, none⟩ = some (.int .i64 n) ∧ w'.cell? ⟨w.heap.size + 1, 2, none⟩ = some (.int .i64 m) ∧ w'.cell? ⟨w.heap.size + 1, 3, none⟩ = some (.slice (some p) 1 cap))) ∧ (w'.cell? p = some (.int .i64 ka.op) ∧ w'.cell? ⟨p.block, p.off + 1, none⟩ = some (.int .i64 ka.n) ∧ w'.cell? ⟨p.block, p.off + 2, none⟩ = some (.int .i64 ka.m) ∧ w'.cell? ⟨p.block, p.off + 3, none⟩ = some (.slice ka.at_ ka.kids.length ka.cap)) from ⟨⟨room2_cells (blk_below k2 hb), core_cells (blk_below k3 hb)⟩, HK.out.lit0 hb rfl⟩)
 have Lka := Lib.hid (LiesL.lies HK.out (k := ka) (by simp))
 have Ika := Lib.hid ika
 have HAR := Lib.hid (show arityS op = 1 by rcases hop with rfl <;> rfl)
 have HF := Lib.hid hf
 have HOP := Lib.hid hop
 have HV := Lib.hid hv
 clear hv
 clear hop hf k2 k3 e1 b1 s1 hl ika
 go_enter Tryz.func10, Tryz.ntmps10
 go_wp2_with fail
 rw [HE.out]
 go_wp2_with fail
 refine (arity_calls op _).mono ?_
 rintro e w9 ⟨rfl, hw9⟩
 rw [hw9, HAR.out]
 clear hw9 w9
 go_wp2_with fail
 refine (fields_calls rw rc rl op n m (some p) 1 cap _).mono ?_
 rintro e w2 ⟨rfl, hb2⟩
 rw [HF.out]
 obtain ⟨⟨⟨y0, y1, y2⟩, ⟨x0, x1, x2, x3⟩⟩, z0⟩ := HC.out w2 hb2
 go_wp2_with fail
 obtain ⟨gA, hgA⟩ : ∃ g, w2.heap.size = g := ⟨_, rfl⟩
 have HGA := Lib.hid (show w1.heap.size ≤ gA by rw [← hgA]; exact hb2.size)
 obtain ⟨wA, eA, bA, kA, sA⟩ := box1 w2 (.cells #[.int .i64 0, .int .i64 0, .int .i64 0] 72)
 rw [eA, hgA]
 rw [hgA] at kA
 have HBA := Lib.hid (hb2.trans (bA.mono hb2.size))
 have HKA := Lib.hid kA
 clear eA bA kA sA hgA hb2 y0 y1 y2 x0 x1 x2 x3 z0
 go_loopg [7] 1 (fun gg v7 wr => ∃ i : Nat, v7 = .int .i64 i ∧ Aside0 (i ≤ 1 ∧ 1 - i ≤ gg) ∧ Aside0 (Below w1.heap.size w1 wr) ∧ Aside0 (wr.heap[gA]? = some (.cells #[.int .i64 (if 0 < i then va else 0), .int .i64 0, .int .i64 0] 72 (0, 0))))
 case atStart => exact ⟨0, rfl, ⟨by omega⟩, ⟨HBA.out⟩, ⟨by simpa using HKA.out⟩⟩
 case round =>
  clear HKA HBA
  obtain ⟨i, rfl, hi, BW, hKA⟩ := hrel
  have HI := Lib.hid hi.out
  have HB := Lib.hid BW.out
  have HKA := Lib.hid hKA.out
  clear hi BW hKA
  rcases (show i = 0 ∨ i = 1 by have := HI.out; omega) with rfl | rfl
  ·have kA : wr.heap[gA]? = some (.cells #[.int .i64 0, .int .i64 0, .int .i64 0] 72 (0, 0)) := by simpa using HKA.out
   have kAd : wr.drew.heap[gA]? = some (.cells #[.int .i64 0, .int .i64 0, .int .i64 0] 72 (0, 0)) := kA
   clear HKA kA
   go_wp2_with fail
   refine wp_region_held_drew (S := fun w' => Aside0 (Below w1.heap.size w1 w')) (by kernel_rfl) ?_ (fun hHeld => ?_)
   ·exact ⟨HB.out.drew⟩
   generalize World.drew _ = wDa at hHeld kAd ⊢
   have HCr := HC
   refine' tk 0 ?_
   try simp only [pt]
   refine' tk 1 ?_
   try simp only [pt]
   refine' tk 2 ?_
   try simp only [pt]
   refine' tk 3 ?_
   try simp only [pt]
   refine' tk 4 ?_
   try simp only [pt]
   refine' tk 5 ?_
   try simp only [pt]
   refine' tk 6 ?_
   try simp only [pt]
   refine' cm 7 (fun K hK => ?_)
   go_simp
   refine (Ika.out _ (Lka.out.below hHeld.out)).mono ?_
   rintro e w7 ⟨rfl, hb2⟩
   have kA7 := blk_below kAd hb2
   have xA := (blk_cell kA7 0).trans rfl
   have fA := blk_frozen kA7 0
   refine hK.out _ _ ⟨hHeld.out.trans (hb2.mono hHeld.out.size)⟩ (fun hHeld => ?_)
   clear hK K
   try simp only [pt]
   refine' tk 8 ?_
   try simp only [pt]
   refine' cm 9 (fun K hK => ?_)
   go_simp
   have kA8 := blk_put kA7 0 (.int .i64 va) rfl
   refine hK.out _ _ ⟨hHeld.out.setCell (p := ⟨gA, 0, none⟩) HGA.out (.int .i64 va)⟩ (fun hHeld => ?_)
   clear hK K
   try simp only [pt]
   refine wpAnyH_done (by kernel_rfl) ?_ _
   go_wp2_with fail
   go_roundg (gk - 1)
   case measure => have := HI.out; omega
   case rel => exact ⟨1, by first | rfl | simp, ⟨by have := HI.out; omega⟩, ⟨hHeld.out⟩, ⟨by simpa using kA8⟩⟩
  ·have kA : wr.heap[gA]? = some (.cells #[.int .i64 va, .int .i64 0, .int .i64 0] 72 (0, 0)) := by simpa using HKA.out
   obtain ⟨⟨⟨y0, y1, y2⟩, ⟨x0, x1, x2, x3⟩⟩, z0⟩ := HC.out wr HB.out
   have a0 := (blk_cell kA 0).trans rfl
   have a1 := (blk_cell kA 1).trans rfl
   have a2 := (blk_cell kA 2).trans rfl
   have BB := Lib.hid (B1.out.trans (HB.out.mono B1.out.size))
   clear HC HB HE HAR HI HGA HKA kA B1 Lka Ika HK z0 y0 y1 y2
   rcases HOP.out with rfl
   all_goals go_wp2
   all_goals
    go_ret
    refine ⟨?_, BB.out⟩
    have hf := HF.out
    have hop := HOP.out
    have hv := HV.out
    clear HV
    clear HF HOP BB x0 x1 x2 x3 a0 a1 a2
    first | (simp_all [oneS, fieldsS]; done) | (simp_all [oneS, fieldsS]; omega) | (rcases hop with rfl <;> rcases hv with rfl | rfl | rfl | rfl <;> simp_all [oneS, fieldsS]; done) | (rcases hop with rfl <;> rcases hv with rfl | rfl | rfl | rfl <;> simp_all [oneS, fieldsS] <;> omega)
theorem rs_node1_8 (hop : op = 8) (hf : fieldsS rw rc rl op n m = true) {ka : Cr} {va : Int} (hl : Lies w (.node op n m at_ cap [ka])) (ika : SortR rw rc rl ka va) :
  Calls Tryz.prog 10 #[.agg #[.int .i64 rw, .int .i64 rc, .int .i64 rl], .agg #[.int .i64 op, .int .i64 n, .int .i64 m, .slice at_ 1 cap]] w fun e w' => e = .returned (.int .i64 (oneS rl op n m va)) ∧ Below w.heap.size w w' := by
 obtain ⟨p, rfl⟩ : ∃ p, at_ = some p := by
  obtain ⟨b, hb, -⟩ := hl.kids.cells (i := 0) (k := ka) rfl
  exact ⟨b, hb⟩
 obtain ⟨w1, e1, b1, k2, k3, s1⟩ := box2 w (.cells #[.int .i64 rw, .int .i64 rc, .int .i64 rl] 38) (.cells #[.int .i64 op, .int .i64 n, .int .i64 m, .slice (some p) 1 cap] 24)
 have HE := Lib.hid e1
 have B1 := Lib.hid b1
 obtain ⟨y0, y1, y2⟩ := room2_cells k2
 obtain ⟨x0, x1, x2, x3⟩ := core_cells k3
 have HK := Lib.hid (hl.below b1).kids
 simp only [Cr.at_, Cr.kids] at HK
 have HC := Lib.hid fun (w' : World) (hb : Below w1.heap.size w1 w') => (show ((w'.cell? ⟨w.heap.size, 0, none⟩ = some (.int .i64 rw) ∧ w'.cell? ⟨w.heap.size, 1, none⟩ = some (.int .i64 rc) ∧ w'.cell? ⟨w.heap.size, 2, none⟩ = some (.int .i64 rl)) ∧ (w'.cell? ⟨w.heap.size + 1, 0, none⟩ = some (.int .i64 op) ∧ w'.cell? ⟨w.heap.size + 1, 1, none⟩ = some (.int .i64 n) ∧ w'.cell? ⟨w.heap.size + 1, 2, none⟩ = some (.int .i64 m) ∧ w'.cell? ⟨w.heap.size + 1, 3, none⟩ = some (.slice (some p) 1 cap))) ∧ (w'.cell? p = some (.int .i64 ka.op) ∧ w'.cell? ⟨p.block, p.off + 1, none⟩ = some (.int .i64 ka.n) ∧ w'.cell? ⟨p.block, p.off + 2, none⟩ = some (.int .i64 ka.m) ∧ w'.cell? ⟨p.block, p.off + 3, none⟩ = some (.slice ka.at_ ka.kids.length ka.cap)) from ⟨⟨room2_cells (blk_below k2 hb), core_cells (blk_below k3 hb)⟩, HK.out.lit0 hb rfl⟩)
 have Lka := Lib.hid (LiesL.lies HK.out (k := ka) (by simp))
 have Ika := Lib.hid ika
 have HAR := Lib.hid (show arityS op = 1 by rcases hop with rfl <;> rfl)
 have HF := Lib.hid hf
 have HOP := Lib.hid hop
 clear hop hf k2 k3 e1 b1 s1 hl ika
 go_enter Tryz.func10, Tryz.ntmps10
 go_wp2_with fail
 rw [HE.out]
 go_wp2_with fail
 refine (arity_calls op _).mono ?_
 rintro e w9 ⟨rfl, hw9⟩
 rw [hw9, HAR.out]
 clear hw9 w9
 go_wp2_with fail
 refine (fields_calls rw rc rl op n m (some p) 1 cap _).mono ?_
 rintro e w2 ⟨rfl, hb2⟩
 rw [HF.out]
 obtain ⟨⟨⟨y0, y1, y2⟩, ⟨x0, x1, x2, x3⟩⟩, z0⟩ := HC.out w2 hb2
 go_wp2_with fail
 obtain ⟨gA, hgA⟩ : ∃ g, w2.heap.size = g := ⟨_, rfl⟩
 have HGA := Lib.hid (show w1.heap.size ≤ gA by rw [← hgA]; exact hb2.size)
 obtain ⟨wA, eA, bA, kA, sA⟩ := box1 w2 (.cells #[.int .i64 0, .int .i64 0, .int .i64 0] 72)
 rw [eA, hgA]
 rw [hgA] at kA
 have HBA := Lib.hid (hb2.trans (bA.mono hb2.size))
 have HKA := Lib.hid kA
 clear eA bA kA sA hgA hb2 y0 y1 y2 x0 x1 x2 x3 z0
 go_loopg [7] 1 (fun gg v7 wr => ∃ i : Nat, v7 = .int .i64 i ∧ Aside0 (i ≤ 1 ∧ 1 - i ≤ gg) ∧ Aside0 (Below w1.heap.size w1 wr) ∧ Aside0 (wr.heap[gA]? = some (.cells #[.int .i64 (if 0 < i then va else 0), .int .i64 0, .int .i64 0] 72 (0, 0))))
 case atStart => exact ⟨0, rfl, ⟨by omega⟩, ⟨HBA.out⟩, ⟨by simpa using HKA.out⟩⟩
 case round =>
  clear HKA HBA
  obtain ⟨i, rfl, hi, BW, hKA⟩ := hrel
  have HI := Lib.hid hi.out
  have HB := Lib.hid BW.out
  have HKA := Lib.hid hKA.out
  clear hi BW hKA
  rcases (show i = 0 ∨ i = 1 by have := HI.out; omega) with rfl | rfl
  ·have kA : wr.heap[gA]? = some (.cells #[.int .i64 0, .int .i64 0, .int .i64 0] 72 (0, 0)) := by simpa using HKA.out
   have kAd : wr.drew.heap[gA]? = some (.cells #[.int .i64 0, .int .i64 0, .int .i64 0] 72 (0, 0)) := kA
   clear HKA kA
   go_wp2_with fail
   refine wp_region_held_drew (S := fun w' => Aside0 (Below w1.heap.size w1 w')) (by kernel_rfl) ?_ (fun hHeld => ?_)
   ·exact ⟨HB.out.drew⟩
   generalize World.drew _ = wDa at hHeld kAd ⊢
   have HCr := HC
   refine' tk 0 ?_
   try simp only [pt]
   refine' tk 1 ?_
   try simp only [pt]
   refine' tk 2 ?_
   try simp only [pt]
   refine' tk 3 ?_
   try simp only [pt]
   refine' tk 4 ?_
   try simp only [pt]
   refine' tk 5 ?_
   try simp only [pt]
   refine' tk 6 ?_
   try simp only [pt]
   refine' cm 7 (fun K hK => ?_)
   go_simp
   refine (Ika.out _ (Lka.out.below hHeld.out)).mono ?_
   rintro e w7 ⟨rfl, hb2⟩
   have kA7 := blk_below kAd hb2
   have xA := (blk_cell kA7 0).trans rfl
   have fA := blk_frozen kA7 0
   refine hK.out _ _ ⟨hHeld.out.trans (hb2.mono hHeld.out.size)⟩ (fun hHeld => ?_)
   clear hK K
   try simp only [pt]
   refine' tk 8 ?_
   try simp only [pt]
   refine' cm 9 (fun K hK => ?_)
   go_simp
   have kA8 := blk_put kA7 0 (.int .i64 va) rfl
   refine hK.out _ _ ⟨hHeld.out.setCell (p := ⟨gA, 0, none⟩) HGA.out (.int .i64 va)⟩ (fun hHeld => ?_)
   clear hK K
   try simp only [pt]
   refine wpAnyH_done (by kernel_rfl) ?_ _
   go_wp2_with fail
   go_roundg (gk - 1)
   case measure => have := HI.out; omega
   case rel => exact ⟨1, by first | rfl | simp, ⟨by have := HI.out; omega⟩, ⟨hHeld.out⟩, ⟨by simpa using kA8⟩⟩
  ·have kA : wr.heap[gA]? = some (.cells #[.int .i64 va, .int .i64 0, .int .i64 0] 72 (0, 0)) := by simpa using HKA.out
   obtain ⟨⟨⟨y0, y1, y2⟩, ⟨x0, x1, x2, x3⟩⟩, z0⟩ := HC.out wr HB.out
   have a0 := (blk_cell kA 0).trans rfl
   have a1 := (blk_cell kA 1).trans rfl
   have a2 := (blk_cell kA 2).trans rfl
   have BB := Lib.hid (B1.out.trans (HB.out.mono B1.out.size))
   clear HC HB HE HAR HI HGA HKA kA B1 Lka Ika HK z0 y0 y1 y2
   rcases HOP.out with rfl
   all_goals go_wp2
   all_goals
    go_ret
    refine ⟨?_, BB.out⟩
    have hf := HF.out
    have hop := HOP.out
    clear HF HOP BB x0 x1 x2 x3 a0 a1 a2
    first | (simp_all [oneS, fieldsS]; done) | (simp_all [oneS, fieldsS]; omega) | (rcases hop with rfl <;> simp_all [oneS, fieldsS]; done) | (rcases hop with rfl <;> simp_all [oneS, fieldsS] <;> omega)
theorem rs_node1_9 (hop : op = 9) (hf : fieldsS rw rc rl op n m = true) {ka : Cr} {va : Int} (hl : Lies w (.node op n m at_ cap [ka])) (ika : SortR rw rc rl ka va) :
  Calls Tryz.prog 10 #[.agg #[.int .i64 rw, .int .i64 rc, .int .i64 rl], .agg #[.int .i64 op, .int .i64 n, .int .i64 m, .slice at_ 1 cap]] w fun e w' => e = .returned (.int .i64 (oneS rl op n m va)) ∧ Below w.heap.size w w' := by
 obtain ⟨p, rfl⟩ : ∃ p, at_ = some p := by
  obtain ⟨b, hb, -⟩ := hl.kids.cells (i := 0) (k := ka) rfl
  exact ⟨b, hb⟩
 obtain ⟨w1, e1, b1, k2, k3, s1⟩ := box2 w (.cells #[.int .i64 rw, .int .i64 rc, .int .i64 rl] 38) (.cells #[.int .i64 op, .int .i64 n, .int .i64 m, .slice (some p) 1 cap] 24)
 have HE := Lib.hid e1
 have B1 := Lib.hid b1
 obtain ⟨y0, y1, y2⟩ := room2_cells k2
 obtain ⟨x0, x1, x2, x3⟩ := core_cells k3
 have HK := Lib.hid (hl.below b1).kids
 simp only [Cr.at_, Cr.kids] at HK
 have HC := Lib.hid fun (w' : World) (hb : Below w1.heap.size w1 w') => (show ((w'.cell? ⟨w.heap.size, 0, none⟩ = some (.int .i64 rw) ∧ w'.cell? ⟨w.heap.size, 1, none⟩ = some (.int .i64 rc) ∧ w'.cell? ⟨w.heap.size, 2, none⟩ = some (.int .i64 rl)) ∧ (w'.cell? ⟨w.heap.size + 1, 0, none⟩ = some (.int .i64 op) ∧ w'.cell? ⟨w.heap.size + 1, 1, none⟩ = some (.int .i64 n) ∧ w'.cell? ⟨w.heap.size + 1, 2, none⟩ = some (.int .i64 m) ∧ w'.cell? ⟨w.heap.size + 1, 3, none⟩ = some (.slice (some p) 1 cap))) ∧ (w'.cell? p = some (.int .i64 ka.op) ∧ w'.cell? ⟨p.block, p.off + 1, none⟩ = some (.int .i64 ka.n) ∧ w'.cell? ⟨p.block, p.off + 2, none⟩ = some (.int .i64 ka.m) ∧ w'.cell? ⟨p.block, p.off + 3, none⟩ = some (.slice ka.at_ ka.kids.length ka.cap)) from ⟨⟨room2_cells (blk_below k2 hb), core_cells (blk_below k3 hb)⟩, HK.out.lit0 hb rfl⟩)
 have Lka := Lib.hid (LiesL.lies HK.out (k := ka) (by simp))
 have Ika := Lib.hid ika
 have HAR := Lib.hid (show arityS op = 1 by rcases hop with rfl <;> rfl)
 have HF := Lib.hid hf
 have HOP := Lib.hid hop
 clear hop hf k2 k3 e1 b1 s1 hl ika
 go_enter Tryz.func10, Tryz.ntmps10
 go_wp2_with fail
 rw [HE.out]
 go_wp2_with fail
 refine (arity_calls op _).mono ?_
 rintro e w9 ⟨rfl, hw9⟩
 rw [hw9, HAR.out]
 clear hw9 w9
 go_wp2_with fail
 refine (fields_calls rw rc rl op n m (some p) 1 cap _).mono ?_
 rintro e w2 ⟨rfl, hb2⟩
 rw [HF.out]
 obtain ⟨⟨⟨y0, y1, y2⟩, ⟨x0, x1, x2, x3⟩⟩, z0⟩ := HC.out w2 hb2
 go_wp2_with fail
 obtain ⟨gA, hgA⟩ : ∃ g, w2.heap.size = g := ⟨_, rfl⟩
 have HGA := Lib.hid (show w1.heap.size ≤ gA by rw [← hgA]; exact hb2.size)
 obtain ⟨wA, eA, bA, kA, sA⟩ := box1 w2 (.cells #[.int .i64 0, .int .i64 0, .int .i64 0] 72)
 rw [eA, hgA]
 rw [hgA] at kA
 have HBA := Lib.hid (hb2.trans (bA.mono hb2.size))
 have HKA := Lib.hid kA
 clear eA bA kA sA hgA hb2 y0 y1 y2 x0 x1 x2 x3 z0
 go_loopg [7] 1 (fun gg v7 wr => ∃ i : Nat, v7 = .int .i64 i ∧ Aside0 (i ≤ 1 ∧ 1 - i ≤ gg) ∧ Aside0 (Below w1.heap.size w1 wr) ∧ Aside0 (wr.heap[gA]? = some (.cells #[.int .i64 (if 0 < i then va else 0), .int .i64 0, .int .i64 0] 72 (0, 0))))
 case atStart => exact ⟨0, rfl, ⟨by omega⟩, ⟨HBA.out⟩, ⟨by simpa using HKA.out⟩⟩
 case round =>
  clear HKA HBA
  obtain ⟨i, rfl, hi, BW, hKA⟩ := hrel
  have HI := Lib.hid hi.out
  have HB := Lib.hid BW.out
  have HKA := Lib.hid hKA.out
  clear hi BW hKA
  rcases (show i = 0 ∨ i = 1 by have := HI.out; omega) with rfl | rfl
  ·have kA : wr.heap[gA]? = some (.cells #[.int .i64 0, .int .i64 0, .int .i64 0] 72 (0, 0)) := by simpa using HKA.out
   have kAd : wr.drew.heap[gA]? = some (.cells #[.int .i64 0, .int .i64 0, .int .i64 0] 72 (0, 0)) := kA
   clear HKA kA
   go_wp2_with fail
   refine wp_region_held_drew (S := fun w' => Aside0 (Below w1.heap.size w1 w')) (by kernel_rfl) ?_ (fun hHeld => ?_)
   ·exact ⟨HB.out.drew⟩
   generalize World.drew _ = wDa at hHeld kAd ⊢
   have HCr := HC
   refine' tk 0 ?_
   try simp only [pt]
   refine' tk 1 ?_
   try simp only [pt]
   refine' tk 2 ?_
   try simp only [pt]
   refine' tk 3 ?_
   try simp only [pt]
   refine' tk 4 ?_
   try simp only [pt]
   refine' tk 5 ?_
   try simp only [pt]
   refine' tk 6 ?_
   try simp only [pt]
   refine' cm 7 (fun K hK => ?_)
   go_simp
   refine (Ika.out _ (Lka.out.below hHeld.out)).mono ?_
   rintro e w7 ⟨rfl, hb2⟩
   have kA7 := blk_below kAd hb2
   have xA := (blk_cell kA7 0).trans rfl
   have fA := blk_frozen kA7 0
   refine hK.out _ _ ⟨hHeld.out.trans (hb2.mono hHeld.out.size)⟩ (fun hHeld => ?_)
   clear hK K
   try simp only [pt]
   refine' tk 8 ?_
   try simp only [pt]
   refine' cm 9 (fun K hK => ?_)
   go_simp
   have kA8 := blk_put kA7 0 (.int .i64 va) rfl
   refine hK.out _ _ ⟨hHeld.out.setCell (p := ⟨gA, 0, none⟩) HGA.out (.int .i64 va)⟩ (fun hHeld => ?_)
   clear hK K
   try simp only [pt]
   refine wpAnyH_done (by kernel_rfl) ?_ _
   go_wp2_with fail
   go_roundg (gk - 1)
   case measure => have := HI.out; omega
   case rel => exact ⟨1, by first | rfl | simp, ⟨by have := HI.out; omega⟩, ⟨hHeld.out⟩, ⟨by simpa using kA8⟩⟩
  ·have kA : wr.heap[gA]? = some (.cells #[.int .i64 va, .int .i64 0, .int .i64 0] 72 (0, 0)) := by simpa using HKA.out
   obtain ⟨⟨⟨y0, y1, y2⟩, ⟨x0, x1, x2, x3⟩⟩, z0⟩ := HC.out wr HB.out
   have a0 := (blk_cell kA 0).trans rfl
   have a1 := (blk_cell kA 1).trans rfl
   have a2 := (blk_cell kA 2).trans rfl
   have BB := Lib.hid (B1.out.trans (HB.out.mono B1.out.size))
   clear HC HB HE HAR HI HGA HKA kA B1 Lka Ika HK z0 y0 y1 y2
   rcases HOP.out with rfl
   all_goals go_wp2
   all_goals
    go_ret
    refine ⟨?_, BB.out⟩
    have hf := HF.out
    have hop := HOP.out
    clear HF HOP BB x0 x1 x2 x3 a0 a1 a2
    first | (simp_all [oneS, fieldsS]; done) | (simp_all [oneS, fieldsS]; omega) | (rcases hop with rfl <;> simp_all [oneS, fieldsS]; done) | (rcases hop with rfl <;> simp_all [oneS, fieldsS] <;> omega)
theorem rs_node1_13 (hop : op = 13) (hf : fieldsS rw rc rl op n m = true) {ka : Cr} {va : Int} (hl : Lies w (.node op n m at_ cap [ka])) (ika : SortR rw rc rl ka va) :
  Calls Tryz.prog 10 #[.agg #[.int .i64 rw, .int .i64 rc, .int .i64 rl], .agg #[.int .i64 op, .int .i64 n, .int .i64 m, .slice at_ 1 cap]] w fun e w' => e = .returned (.int .i64 (oneS rl op n m va)) ∧ Below w.heap.size w w' := by
 obtain ⟨p, rfl⟩ : ∃ p, at_ = some p := by
  obtain ⟨b, hb, -⟩ := hl.kids.cells (i := 0) (k := ka) rfl
  exact ⟨b, hb⟩
 obtain ⟨w1, e1, b1, k2, k3, s1⟩ := box2 w (.cells #[.int .i64 rw, .int .i64 rc, .int .i64 rl] 38) (.cells #[.int .i64 op, .int .i64 n, .int .i64 m, .slice (some p) 1 cap] 24)
 have HE := Lib.hid e1
 have B1 := Lib.hid b1
 obtain ⟨y0, y1, y2⟩ := room2_cells k2
 obtain ⟨x0, x1, x2, x3⟩ := core_cells k3
 have HK := Lib.hid (hl.below b1).kids
 simp only [Cr.at_, Cr.kids] at HK
 have HC := Lib.hid fun (w' : World) (hb : Below w1.heap.size w1 w') => (show ((w'.cell? ⟨w.heap.size, 0, none⟩ = some (.int .i64 rw) ∧ w'.cell? ⟨w.heap.size, 1, none⟩ = some (.int .i64 rc) ∧ w'.cell? ⟨w.heap.size, 2, none⟩ = some (.int .i64 rl)) ∧ (w'.cell? ⟨w.heap.size + 1, 0, none⟩ = some (.int .i64 op) ∧ w'.cell? ⟨w.heap.size + 1, 1, none⟩ = some (.int .i64 n) ∧ w'.cell? ⟨w.heap.size + 1, 2, none⟩ = some (.int .i64 m) ∧ w'.cell? ⟨w.heap.size + 1, 3, none⟩ = some (.slice (some p) 1 cap))) ∧ (w'.cell? p = some (.int .i64 ka.op) ∧ w'.cell? ⟨p.block, p.off + 1, none⟩ = some (.int .i64 ka.n) ∧ w'.cell? ⟨p.block, p.off + 2, none⟩ = some (.int .i64 ka.m) ∧ w'.cell? ⟨p.block, p.off + 3, none⟩ = some (.slice ka.at_ ka.kids.length ka.cap)) from ⟨⟨room2_cells (blk_below k2 hb), core_cells (blk_below k3 hb)⟩, HK.out.lit0 hb rfl⟩)
 have Lka := Lib.hid (LiesL.lies HK.out (k := ka) (by simp))
 have Ika := Lib.hid ika
 have HAR := Lib.hid (show arityS op = 1 by rcases hop with rfl <;> rfl)
 have HF := Lib.hid hf
 have HOP := Lib.hid hop
 clear hop hf k2 k3 e1 b1 s1 hl ika
 go_enter Tryz.func10, Tryz.ntmps10
 go_wp2_with fail
 rw [HE.out]
 go_wp2_with fail
 refine (arity_calls op _).mono ?_
 rintro e w9 ⟨rfl, hw9⟩
 rw [hw9, HAR.out]
 clear hw9 w9
 go_wp2_with fail
 refine (fields_calls rw rc rl op n m (some p) 1 cap _).mono ?_
 rintro e w2 ⟨rfl, hb2⟩
 rw [HF.out]
 obtain ⟨⟨⟨y0, y1, y2⟩, ⟨x0, x1, x2, x3⟩⟩, z0⟩ := HC.out w2 hb2
 go_wp2_with fail
 obtain ⟨gA, hgA⟩ : ∃ g, w2.heap.size = g := ⟨_, rfl⟩
 have HGA := Lib.hid (show w1.heap.size ≤ gA by rw [← hgA]; exact hb2.size)
 obtain ⟨wA, eA, bA, kA, sA⟩ := box1 w2 (.cells #[.int .i64 0, .int .i64 0, .int .i64 0] 72)
 rw [eA, hgA]
 rw [hgA] at kA
 have HBA := Lib.hid (hb2.trans (bA.mono hb2.size))
 have HKA := Lib.hid kA
 clear eA bA kA sA hgA hb2 y0 y1 y2 x0 x1 x2 x3 z0
 go_loopg [7] 1 (fun gg v7 wr => ∃ i : Nat, v7 = .int .i64 i ∧ Aside0 (i ≤ 1 ∧ 1 - i ≤ gg) ∧ Aside0 (Below w1.heap.size w1 wr) ∧ Aside0 (wr.heap[gA]? = some (.cells #[.int .i64 (if 0 < i then va else 0), .int .i64 0, .int .i64 0] 72 (0, 0))))
 case atStart => exact ⟨0, rfl, ⟨by omega⟩, ⟨HBA.out⟩, ⟨by simpa using HKA.out⟩⟩
 case round =>
  clear HKA HBA
  obtain ⟨i, rfl, hi, BW, hKA⟩ := hrel
  have HI := Lib.hid hi.out
  have HB := Lib.hid BW.out
  have HKA := Lib.hid hKA.out
  clear hi BW hKA
  rcases (show i = 0 ∨ i = 1 by have := HI.out; omega) with rfl | rfl
  ·have kA : wr.heap[gA]? = some (.cells #[.int .i64 0, .int .i64 0, .int .i64 0] 72 (0, 0)) := by simpa using HKA.out
   have kAd : wr.drew.heap[gA]? = some (.cells #[.int .i64 0, .int .i64 0, .int .i64 0] 72 (0, 0)) := kA
   clear HKA kA
   go_wp2_with fail
   refine wp_region_held_drew (S := fun w' => Aside0 (Below w1.heap.size w1 w')) (by kernel_rfl) ?_ (fun hHeld => ?_)
   ·exact ⟨HB.out.drew⟩
   generalize World.drew _ = wDa at hHeld kAd ⊢
   have HCr := HC
   refine' tk 0 ?_
   try simp only [pt]
   refine' tk 1 ?_
   try simp only [pt]
   refine' tk 2 ?_
   try simp only [pt]
   refine' tk 3 ?_
   try simp only [pt]
   refine' tk 4 ?_
   try simp only [pt]
   refine' tk 5 ?_
   try simp only [pt]
   refine' tk 6 ?_
   try simp only [pt]
   refine' cm 7 (fun K hK => ?_)
   go_simp
   refine (Ika.out _ (Lka.out.below hHeld.out)).mono ?_
   rintro e w7 ⟨rfl, hb2⟩
   have kA7 := blk_below kAd hb2
   have xA := (blk_cell kA7 0).trans rfl
   have fA := blk_frozen kA7 0
   refine hK.out _ _ ⟨hHeld.out.trans (hb2.mono hHeld.out.size)⟩ (fun hHeld => ?_)
   clear hK K
   try simp only [pt]
   refine' tk 8 ?_
   try simp only [pt]
   refine' cm 9 (fun K hK => ?_)
   go_simp
   have kA8 := blk_put kA7 0 (.int .i64 va) rfl
   refine hK.out _ _ ⟨hHeld.out.setCell (p := ⟨gA, 0, none⟩) HGA.out (.int .i64 va)⟩ (fun hHeld => ?_)
   clear hK K
   try simp only [pt]
   refine wpAnyH_done (by kernel_rfl) ?_ _
   go_wp2_with fail
   go_roundg (gk - 1)
   case measure => have := HI.out; omega
   case rel => exact ⟨1, by first | rfl | simp, ⟨by have := HI.out; omega⟩, ⟨hHeld.out⟩, ⟨by simpa using kA8⟩⟩
  ·have kA : wr.heap[gA]? = some (.cells #[.int .i64 va, .int .i64 0, .int .i64 0] 72 (0, 0)) := by simpa using HKA.out
   obtain ⟨⟨⟨y0, y1, y2⟩, ⟨x0, x1, x2, x3⟩⟩, z0⟩ := HC.out wr HB.out
   have a0 := (blk_cell kA 0).trans rfl
   have a1 := (blk_cell kA 1).trans rfl
   have a2 := (blk_cell kA 2).trans rfl
   have BB := Lib.hid (B1.out.trans (HB.out.mono B1.out.size))
   clear HC HB HE HAR HI HGA HKA kA B1 Lka Ika HK z0 y0 y1 y2
   rcases HOP.out with rfl
   all_goals go_wp2
   all_goals
    go_ret
    refine ⟨?_, BB.out⟩
    have hf := HF.out
    have hop := HOP.out
    clear HF HOP BB x0 x1 x2 x3 a0 a1 a2
    first | (simp_all [oneS, fieldsS]; done) | (simp_all [oneS, fieldsS]; omega) | (rcases hop with rfl <;> simp_all [oneS, fieldsS]; done) | (rcases hop with rfl <;> simp_all [oneS, fieldsS] <;> omega)
theorem rs_node1_30 (hop : op = 30) (hf : fieldsS rw rc rl op n m = true) {ka : Cr} {va : Int} (hl : Lies w (.node op n m at_ cap [ka])) (ika : SortR rw rc rl ka va) :
  Calls Tryz.prog 10 #[.agg #[.int .i64 rw, .int .i64 rc, .int .i64 rl], .agg #[.int .i64 op, .int .i64 n, .int .i64 m, .slice at_ 1 cap]] w fun e w' => e = .returned (.int .i64 (oneS rl op n m va)) ∧ Below w.heap.size w w' := by
 obtain ⟨p, rfl⟩ : ∃ p, at_ = some p := by
  obtain ⟨b, hb, -⟩ := hl.kids.cells (i := 0) (k := ka) rfl
  exact ⟨b, hb⟩
 obtain ⟨w1, e1, b1, k2, k3, s1⟩ := box2 w (.cells #[.int .i64 rw, .int .i64 rc, .int .i64 rl] 38) (.cells #[.int .i64 op, .int .i64 n, .int .i64 m, .slice (some p) 1 cap] 24)
 have HE := Lib.hid e1
 have B1 := Lib.hid b1
 obtain ⟨y0, y1, y2⟩ := room2_cells k2
 obtain ⟨x0, x1, x2, x3⟩ := core_cells k3
 have HK := Lib.hid (hl.below b1).kids
 simp only [Cr.at_, Cr.kids] at HK
 have HC := Lib.hid fun (w' : World) (hb : Below w1.heap.size w1 w') => (show ((w'.cell? ⟨w.heap.size, 0, none⟩ = some (.int .i64 rw) ∧ w'.cell? ⟨w.heap.size, 1, none⟩ = some (.int .i64 rc) ∧ w'.cell? ⟨w.heap.size, 2, none⟩ = some (.int .i64 rl)) ∧ (w'.cell? ⟨w.heap.size + 1, 0, none⟩ = some (.int .i64 op) ∧ w'.cell? ⟨w.heap.size + 1, 1, none⟩ = some (.int .i64 n) ∧ w'.cell? ⟨w.heap.size + 1, 2, none⟩ = some (.int .i64 m) ∧ w'.cell? ⟨w.heap.size + 1, 3, none⟩ = some (.slice (some p) 1 cap))) ∧ (w'.cell? p = some (.int .i64 ka.op) ∧ w'.cell? ⟨p.block, p.off + 1, none⟩ = some (.int .i64 ka.n) ∧ w'.cell? ⟨p.block, p.off + 2, none⟩ = some (.int .i64 ka.m) ∧ w'.cell? ⟨p.block, p.off + 3, none⟩ = some (.slice ka.at_ ka.kids.length ka.cap)) from ⟨⟨room2_cells (blk_below k2 hb), core_cells (blk_below k3 hb)⟩, HK.out.lit0 hb rfl⟩)
 have Lka := Lib.hid (LiesL.lies HK.out (k := ka) (by simp))
 have Ika := Lib.hid ika
 have HAR := Lib.hid (show arityS op = 1 by rcases hop with rfl <;> rfl)
 have HF := Lib.hid hf
 have HOP := Lib.hid hop
 clear hop hf k2 k3 e1 b1 s1 hl ika
 go_enter Tryz.func10, Tryz.ntmps10
 go_wp2_with fail
 rw [HE.out]
 go_wp2_with fail
 refine (arity_calls op _).mono ?_
 rintro e w9 ⟨rfl, hw9⟩
 rw [hw9, HAR.out]
 clear hw9 w9
 go_wp2_with fail
 refine (fields_calls rw rc rl op n m (some p) 1 cap _).mono ?_
 rintro e w2 ⟨rfl, hb2⟩
 rw [HF.out]
 obtain ⟨⟨⟨y0, y1, y2⟩, ⟨x0, x1, x2, x3⟩⟩, z0⟩ := HC.out w2 hb2
 go_wp2_with fail
 obtain ⟨gA, hgA⟩ : ∃ g, w2.heap.size = g := ⟨_, rfl⟩
 have HGA := Lib.hid (show w1.heap.size ≤ gA by rw [← hgA]; exact hb2.size)
 obtain ⟨wA, eA, bA, kA, sA⟩ := box1 w2 (.cells #[.int .i64 0, .int .i64 0, .int .i64 0] 72)
 rw [eA, hgA]
 rw [hgA] at kA
 have HBA := Lib.hid (hb2.trans (bA.mono hb2.size))
 have HKA := Lib.hid kA
 clear eA bA kA sA hgA hb2 y0 y1 y2 x0 x1 x2 x3 z0
 go_loopg [7] 1 (fun gg v7 wr => ∃ i : Nat, v7 = .int .i64 i ∧ Aside0 (i ≤ 1 ∧ 1 - i ≤ gg) ∧ Aside0 (Below w1.heap.size w1 wr) ∧ Aside0 (wr.heap[gA]? = some (.cells #[.int .i64 (if 0 < i then va else 0), .int .i64 0, .int .i64 0] 72 (0, 0))))
 case atStart => exact ⟨0, rfl, ⟨by omega⟩, ⟨HBA.out⟩, ⟨by simpa using HKA.out⟩⟩
 case round =>
  clear HKA HBA
  obtain ⟨i, rfl, hi, BW, hKA⟩ := hrel
  have HI := Lib.hid hi.out
  have HB := Lib.hid BW.out
  have HKA := Lib.hid hKA.out
  clear hi BW hKA
  rcases (show i = 0 ∨ i = 1 by have := HI.out; omega) with rfl | rfl
  ·have kA : wr.heap[gA]? = some (.cells #[.int .i64 0, .int .i64 0, .int .i64 0] 72 (0, 0)) := by simpa using HKA.out
   have kAd : wr.drew.heap[gA]? = some (.cells #[.int .i64 0, .int .i64 0, .int .i64 0] 72 (0, 0)) := kA
   clear HKA kA
   go_wp2_with fail
   refine wp_region_held_drew (S := fun w' => Aside0 (Below w1.heap.size w1 w')) (by kernel_rfl) ?_ (fun hHeld => ?_)
   ·exact ⟨HB.out.drew⟩
   generalize World.drew _ = wDa at hHeld kAd ⊢
   have HCr := HC
   refine' tk 0 ?_
   try simp only [pt]
   refine' tk 1 ?_
   try simp only [pt]
   refine' tk 2 ?_
   try simp only [pt]
   refine' tk 3 ?_
   try simp only [pt]
   refine' tk 4 ?_
   try simp only [pt]
   refine' tk 5 ?_
   try simp only [pt]
   refine' tk 6 ?_
   try simp only [pt]
   refine' cm 7 (fun K hK => ?_)
   go_simp
   refine (Ika.out _ (Lka.out.below hHeld.out)).mono ?_
   rintro e w7 ⟨rfl, hb2⟩
   have kA7 := blk_below kAd hb2
   have xA := (blk_cell kA7 0).trans rfl
   have fA := blk_frozen kA7 0
   refine hK.out _ _ ⟨hHeld.out.trans (hb2.mono hHeld.out.size)⟩ (fun hHeld => ?_)
   clear hK K
   try simp only [pt]
   refine' tk 8 ?_
   try simp only [pt]
   refine' cm 9 (fun K hK => ?_)
   go_simp
   have kA8 := blk_put kA7 0 (.int .i64 va) rfl
   refine hK.out _ _ ⟨hHeld.out.setCell (p := ⟨gA, 0, none⟩) HGA.out (.int .i64 va)⟩ (fun hHeld => ?_)
   clear hK K
   try simp only [pt]
   refine wpAnyH_done (by kernel_rfl) ?_ _
   go_wp2_with fail
   go_roundg (gk - 1)
   case measure => have := HI.out; omega
   case rel => exact ⟨1, by first | rfl | simp, ⟨by have := HI.out; omega⟩, ⟨hHeld.out⟩, ⟨by simpa using kA8⟩⟩
  ·have kA : wr.heap[gA]? = some (.cells #[.int .i64 va, .int .i64 0, .int .i64 0] 72 (0, 0)) := by simpa using HKA.out
   obtain ⟨⟨⟨y0, y1, y2⟩, ⟨x0, x1, x2, x3⟩⟩, z0⟩ := HC.out wr HB.out
   have a0 := (blk_cell kA 0).trans rfl
   have a1 := (blk_cell kA 1).trans rfl
   have a2 := (blk_cell kA 2).trans rfl
   have BB := Lib.hid (B1.out.trans (HB.out.mono B1.out.size))
   clear HC HB HE HAR HI HGA HKA kA B1 Lka Ika HK z0 y0 y1 y2
   rcases HOP.out with rfl
   all_goals go_wp2
   all_goals
    go_ret
    refine ⟨?_, BB.out⟩
    have hf := HF.out
    have hop := HOP.out
    clear HF HOP BB x0 x1 x2 x3 a0 a1 a2
    first | (simp_all [oneS, fieldsS]; done) | (simp_all [oneS, fieldsS]; omega) | (rcases hop with rfl <;> simp_all [oneS, fieldsS]; done) | (rcases hop with rfl <;> simp_all [oneS, fieldsS] <;> omega)
theorem rs_node1_31 (hop : op = 31) (hf : fieldsS rw rc rl op n m = true) {ka : Cr} {va : Int} (hl : Lies w (.node op n m at_ cap [ka])) (ika : SortR rw rc rl ka va) :
  Calls Tryz.prog 10 #[.agg #[.int .i64 rw, .int .i64 rc, .int .i64 rl], .agg #[.int .i64 op, .int .i64 n, .int .i64 m, .slice at_ 1 cap]] w fun e w' => e = .returned (.int .i64 (oneS rl op n m va)) ∧ Below w.heap.size w w' := by
 obtain ⟨p, rfl⟩ : ∃ p, at_ = some p := by
  obtain ⟨b, hb, -⟩ := hl.kids.cells (i := 0) (k := ka) rfl
  exact ⟨b, hb⟩
 obtain ⟨w1, e1, b1, k2, k3, s1⟩ := box2 w (.cells #[.int .i64 rw, .int .i64 rc, .int .i64 rl] 38) (.cells #[.int .i64 op, .int .i64 n, .int .i64 m, .slice (some p) 1 cap] 24)
 have HE := Lib.hid e1
 have B1 := Lib.hid b1
 obtain ⟨y0, y1, y2⟩ := room2_cells k2
 obtain ⟨x0, x1, x2, x3⟩ := core_cells k3
 have HK := Lib.hid (hl.below b1).kids
 simp only [Cr.at_, Cr.kids] at HK
 have HC := Lib.hid fun (w' : World) (hb : Below w1.heap.size w1 w') => (show ((w'.cell? ⟨w.heap.size, 0, none⟩ = some (.int .i64 rw) ∧ w'.cell? ⟨w.heap.size, 1, none⟩ = some (.int .i64 rc) ∧ w'.cell? ⟨w.heap.size, 2, none⟩ = some (.int .i64 rl)) ∧ (w'.cell? ⟨w.heap.size + 1, 0, none⟩ = some (.int .i64 op) ∧ w'.cell? ⟨w.heap.size + 1, 1, none⟩ = some (.int .i64 n) ∧ w'.cell? ⟨w.heap.size + 1, 2, none⟩ = some (.int .i64 m) ∧ w'.cell? ⟨w.heap.size + 1, 3, none⟩ = some (.slice (some p) 1 cap))) ∧ (w'.cell? p = some (.int .i64 ka.op) ∧ w'.cell? ⟨p.block, p.off + 1, none⟩ = some (.int .i64 ka.n) ∧ w'.cell? ⟨p.block, p.off + 2, none⟩ = some (.int .i64 ka.m) ∧ w'.cell? ⟨p.block, p.off + 3, none⟩ = some (.slice ka.at_ ka.kids.length ka.cap)) from ⟨⟨room2_cells (blk_below k2 hb), core_cells (blk_below k3 hb)⟩, HK.out.lit0 hb rfl⟩)
 have Lka := Lib.hid (LiesL.lies HK.out (k := ka) (by simp))
 have Ika := Lib.hid ika
 have HAR := Lib.hid (show arityS op = 1 by rcases hop with rfl <;> rfl)
 have HF := Lib.hid hf
 have HOP := Lib.hid hop
 clear hop hf k2 k3 e1 b1 s1 hl ika
 go_enter Tryz.func10, Tryz.ntmps10
 go_wp2_with fail
 rw [HE.out]
 go_wp2_with fail
 refine (arity_calls op _).mono ?_
 rintro e w9 ⟨rfl, hw9⟩
 rw [hw9, HAR.out]
 clear hw9 w9
 go_wp2_with fail
 refine (fields_calls rw rc rl op n m (some p) 1 cap _).mono ?_
 rintro e w2 ⟨rfl, hb2⟩
 rw [HF.out]
 obtain ⟨⟨⟨y0, y1, y2⟩, ⟨x0, x1, x2, x3⟩⟩, z0⟩ := HC.out w2 hb2
 go_wp2_with fail
 obtain ⟨gA, hgA⟩ : ∃ g, w2.heap.size = g := ⟨_, rfl⟩
 have HGA := Lib.hid (show w1.heap.size ≤ gA by rw [← hgA]; exact hb2.size)
 obtain ⟨wA, eA, bA, kA, sA⟩ := box1 w2 (.cells #[.int .i64 0, .int .i64 0, .int .i64 0] 72)
 rw [eA, hgA]
 rw [hgA] at kA
 have HBA := Lib.hid (hb2.trans (bA.mono hb2.size))
 have HKA := Lib.hid kA
 clear eA bA kA sA hgA hb2 y0 y1 y2 x0 x1 x2 x3 z0
 go_loopg [7] 1 (fun gg v7 wr => ∃ i : Nat, v7 = .int .i64 i ∧ Aside0 (i ≤ 1 ∧ 1 - i ≤ gg) ∧ Aside0 (Below w1.heap.size w1 wr) ∧ Aside0 (wr.heap[gA]? = some (.cells #[.int .i64 (if 0 < i then va else 0), .int .i64 0, .int .i64 0] 72 (0, 0))))
 case atStart => exact ⟨0, rfl, ⟨by omega⟩, ⟨HBA.out⟩, ⟨by simpa using HKA.out⟩⟩
 case round =>
  clear HKA HBA
  obtain ⟨i, rfl, hi, BW, hKA⟩ := hrel
  have HI := Lib.hid hi.out
  have HB := Lib.hid BW.out
  have HKA := Lib.hid hKA.out
  clear hi BW hKA
  rcases (show i = 0 ∨ i = 1 by have := HI.out; omega) with rfl | rfl
  ·have kA : wr.heap[gA]? = some (.cells #[.int .i64 0, .int .i64 0, .int .i64 0] 72 (0, 0)) := by simpa using HKA.out
   have kAd : wr.drew.heap[gA]? = some (.cells #[.int .i64 0, .int .i64 0, .int .i64 0] 72 (0, 0)) := kA
   clear HKA kA
   go_wp2_with fail
   refine wp_region_held_drew (S := fun w' => Aside0 (Below w1.heap.size w1 w')) (by kernel_rfl) ?_ (fun hHeld => ?_)
   ·exact ⟨HB.out.drew⟩
   generalize World.drew _ = wDa at hHeld kAd ⊢
   have HCr := HC
   refine' tk 0 ?_
   try simp only [pt]
   refine' tk 1 ?_
   try simp only [pt]
   refine' tk 2 ?_
   try simp only [pt]
   refine' tk 3 ?_
   try simp only [pt]
   refine' tk 4 ?_
   try simp only [pt]
   refine' tk 5 ?_
   try simp only [pt]
   refine' tk 6 ?_
   try simp only [pt]
   refine' cm 7 (fun K hK => ?_)
   go_simp
   refine (Ika.out _ (Lka.out.below hHeld.out)).mono ?_
   rintro e w7 ⟨rfl, hb2⟩
   have kA7 := blk_below kAd hb2
   have xA := (blk_cell kA7 0).trans rfl
   have fA := blk_frozen kA7 0
   refine hK.out _ _ ⟨hHeld.out.trans (hb2.mono hHeld.out.size)⟩ (fun hHeld => ?_)
   clear hK K
   try simp only [pt]
   refine' tk 8 ?_
   try simp only [pt]
   refine' cm 9 (fun K hK => ?_)
   go_simp
   have kA8 := blk_put kA7 0 (.int .i64 va) rfl
   refine hK.out _ _ ⟨hHeld.out.setCell (p := ⟨gA, 0, none⟩) HGA.out (.int .i64 va)⟩ (fun hHeld => ?_)
   clear hK K
   try simp only [pt]
   refine wpAnyH_done (by kernel_rfl) ?_ _
   go_wp2_with fail
   go_roundg (gk - 1)
   case measure => have := HI.out; omega
   case rel => exact ⟨1, by first | rfl | simp, ⟨by have := HI.out; omega⟩, ⟨hHeld.out⟩, ⟨by simpa using kA8⟩⟩
  ·have kA : wr.heap[gA]? = some (.cells #[.int .i64 va, .int .i64 0, .int .i64 0] 72 (0, 0)) := by simpa using HKA.out
   obtain ⟨⟨⟨y0, y1, y2⟩, ⟨x0, x1, x2, x3⟩⟩, z0⟩ := HC.out wr HB.out
   have a0 := (blk_cell kA 0).trans rfl
   have a1 := (blk_cell kA 1).trans rfl
   have a2 := (blk_cell kA 2).trans rfl
   have BB := Lib.hid (B1.out.trans (HB.out.mono B1.out.size))
   clear HC HB HE HAR HI HGA HKA kA B1 Lka Ika HK z0 y0 y1 y2
   rcases HOP.out with rfl
   all_goals go_wp2
   all_goals
    go_ret
    refine ⟨?_, BB.out⟩
    have hf := HF.out
    have hop := HOP.out
    clear HF HOP BB x0 x1 x2 x3 a0 a1 a2
    first | (simp_all [oneS, fieldsS]; done) | (simp_all [oneS, fieldsS]; omega) | (rcases hop with rfl <;> simp_all [oneS, fieldsS]; done) | (rcases hop with rfl <;> simp_all [oneS, fieldsS] <;> omega)
theorem rs_node1_x (hop : op = 10 ∨ op = 11 ∨ op = 12) (hf : fieldsS rw rc rl op n m = true) {ka : Cr} {va : Int} (hl : Lies w (.node op n m at_ cap [ka])) (ika : SortR rw rc rl ka va) :
  Calls Tryz.prog 10 #[.agg #[.int .i64 rw, .int .i64 rc, .int .i64 rl], .agg #[.int .i64 op, .int .i64 n, .int .i64 m, .slice at_ 1 cap]] w fun e w' => e = .returned (.int .i64 (oneS rl op n m va)) ∧ Below w.heap.size w w' := by
 obtain ⟨p, rfl⟩ : ∃ p, at_ = some p := by
  obtain ⟨b, hb, -⟩ := hl.kids.cells (i := 0) (k := ka) rfl
  exact ⟨b, hb⟩
 obtain ⟨w1, e1, b1, k2, k3, s1⟩ := box2 w (.cells #[.int .i64 rw, .int .i64 rc, .int .i64 rl] 38) (.cells #[.int .i64 op, .int .i64 n, .int .i64 m, .slice (some p) 1 cap] 24)
 have HE := Lib.hid e1
 have B1 := Lib.hid b1
 obtain ⟨y0, y1, y2⟩ := room2_cells k2
 obtain ⟨x0, x1, x2, x3⟩ := core_cells k3
 have HK := Lib.hid (hl.below b1).kids
 simp only [Cr.at_, Cr.kids] at HK
 have HC := Lib.hid fun (w' : World) (hb : Below w1.heap.size w1 w') => (show ((w'.cell? ⟨w.heap.size, 0, none⟩ = some (.int .i64 rw) ∧ w'.cell? ⟨w.heap.size, 1, none⟩ = some (.int .i64 rc) ∧ w'.cell? ⟨w.heap.size, 2, none⟩ = some (.int .i64 rl)) ∧ (w'.cell? ⟨w.heap.size + 1, 0, none⟩ = some (.int .i64 op) ∧ w'.cell? ⟨w.heap.size + 1, 1, none⟩ = some (.int .i64 n) ∧ w'.cell? ⟨w.heap.size + 1, 2, none⟩ = some (.int .i64 m) ∧ w'.cell? ⟨w.heap.size + 1, 3, none⟩ = some (.slice (some p) 1 cap))) ∧ (w'.cell? p = some (.int .i64 ka.op) ∧ w'.cell? ⟨p.block, p.off + 1, none⟩ = some (.int .i64 ka.n) ∧ w'.cell? ⟨p.block, p.off + 2, none⟩ = some (.int .i64 ka.m) ∧ w'.cell? ⟨p.block, p.off + 3, none⟩ = some (.slice ka.at_ ka.kids.length ka.cap)) from ⟨⟨room2_cells (blk_below k2 hb), core_cells (blk_below k3 hb)⟩, HK.out.lit0 hb rfl⟩)
 have Lka := Lib.hid (LiesL.lies HK.out (k := ka) (by simp))
 have Ika := Lib.hid ika
 have HAR := Lib.hid (show arityS op = 1 by rcases hop with rfl | rfl | rfl <;> rfl)
 have HF := Lib.hid hf
 have HOP := Lib.hid hop
 have p1 : (op == 1) = false := by simp; omega
 have p2 : (op == 2) = false := by simp; omega
 have p3 : (op == 3) = false := by simp; omega
 have p4 : (op == 4) = false := by simp; omega
 have p5 : (op == 5) = false := by simp; omega
 have p6 : (op == 6) = false := by simp; omega
 have p7 : (op == 7) = false := by simp; omega
 have p9 : (op == 9) = false := by simp; omega
 have p23 : (op == 23) = false := by simp; omega
 have p24 : (op == 24) = false := by simp; omega
 have p25 : (op == 25) = false := by simp; omega
 have p26 : (op == 26) = false := by simp; omega
 have p27 : (op == 27) = false := by simp; omega
 have p28 : (op == 28) = false := by simp; omega
 have p29 : (op == 29) = false := by simp; omega
 have p30 : (op == 30) = false := by simp; omega
 have p31 : (op == 31) = false := by simp; omega
 have p90 : (op != 9) = true := by simp; omega
 have r1 : (18 ≤ op) = False := eq_false (by omega)
 have r2 : (8 ≤ op) = True := eq_true (by omega)
 have r3 : (op ≤ 17) = True := eq_true (by omega)
 clear hop hf k2 k3 e1 b1 s1 hl ika
 go_enter Tryz.func10, Tryz.ntmps10
 go_wp2_with fail
 rw [HE.out]
 go_wp2_with fail
 refine (arity_calls op _).mono ?_
 rintro e w9 ⟨rfl, hw9⟩
 rw [hw9, HAR.out]
 clear hw9 w9
 go_wp2_with fail
 refine (fields_calls rw rc rl op n m (some p) 1 cap _).mono ?_
 rintro e w2 ⟨rfl, hb2⟩
 rw [HF.out]
 obtain ⟨⟨⟨y0, y1, y2⟩, ⟨x0, x1, x2, x3⟩⟩, z0⟩ := HC.out w2 hb2
 go_wp2_with fail
 obtain ⟨gA, hgA⟩ : ∃ g, w2.heap.size = g := ⟨_, rfl⟩
 have HGA := Lib.hid (show w1.heap.size ≤ gA by rw [← hgA]; exact hb2.size)
 obtain ⟨wA, eA, bA, kA, sA⟩ := box1 w2 (.cells #[.int .i64 0, .int .i64 0, .int .i64 0] 72)
 rw [eA, hgA]
 rw [hgA] at kA
 have HBA := Lib.hid (hb2.trans (bA.mono hb2.size))
 have HKA := Lib.hid kA
 clear eA bA kA sA hgA hb2 y0 y1 y2 x0 x1 x2 x3 z0
 go_loopg [7] 1 (fun gg v7 wr => ∃ i : Nat, v7 = .int .i64 i ∧ Aside0 (i ≤ 1 ∧ 1 - i ≤ gg) ∧ Aside0 (Below w1.heap.size w1 wr) ∧ Aside0 (wr.heap[gA]? = some (.cells #[.int .i64 (if 0 < i then va else 0), .int .i64 0, .int .i64 0] 72 (0, 0))))
 case atStart => exact ⟨0, rfl, ⟨by omega⟩, ⟨HBA.out⟩, ⟨by simpa using HKA.out⟩⟩
 case round =>
  clear HKA HBA
  obtain ⟨i, rfl, hi, BW, hKA⟩ := hrel
  have HI := Lib.hid hi.out
  have HB := Lib.hid BW.out
  have HKA := Lib.hid hKA.out
  clear hi BW hKA
  rcases (show i = 0 ∨ i = 1 by have := HI.out; omega) with rfl | rfl
  ·have kA : wr.heap[gA]? = some (.cells #[.int .i64 0, .int .i64 0, .int .i64 0] 72 (0, 0)) := by simpa using HKA.out
   have kAd : wr.drew.heap[gA]? = some (.cells #[.int .i64 0, .int .i64 0, .int .i64 0] 72 (0, 0)) := kA
   clear HKA kA
   go_wp2_with fail
   refine wp_region_held_drew (S := fun w' => Aside0 (Below w1.heap.size w1 w')) (by kernel_rfl) ?_ (fun hHeld => ?_)
   ·exact ⟨HB.out.drew⟩
   generalize World.drew _ = wDa at hHeld kAd ⊢
   have HCr := HC
   refine' tk 0 ?_
   try simp only [pt]
   refine' tk 1 ?_
   try simp only [pt]
   refine' tk 2 ?_
   try simp only [pt]
   refine' tk 3 ?_
   try simp only [pt]
   refine' tk 4 ?_
   try simp only [pt]
   refine' tk 5 ?_
   try simp only [pt]
   refine' tk 6 ?_
   try simp only [pt]
   refine' cm 7 (fun K hK => ?_)
   go_simp
   refine (Ika.out _ (Lka.out.below hHeld.out)).mono ?_
   rintro e w7 ⟨rfl, hb2⟩
   have kA7 := blk_below kAd hb2
   have xA := (blk_cell kA7 0).trans rfl
   have fA := blk_frozen kA7 0
   refine hK.out _ _ ⟨hHeld.out.trans (hb2.mono hHeld.out.size)⟩ (fun hHeld => ?_)
   clear hK K
   try simp only [pt]
   refine' tk 8 ?_
   try simp only [pt]
   refine' cm 9 (fun K hK => ?_)
   go_simp
   have kA8 := blk_put kA7 0 (.int .i64 va) rfl
   refine hK.out _ _ ⟨hHeld.out.setCell (p := ⟨gA, 0, none⟩) HGA.out (.int .i64 va)⟩ (fun hHeld => ?_)
   clear hK K
   try simp only [pt]
   refine wpAnyH_done (by kernel_rfl) ?_ _
   go_wp2_with fail
   go_roundg (gk - 1)
   case measure => have := HI.out; omega
   case rel => exact ⟨1, by first | rfl | simp, ⟨by have := HI.out; omega⟩, ⟨hHeld.out⟩, ⟨by simpa using kA8⟩⟩
  ·have kA : wr.heap[gA]? = some (.cells #[.int .i64 va, .int .i64 0, .int .i64 0] 72 (0, 0)) := by simpa using HKA.out
   obtain ⟨⟨⟨y0, y1, y2⟩, ⟨x0, x1, x2, x3⟩⟩, z0⟩ := HC.out wr HB.out
   have a0 := (blk_cell kA 0).trans rfl
   have a1 := (blk_cell kA 1).trans rfl
   have a2 := (blk_cell kA 2).trans rfl
   have BB := Lib.hid (B1.out.trans (HB.out.mono B1.out.size))
   clear HC HB HE HAR HI HGA HKA kA B1 Lka Ika HK z0 y0 y1 y2
   all_goals go_wp2
   all_goals
    go_ret
    refine ⟨?_, BB.out⟩
    have hf := HF.out
    have hop := HOP.out
    clear HF HOP BB x0 x1 x2 x3 a0 a1 a2
    first | (simp_all [oneS, fieldsS]; done) | (simp_all [oneS, fieldsS]; omega) | (rcases hop with rfl | rfl | rfl <;> simp_all [oneS, fieldsS]; done) | (rcases hop with rfl | rfl | rfl <;> simp_all [oneS, fieldsS] <;> omega)
end
end Go.Proofs.YtpljkcakijkklaaGreatDoor

end
section
namespace Go.Proofs.YtpljkcakijkklaaGreatDoor
set_option linter.unusedVariables false
set_option linter.unusedSimpArgs false
open Go.RowKit Go.Proofs.YtpljkcakijkklaaGreatDoorW.PrintWords Go.Proofs.YtpljkcakijkklaaGreatDoorW.PrintLast Go.Proofs.YtpljkcakijkklaaGreatDoorW.PrintMore

section
variable {rw rc rl op n m : Int} {at_ : Option Addr} {cap : Nat} {w : World}
theorem rs_node2_25 (hop : op = 25) (hf : fieldsS rw rc rl op n m = true) {ka kb : Cr} {va vb : Int} (hl : Lies w (.node op n m at_ cap [ka, kb])) (ika : SortR rw rc rl ka va) (ikb : SortR rw rc rl kb vb) {s : Cr → Int} (eka : s ka = va) (ekb : s kb = vb) :
  Calls Tryz.prog 10 #[.agg #[.int .i64 rw, .int .i64 rc, .int .i64 rl], .agg #[.int .i64 op, .int .i64 n, .int .i64 m, .slice at_ 2 cap]] w fun e w' => e = .returned (.int .i64 (moreS s op n m [ka, kb])) ∧ Below w.heap.size w w' := by
 obtain ⟨p, rfl⟩ : ∃ p, at_ = some p := by
  obtain ⟨b, hb, -⟩ := hl.kids.cells (i := 0) (k := ka) rfl
  exact ⟨b, hb⟩
 obtain ⟨w1, e1, b1, k2, k3, s1⟩ := box2 w (.cells #[.int .i64 rw, .int .i64 rc, .int .i64 rl] 38) (.cells #[.int .i64 op, .int .i64 n, .int .i64 m, .slice (some p) 2 cap] 24)
 have HE := Lib.hid e1
 have B1 := Lib.hid b1
 obtain ⟨y0, y1, y2⟩ := room2_cells k2
 obtain ⟨x0, x1, x2, x3⟩ := core_cells k3
 have HK := Lib.hid (hl.below b1).kids
 simp only [Cr.at_, Cr.kids] at HK
 have HC := Lib.hid fun (w' : World) (hb : Below w1.heap.size w1 w') => (show ((w'.cell? ⟨w.heap.size, 0, none⟩ = some (.int .i64 rw) ∧ w'.cell? ⟨w.heap.size, 1, none⟩ = some (.int .i64 rc) ∧ w'.cell? ⟨w.heap.size, 2, none⟩ = some (.int .i64 rl)) ∧ (w'.cell? ⟨w.heap.size + 1, 0, none⟩ = some (.int .i64 op) ∧ w'.cell? ⟨w.heap.size + 1, 1, none⟩ = some (.int .i64 n) ∧ w'.cell? ⟨w.heap.size + 1, 2, none⟩ = some (.int .i64 m) ∧ w'.cell? ⟨w.heap.size + 1, 3, none⟩ = some (.slice (some p) 2 cap))) ∧ (w'.cell? p = some (.int .i64 ka.op) ∧ w'.cell? ⟨p.block, p.off + 1, none⟩ = some (.int .i64 ka.n) ∧ w'.cell? ⟨p.block, p.off + 2, none⟩ = some (.int .i64 ka.m) ∧ w'.cell? ⟨p.block, p.off + 3, none⟩ = some (.slice ka.at_ ka.kids.length ka.cap)) ∧ (w'.cell? ⟨p.block, p.off + 4, none⟩ = some (.int .i64 kb.op) ∧ w'.cell? ⟨p.block, p.off + 4 + 1, none⟩ = some (.int .i64 kb.n) ∧ w'.cell? ⟨p.block, p.off + 4 + 2, none⟩ = some (.int .i64 kb.m) ∧ w'.cell? ⟨p.block, p.off + 4 + 3, none⟩ = some (.slice kb.at_ kb.kids.length kb.cap)) from ⟨⟨room2_cells (blk_below k2 hb), core_cells (blk_below k3 hb)⟩, HK.out.lit0 hb rfl, HK.out.lit hb 0 rfl⟩)
 have Lka := Lib.hid (LiesL.lies HK.out (k := ka) (by simp))
 have Ika := Lib.hid ika
 have Lkb := Lib.hid (LiesL.lies HK.out (k := kb) (by simp))
 have Ikb := Lib.hid ikb
 have HAR := Lib.hid (show arityS op = 2 by rcases hop with rfl <;> rfl)
 have HF := Lib.hid hf
 have HOP := Lib.hid hop
 have Eka := Lib.hid eka
 have Ekb := Lib.hid ekb
 clear eka ekb
 clear hop hf k2 k3 e1 b1 s1 hl ika ikb
 go_enter Tryz.func10, Tryz.ntmps10
 go_wp2_with fail
 rw [HE.out]
 go_wp2_with fail
 refine (arity_calls op _).mono ?_
 rintro e w9 ⟨rfl, hw9⟩
 rw [hw9, HAR.out]
 clear hw9 w9
 go_wp2_with fail
 refine (fields_calls rw rc rl op n m (some p) 2 cap _).mono ?_
 rintro e w2 ⟨rfl, hb2⟩
 rw [HF.out]
 obtain ⟨⟨⟨y0, y1, y2⟩, ⟨x0, x1, x2, x3⟩⟩, z0, z1⟩ := HC.out w2 hb2
 go_wp2_with fail
 obtain ⟨gA, hgA⟩ : ∃ g, w2.heap.size = g := ⟨_, rfl⟩
 have HGA := Lib.hid (show w1.heap.size ≤ gA by rw [← hgA]; exact hb2.size)
 obtain ⟨wA, eA, bA, kA, sA⟩ := box1 w2 (.cells #[.int .i64 0, .int .i64 0, .int .i64 0] 72)
 rw [eA, hgA]
 rw [hgA] at kA
 have HBA := Lib.hid (hb2.trans (bA.mono hb2.size))
 have HKA := Lib.hid kA
 clear eA bA kA sA hgA hb2 y0 y1 y2 x0 x1 x2 x3 z0 z1
 go_loopg [7] 2 (fun gg v7 wr => ∃ i : Nat, v7 = .int .i64 i ∧ Aside0 (i ≤ 2 ∧ 2 - i ≤ gg) ∧ Aside0 (Below w1.heap.size w1 wr) ∧ Aside0 (wr.heap[gA]? = some (.cells #[.int .i64 (if 0 < i then va else 0), .int .i64 (if 1 < i then vb else 0), .int .i64 0] 72 (0, 0))))
 case atStart => exact ⟨0, rfl, ⟨by omega⟩, ⟨HBA.out⟩, ⟨by simpa using HKA.out⟩⟩
 case round =>
  clear HKA HBA
  obtain ⟨i, rfl, hi, BW, hKA⟩ := hrel
  have HI := Lib.hid hi.out
  have HB := Lib.hid BW.out
  have HKA := Lib.hid hKA.out
  clear hi BW hKA
  rcases (show i = 0 ∨ i = 1 ∨ i = 2 by have := HI.out; omega) with rfl | rfl | rfl
  ·have kA : wr.heap[gA]? = some (.cells #[.int .i64 0, .int .i64 0, .int .i64 0] 72 (0, 0)) := by simpa using HKA.out
   have kAd : wr.drew.heap[gA]? = some (.cells #[.int .i64 0, .int .i64 0, .int .i64 0] 72 (0, 0)) := kA
   clear HKA kA
   go_wp2_with fail
   refine wp_region_held_drew (S := fun w' => Aside0 (Below w1.heap.size w1 w')) (by kernel_rfl) ?_ (fun hHeld => ?_)
   ·exact ⟨HB.out.drew⟩
   generalize World.drew _ = wDa at hHeld kAd ⊢
   have HCr := HC
   refine' tk 0 ?_
   try simp only [pt]
   refine' tk 1 ?_
   try simp only [pt]
   refine' tk 2 ?_
   try simp only [pt]
   refine' tk 3 ?_
   try simp only [pt]
   refine' tk 4 ?_
   try simp only [pt]
   refine' tk 5 ?_
   try simp only [pt]
   refine' tk 6 ?_
   try simp only [pt]
   refine' cm 7 (fun K hK => ?_)
   go_simp
   refine (Ika.out _ (Lka.out.below hHeld.out)).mono ?_
   rintro e w7 ⟨rfl, hb2⟩
   have kA7 := blk_below kAd hb2
   have xA := (blk_cell kA7 0).trans rfl
   have fA := blk_frozen kA7 0
   refine hK.out _ _ ⟨hHeld.out.trans (hb2.mono hHeld.out.size)⟩ (fun hHeld => ?_)
   clear hK K
   try simp only [pt]
   refine' tk 8 ?_
   try simp only [pt]
   refine' cm 9 (fun K hK => ?_)
   go_simp
   have kA8 := blk_put kA7 0 (.int .i64 va) rfl
   refine hK.out _ _ ⟨hHeld.out.setCell (p := ⟨gA, 0, none⟩) HGA.out (.int .i64 va)⟩ (fun hHeld => ?_)
   clear hK K
   try simp only [pt]
   refine wpAnyH_done (by kernel_rfl) ?_ _
   go_wp2_with fail
   go_roundg (gk - 1)
   case measure => have := HI.out; omega
   case rel => exact ⟨1, by first | rfl | simp, ⟨by have := HI.out; omega⟩, ⟨hHeld.out⟩, ⟨by simpa using kA8⟩⟩
  ·have kA : wr.heap[gA]? = some (.cells #[.int .i64 va, .int .i64 0, .int .i64 0] 72 (0, 0)) := by simpa using HKA.out
   have kAd : wr.drew.heap[gA]? = some (.cells #[.int .i64 va, .int .i64 0, .int .i64 0] 72 (0, 0)) := kA
   clear HKA kA
   go_wp2_with fail
   refine wp_region_held_drew (S := fun w' => Aside0 (Below w1.heap.size w1 w')) (by kernel_rfl) ?_ (fun hHeld => ?_)
   ·exact ⟨HB.out.drew⟩
   generalize World.drew _ = wDb at hHeld kAd ⊢
   have HCr := HC
   refine' tk 0 ?_
   try simp only [pt]
   refine' tk 1 ?_
   try simp only [pt]
   refine' tk 2 ?_
   try simp only [pt]
   refine' tk 3 ?_
   try simp only [pt]
   refine' tk 4 ?_
   try simp only [pt]
   refine' tk 5 ?_
   try simp only [pt]
   refine' tk 6 ?_
   try simp only [pt]
   refine' cm 7 (fun K hK => ?_)
   go_simp
   refine (Ikb.out _ (Lkb.out.below hHeld.out)).mono ?_
   rintro e w7 ⟨rfl, hb2⟩
   have kA7 := blk_below kAd hb2
   have xA := (blk_cell kA7 1).trans rfl
   have fA := blk_frozen kA7 1
   refine hK.out _ _ ⟨hHeld.out.trans (hb2.mono hHeld.out.size)⟩ (fun hHeld => ?_)
   clear hK K
   try simp only [pt]
   refine' tk 8 ?_
   try simp only [pt]
   refine' cm 9 (fun K hK => ?_)
   go_simp
   have kA8 := blk_put kA7 1 (.int .i64 vb) rfl
   refine hK.out _ _ ⟨hHeld.out.setCell (p := ⟨gA, 1, none⟩) HGA.out (.int .i64 vb)⟩ (fun hHeld => ?_)
   clear hK K
   try simp only [pt]
   refine wpAnyH_done (by kernel_rfl) ?_ _
   go_wp2_with fail
   go_roundg (gk - 1)
   case measure => have := HI.out; omega
   case rel => exact ⟨2, by first | rfl | simp, ⟨by have := HI.out; omega⟩, ⟨hHeld.out⟩, ⟨by simpa using kA8⟩⟩
  ·have kA : wr.heap[gA]? = some (.cells #[.int .i64 va, .int .i64 vb, .int .i64 0] 72 (0, 0)) := by simpa using HKA.out
   obtain ⟨⟨⟨y0, y1, y2⟩, ⟨x0, x1, x2, x3⟩⟩, z0, z1⟩ := HC.out wr HB.out
   have a0 := (blk_cell kA 0).trans rfl
   have a1 := (blk_cell kA 1).trans rfl
   have a2 := (blk_cell kA 2).trans rfl
   have BB := Lib.hid (B1.out.trans (HB.out.mono B1.out.size))
   clear HC HB HE HAR HI HGA HKA kA B1 Lka Ika Lkb Ikb HK z0 z1 y0 y1 y2
   rcases HOP.out with rfl
   all_goals go_wp2
   all_goals
    go_ret
    refine ⟨?_, BB.out⟩
    have hf := HF.out
    have hop := HOP.out
    have eka := Eka.out
    have ekb := Ekb.out
    clear HF HOP BB x0 x1 x2 x3 a0 a1 a2
    first | (simp_all [moreS, twoS, fieldsS]; done) | (simp_all [moreS, twoS, fieldsS]; omega) | (rcases hop with rfl <;> simp_all [moreS, twoS, fieldsS]; done) | (rcases hop with rfl <;> simp_all [moreS, twoS, fieldsS] <;> omega)
theorem rs_node2_26 (hop : op = 26) (hf : fieldsS rw rc rl op n m = true) {ka kb : Cr} {va vb : Int} (hl : Lies w (.node op n m at_ cap [ka, kb])) (ika : SortR rw rc rl ka va) (ikb : SortR rw rc rl kb vb) {s : Cr → Int} (eka : s ka = va) (ekb : s kb = vb) :
  Calls Tryz.prog 10 #[.agg #[.int .i64 rw, .int .i64 rc, .int .i64 rl], .agg #[.int .i64 op, .int .i64 n, .int .i64 m, .slice at_ 2 cap]] w fun e w' => e = .returned (.int .i64 (moreS s op n m [ka, kb])) ∧ Below w.heap.size w w' := by
 obtain ⟨p, rfl⟩ : ∃ p, at_ = some p := by
  obtain ⟨b, hb, -⟩ := hl.kids.cells (i := 0) (k := ka) rfl
  exact ⟨b, hb⟩
 obtain ⟨w1, e1, b1, k2, k3, s1⟩ := box2 w (.cells #[.int .i64 rw, .int .i64 rc, .int .i64 rl] 38) (.cells #[.int .i64 op, .int .i64 n, .int .i64 m, .slice (some p) 2 cap] 24)
 have HE := Lib.hid e1
 have B1 := Lib.hid b1
 obtain ⟨y0, y1, y2⟩ := room2_cells k2
 obtain ⟨x0, x1, x2, x3⟩ := core_cells k3
 have HK := Lib.hid (hl.below b1).kids
 simp only [Cr.at_, Cr.kids] at HK
 have HC := Lib.hid fun (w' : World) (hb : Below w1.heap.size w1 w') => (show ((w'.cell? ⟨w.heap.size, 0, none⟩ = some (.int .i64 rw) ∧ w'.cell? ⟨w.heap.size, 1, none⟩ = some (.int .i64 rc) ∧ w'.cell? ⟨w.heap.size, 2, none⟩ = some (.int .i64 rl)) ∧ (w'.cell? ⟨w.heap.size + 1, 0, none⟩ = some (.int .i64 op) ∧ w'.cell? ⟨w.heap.size + 1, 1, none⟩ = some (.int .i64 n) ∧ w'.cell? ⟨w.heap.size + 1, 2, none⟩ = some (.int .i64 m) ∧ w'.cell? ⟨w.heap.size + 1, 3, none⟩ = some (.slice (some p) 2 cap))) ∧ (w'.cell? p = some (.int .i64 ka.op) ∧ w'.cell? ⟨p.block, p.off + 1, none⟩ = some (.int .i64 ka.n) ∧ w'.cell? ⟨p.block, p.off + 2, none⟩ = some (.int .i64 ka.m) ∧ w'.cell? ⟨p.block, p.off + 3, none⟩ = some (.slice ka.at_ ka.kids.length ka.cap)) ∧ (w'.cell? ⟨p.block, p.off + 4, none⟩ = some (.int .i64 kb.op) ∧ w'.cell? ⟨p.block, p.off + 4 + 1, none⟩ = some (.int .i64 kb.n) ∧ w'.cell? ⟨p.block, p.off + 4 + 2, none⟩ = some (.int .i64 kb.m) ∧ w'.cell? ⟨p.block, p.off + 4 + 3, none⟩ = some (.slice kb.at_ kb.kids.length kb.cap)) from ⟨⟨room2_cells (blk_below k2 hb), core_cells (blk_below k3 hb)⟩, HK.out.lit0 hb rfl, HK.out.lit hb 0 rfl⟩)
 have Lka := Lib.hid (LiesL.lies HK.out (k := ka) (by simp))
 have Ika := Lib.hid ika
 have Lkb := Lib.hid (LiesL.lies HK.out (k := kb) (by simp))
 have Ikb := Lib.hid ikb
 have HAR := Lib.hid (show arityS op = 2 by rcases hop with rfl <;> rfl)
 have HF := Lib.hid hf
 have HOP := Lib.hid hop
 have Eka := Lib.hid eka
 have Ekb := Lib.hid ekb
 clear eka ekb
 clear hop hf k2 k3 e1 b1 s1 hl ika ikb
 go_enter Tryz.func10, Tryz.ntmps10
 go_wp2_with fail
 rw [HE.out]
 go_wp2_with fail
 refine (arity_calls op _).mono ?_
 rintro e w9 ⟨rfl, hw9⟩
 rw [hw9, HAR.out]
 clear hw9 w9
 go_wp2_with fail
 refine (fields_calls rw rc rl op n m (some p) 2 cap _).mono ?_
 rintro e w2 ⟨rfl, hb2⟩
 rw [HF.out]
 obtain ⟨⟨⟨y0, y1, y2⟩, ⟨x0, x1, x2, x3⟩⟩, z0, z1⟩ := HC.out w2 hb2
 go_wp2_with fail
 obtain ⟨gA, hgA⟩ : ∃ g, w2.heap.size = g := ⟨_, rfl⟩
 have HGA := Lib.hid (show w1.heap.size ≤ gA by rw [← hgA]; exact hb2.size)
 obtain ⟨wA, eA, bA, kA, sA⟩ := box1 w2 (.cells #[.int .i64 0, .int .i64 0, .int .i64 0] 72)
 rw [eA, hgA]
 rw [hgA] at kA
 have HBA := Lib.hid (hb2.trans (bA.mono hb2.size))
 have HKA := Lib.hid kA
 clear eA bA kA sA hgA hb2 y0 y1 y2 x0 x1 x2 x3 z0 z1
 go_loopg [7] 2 (fun gg v7 wr => ∃ i : Nat, v7 = .int .i64 i ∧ Aside0 (i ≤ 2 ∧ 2 - i ≤ gg) ∧ Aside0 (Below w1.heap.size w1 wr) ∧ Aside0 (wr.heap[gA]? = some (.cells #[.int .i64 (if 0 < i then va else 0), .int .i64 (if 1 < i then vb else 0), .int .i64 0] 72 (0, 0))))
 case atStart => exact ⟨0, rfl, ⟨by omega⟩, ⟨HBA.out⟩, ⟨by simpa using HKA.out⟩⟩
 case round =>
  clear HKA HBA
  obtain ⟨i, rfl, hi, BW, hKA⟩ := hrel
  have HI := Lib.hid hi.out
  have HB := Lib.hid BW.out
  have HKA := Lib.hid hKA.out
  clear hi BW hKA
  rcases (show i = 0 ∨ i = 1 ∨ i = 2 by have := HI.out; omega) with rfl | rfl | rfl
  ·have kA : wr.heap[gA]? = some (.cells #[.int .i64 0, .int .i64 0, .int .i64 0] 72 (0, 0)) := by simpa using HKA.out
   have kAd : wr.drew.heap[gA]? = some (.cells #[.int .i64 0, .int .i64 0, .int .i64 0] 72 (0, 0)) := kA
   clear HKA kA
   go_wp2_with fail
   refine wp_region_held_drew (S := fun w' => Aside0 (Below w1.heap.size w1 w')) (by kernel_rfl) ?_ (fun hHeld => ?_)
   ·exact ⟨HB.out.drew⟩
   generalize World.drew _ = wDa at hHeld kAd ⊢
   have HCr := HC
   refine' tk 0 ?_
   try simp only [pt]
   refine' tk 1 ?_
   try simp only [pt]
   refine' tk 2 ?_
   try simp only [pt]
   refine' tk 3 ?_
   try simp only [pt]
   refine' tk 4 ?_
   try simp only [pt]
   refine' tk 5 ?_
   try simp only [pt]
   refine' tk 6 ?_
   try simp only [pt]
   refine' cm 7 (fun K hK => ?_)
   go_simp
   refine (Ika.out _ (Lka.out.below hHeld.out)).mono ?_
   rintro e w7 ⟨rfl, hb2⟩
   have kA7 := blk_below kAd hb2
   have xA := (blk_cell kA7 0).trans rfl
   have fA := blk_frozen kA7 0
   refine hK.out _ _ ⟨hHeld.out.trans (hb2.mono hHeld.out.size)⟩ (fun hHeld => ?_)
   clear hK K
   try simp only [pt]
   refine' tk 8 ?_
   try simp only [pt]
   refine' cm 9 (fun K hK => ?_)
   go_simp
   have kA8 := blk_put kA7 0 (.int .i64 va) rfl
   refine hK.out _ _ ⟨hHeld.out.setCell (p := ⟨gA, 0, none⟩) HGA.out (.int .i64 va)⟩ (fun hHeld => ?_)
   clear hK K
   try simp only [pt]
   refine wpAnyH_done (by kernel_rfl) ?_ _
   go_wp2_with fail
   go_roundg (gk - 1)
   case measure => have := HI.out; omega
   case rel => exact ⟨1, by first | rfl | simp, ⟨by have := HI.out; omega⟩, ⟨hHeld.out⟩, ⟨by simpa using kA8⟩⟩
  ·have kA : wr.heap[gA]? = some (.cells #[.int .i64 va, .int .i64 0, .int .i64 0] 72 (0, 0)) := by simpa using HKA.out
   have kAd : wr.drew.heap[gA]? = some (.cells #[.int .i64 va, .int .i64 0, .int .i64 0] 72 (0, 0)) := kA
   clear HKA kA
   go_wp2_with fail
   refine wp_region_held_drew (S := fun w' => Aside0 (Below w1.heap.size w1 w')) (by kernel_rfl) ?_ (fun hHeld => ?_)
   ·exact ⟨HB.out.drew⟩
   generalize World.drew _ = wDb at hHeld kAd ⊢
   have HCr := HC
   refine' tk 0 ?_
   try simp only [pt]
   refine' tk 1 ?_
   try simp only [pt]
   refine' tk 2 ?_
   try simp only [pt]
   refine' tk 3 ?_
   try simp only [pt]
   refine' tk 4 ?_
   try simp only [pt]
   refine' tk 5 ?_
   try simp only [pt]
   refine' tk 6 ?_
   try simp only [pt]
   refine' cm 7 (fun K hK => ?_)
   go_simp
   refine (Ikb.out _ (Lkb.out.below hHeld.out)).mono ?_
   rintro e w7 ⟨rfl, hb2⟩
   have kA7 := blk_below kAd hb2
   have xA := (blk_cell kA7 1).trans rfl
   have fA := blk_frozen kA7 1
   refine hK.out _ _ ⟨hHeld.out.trans (hb2.mono hHeld.out.size)⟩ (fun hHeld => ?_)
   clear hK K
   try simp only [pt]
   refine' tk 8 ?_
   try simp only [pt]
   refine' cm 9 (fun K hK => ?_)
   go_simp
   have kA8 := blk_put kA7 1 (.int .i64 vb) rfl
   refine hK.out _ _ ⟨hHeld.out.setCell (p := ⟨gA, 1, none⟩) HGA.out (.int .i64 vb)⟩ (fun hHeld => ?_)
   clear hK K
   try simp only [pt]
   refine wpAnyH_done (by kernel_rfl) ?_ _
   go_wp2_with fail
   go_roundg (gk - 1)
   case measure => have := HI.out; omega
   case rel => exact ⟨2, by first | rfl | simp, ⟨by have := HI.out; omega⟩, ⟨hHeld.out⟩, ⟨by simpa using kA8⟩⟩
  ·have kA : wr.heap[gA]? = some (.cells #[.int .i64 va, .int .i64 vb, .int .i64 0] 72 (0, 0)) := by simpa using HKA.out
   obtain ⟨⟨⟨y0, y1, y2⟩, ⟨x0, x1, x2, x3⟩⟩, z0, z1⟩ := HC.out wr HB.out
   have a0 := (blk_cell kA 0).trans rfl
   have a1 := (blk_cell kA 1).trans rfl
   have a2 := (blk_cell kA 2).trans rfl
   have BB := Lib.hid (B1.out.trans (HB.out.mono B1.out.size))
   clear HC HB HE HAR HI HGA HKA kA B1 Lka Ika Lkb Ikb HK z0 z1 y0 y1 y2
   rcases HOP.out with rfl
   all_goals go_wp2
   all_goals
    go_ret
    refine ⟨?_, BB.out⟩
    have hf := HF.out
    have hop := HOP.out
    have eka := Eka.out
    have ekb := Ekb.out
    clear HF HOP BB x0 x1 x2 x3 a0 a1 a2
    first | (simp_all [moreS, twoS, fieldsS]; done) | (simp_all [moreS, twoS, fieldsS]; omega) | (rcases hop with rfl <;> simp_all [moreS, twoS, fieldsS]; done) | (rcases hop with rfl <;> simp_all [moreS, twoS, fieldsS] <;> omega)
theorem rs_node2_27 (hop : op = 27) (hf : fieldsS rw rc rl op n m = true) {ka kb : Cr} {va vb : Int} (hl : Lies w (.node op n m at_ cap [ka, kb])) (ika : SortR rw rc rl ka va) (ikb : SortR rw rc rl kb vb) {s : Cr → Int} (eka : s ka = va) (ekb : s kb = vb) (hv : va = 0 ∨ va = 1 ∨ va = 2 ∨ va = 3) :
  Calls Tryz.prog 10 #[.agg #[.int .i64 rw, .int .i64 rc, .int .i64 rl], .agg #[.int .i64 op, .int .i64 n, .int .i64 m, .slice at_ 2 cap]] w fun e w' => e = .returned (.int .i64 (moreS s op n m [ka, kb])) ∧ Below w.heap.size w w' := by
 obtain ⟨p, rfl⟩ : ∃ p, at_ = some p := by
  obtain ⟨b, hb, -⟩ := hl.kids.cells (i := 0) (k := ka) rfl
  exact ⟨b, hb⟩
 obtain ⟨w1, e1, b1, k2, k3, s1⟩ := box2 w (.cells #[.int .i64 rw, .int .i64 rc, .int .i64 rl] 38) (.cells #[.int .i64 op, .int .i64 n, .int .i64 m, .slice (some p) 2 cap] 24)
 have HE := Lib.hid e1
 have B1 := Lib.hid b1
 obtain ⟨y0, y1, y2⟩ := room2_cells k2
 obtain ⟨x0, x1, x2, x3⟩ := core_cells k3
 have HK := Lib.hid (hl.below b1).kids
 simp only [Cr.at_, Cr.kids] at HK
 have HC := Lib.hid fun (w' : World) (hb : Below w1.heap.size w1 w') => (show ((w'.cell? ⟨w.heap.size, 0, none⟩ = some (.int .i64 rw) ∧ w'.cell? ⟨w.heap.size, 1, none⟩ = some (.int .i64 rc) ∧ w'.cell? ⟨w.heap.size, 2, none⟩ = some (.int .i64 rl)) ∧ (w'.cell? ⟨w.heap.size + 1, 0, none⟩ = some (.int .i64 op) ∧ w'.cell? ⟨w.heap.size + 1, 1, none⟩ = some (.int .i64 n) ∧ w'.cell? ⟨w.heap.size + 1, 2, none⟩ = some (.int .i64 m) ∧ w'.cell? ⟨w.heap.size + 1, 3, none⟩ = some (.slice (some p) 2 cap))) ∧ (w'.cell? p = some (.int .i64 ka.op) ∧ w'.cell? ⟨p.block, p.off + 1, none⟩ = some (.int .i64 ka.n) ∧ w'.cell? ⟨p.block, p.off + 2, none⟩ = some (.int .i64 ka.m) ∧ w'.cell? ⟨p.block, p.off + 3, none⟩ = some (.slice ka.at_ ka.kids.length ka.cap)) ∧ (w'.cell? ⟨p.block, p.off + 4, none⟩ = some (.int .i64 kb.op) ∧ w'.cell? ⟨p.block, p.off + 4 + 1, none⟩ = some (.int .i64 kb.n) ∧ w'.cell? ⟨p.block, p.off + 4 + 2, none⟩ = some (.int .i64 kb.m) ∧ w'.cell? ⟨p.block, p.off + 4 + 3, none⟩ = some (.slice kb.at_ kb.kids.length kb.cap)) from ⟨⟨room2_cells (blk_below k2 hb), core_cells (blk_below k3 hb)⟩, HK.out.lit0 hb rfl, HK.out.lit hb 0 rfl⟩)
 have Lka := Lib.hid (LiesL.lies HK.out (k := ka) (by simp))
 have Ika := Lib.hid ika
 have Lkb := Lib.hid (LiesL.lies HK.out (k := kb) (by simp))
 have Ikb := Lib.hid ikb
 have HAR := Lib.hid (show arityS op = 2 by rcases hop with rfl <;> rfl)
 have HF := Lib.hid hf
 have HOP := Lib.hid hop
 have HV := Lib.hid hv
 clear hv
 have Eka := Lib.hid eka
 have Ekb := Lib.hid ekb
 clear eka ekb
 clear hop hf k2 k3 e1 b1 s1 hl ika ikb
 go_enter Tryz.func10, Tryz.ntmps10
 go_wp2_with fail
 rw [HE.out]
 go_wp2_with fail
 refine (arity_calls op _).mono ?_
 rintro e w9 ⟨rfl, hw9⟩
 rw [hw9, HAR.out]
 clear hw9 w9
 go_wp2_with fail
 refine (fields_calls rw rc rl op n m (some p) 2 cap _).mono ?_
 rintro e w2 ⟨rfl, hb2⟩
 rw [HF.out]
 obtain ⟨⟨⟨y0, y1, y2⟩, ⟨x0, x1, x2, x3⟩⟩, z0, z1⟩ := HC.out w2 hb2
 go_wp2_with fail
 obtain ⟨gA, hgA⟩ : ∃ g, w2.heap.size = g := ⟨_, rfl⟩
 have HGA := Lib.hid (show w1.heap.size ≤ gA by rw [← hgA]; exact hb2.size)
 obtain ⟨wA, eA, bA, kA, sA⟩ := box1 w2 (.cells #[.int .i64 0, .int .i64 0, .int .i64 0] 72)
 rw [eA, hgA]
 rw [hgA] at kA
 have HBA := Lib.hid (hb2.trans (bA.mono hb2.size))
 have HKA := Lib.hid kA
 clear eA bA kA sA hgA hb2 y0 y1 y2 x0 x1 x2 x3 z0 z1
 go_loopg [7] 2 (fun gg v7 wr => ∃ i : Nat, v7 = .int .i64 i ∧ Aside0 (i ≤ 2 ∧ 2 - i ≤ gg) ∧ Aside0 (Below w1.heap.size w1 wr) ∧ Aside0 (wr.heap[gA]? = some (.cells #[.int .i64 (if 0 < i then va else 0), .int .i64 (if 1 < i then vb else 0), .int .i64 0] 72 (0, 0))))
 case atStart => exact ⟨0, rfl, ⟨by omega⟩, ⟨HBA.out⟩, ⟨by simpa using HKA.out⟩⟩
 case round =>
  clear HKA HBA
  obtain ⟨i, rfl, hi, BW, hKA⟩ := hrel
  have HI := Lib.hid hi.out
  have HB := Lib.hid BW.out
  have HKA := Lib.hid hKA.out
  clear hi BW hKA
  rcases (show i = 0 ∨ i = 1 ∨ i = 2 by have := HI.out; omega) with rfl | rfl | rfl
  ·have kA : wr.heap[gA]? = some (.cells #[.int .i64 0, .int .i64 0, .int .i64 0] 72 (0, 0)) := by simpa using HKA.out
   have kAd : wr.drew.heap[gA]? = some (.cells #[.int .i64 0, .int .i64 0, .int .i64 0] 72 (0, 0)) := kA
   clear HKA kA
   go_wp2_with fail
   refine wp_region_held_drew (S := fun w' => Aside0 (Below w1.heap.size w1 w')) (by kernel_rfl) ?_ (fun hHeld => ?_)
   ·exact ⟨HB.out.drew⟩
   generalize World.drew _ = wDa at hHeld kAd ⊢
   have HCr := HC
   refine' tk 0 ?_
   try simp only [pt]
   refine' tk 1 ?_
   try simp only [pt]
   refine' tk 2 ?_
   try simp only [pt]
   refine' tk 3 ?_
   try simp only [pt]
   refine' tk 4 ?_
   try simp only [pt]
   refine' tk 5 ?_
   try simp only [pt]
   refine' tk 6 ?_
   try simp only [pt]
   refine' cm 7 (fun K hK => ?_)
   go_simp
   refine (Ika.out _ (Lka.out.below hHeld.out)).mono ?_
   rintro e w7 ⟨rfl, hb2⟩
   have kA7 := blk_below kAd hb2
   have xA := (blk_cell kA7 0).trans rfl
   have fA := blk_frozen kA7 0
   refine hK.out _ _ ⟨hHeld.out.trans (hb2.mono hHeld.out.size)⟩ (fun hHeld => ?_)
   clear hK K
   try simp only [pt]
   refine' tk 8 ?_
   try simp only [pt]
   refine' cm 9 (fun K hK => ?_)
   go_simp
   have kA8 := blk_put kA7 0 (.int .i64 va) rfl
   refine hK.out _ _ ⟨hHeld.out.setCell (p := ⟨gA, 0, none⟩) HGA.out (.int .i64 va)⟩ (fun hHeld => ?_)
   clear hK K
   try simp only [pt]
   refine wpAnyH_done (by kernel_rfl) ?_ _
   go_wp2_with fail
   go_roundg (gk - 1)
   case measure => have := HI.out; omega
   case rel => exact ⟨1, by first | rfl | simp, ⟨by have := HI.out; omega⟩, ⟨hHeld.out⟩, ⟨by simpa using kA8⟩⟩
  ·have kA : wr.heap[gA]? = some (.cells #[.int .i64 va, .int .i64 0, .int .i64 0] 72 (0, 0)) := by simpa using HKA.out
   have kAd : wr.drew.heap[gA]? = some (.cells #[.int .i64 va, .int .i64 0, .int .i64 0] 72 (0, 0)) := kA
   clear HKA kA
   go_wp2_with fail
   refine wp_region_held_drew (S := fun w' => Aside0 (Below w1.heap.size w1 w')) (by kernel_rfl) ?_ (fun hHeld => ?_)
   ·exact ⟨HB.out.drew⟩
   generalize World.drew _ = wDb at hHeld kAd ⊢
   have HCr := HC
   refine' tk 0 ?_
   try simp only [pt]
   refine' tk 1 ?_
   try simp only [pt]
   refine' tk 2 ?_
   try simp only [pt]
   refine' tk 3 ?_
   try simp only [pt]
   refine' tk 4 ?_
   try simp only [pt]
   refine' tk 5 ?_
   try simp only [pt]
   refine' tk 6 ?_
   try simp only [pt]
   refine' cm 7 (fun K hK => ?_)
   go_simp
   refine (Ikb.out _ (Lkb.out.below hHeld.out)).mono ?_
   rintro e w7 ⟨rfl, hb2⟩
   have kA7 := blk_below kAd hb2
   have xA := (blk_cell kA7 1).trans rfl
   have fA := blk_frozen kA7 1
   refine hK.out _ _ ⟨hHeld.out.trans (hb2.mono hHeld.out.size)⟩ (fun hHeld => ?_)
   clear hK K
   try simp only [pt]
   refine' tk 8 ?_
   try simp only [pt]
   refine' cm 9 (fun K hK => ?_)
   go_simp
   have kA8 := blk_put kA7 1 (.int .i64 vb) rfl
   refine hK.out _ _ ⟨hHeld.out.setCell (p := ⟨gA, 1, none⟩) HGA.out (.int .i64 vb)⟩ (fun hHeld => ?_)
   clear hK K
   try simp only [pt]
   refine wpAnyH_done (by kernel_rfl) ?_ _
   go_wp2_with fail
   go_roundg (gk - 1)
   case measure => have := HI.out; omega
   case rel => exact ⟨2, by first | rfl | simp, ⟨by have := HI.out; omega⟩, ⟨hHeld.out⟩, ⟨by simpa using kA8⟩⟩
  ·have kA : wr.heap[gA]? = some (.cells #[.int .i64 va, .int .i64 vb, .int .i64 0] 72 (0, 0)) := by simpa using HKA.out
   obtain ⟨⟨⟨y0, y1, y2⟩, ⟨x0, x1, x2, x3⟩⟩, z0, z1⟩ := HC.out wr HB.out
   have a0 := (blk_cell kA 0).trans rfl
   have a1 := (blk_cell kA 1).trans rfl
   have a2 := (blk_cell kA 2).trans rfl
   have BB := Lib.hid (B1.out.trans (HB.out.mono B1.out.size))
   clear HC HB HE HAR HI HGA HKA kA B1 Lka Ika Lkb Ikb HK z0 z1 y0 y1 y2
   rcases HOP.out with rfl
   all_goals go_wp2
   all_goals
    go_ret
    refine ⟨?_, BB.out⟩
    have hf := HF.out
    have hop := HOP.out
    have hv := HV.out
    clear HV
    have eka := Eka.out
    have ekb := Ekb.out
    clear HF HOP BB x0 x1 x2 x3 a0 a1 a2
    first | (simp_all [moreS, twoS, fieldsS]; done) | (simp_all [moreS, twoS, fieldsS]; omega) | (rcases hop with rfl <;> rcases hv with rfl | rfl | rfl | rfl <;> simp_all [moreS, twoS, fieldsS]; done) | (rcases hop with rfl <;> rcases hv with rfl | rfl | rfl | rfl <;> simp_all [moreS, twoS, fieldsS] <;> omega)
theorem rs_node3 (hop : op = 28) (hf : fieldsS rw rc rl op n m = true) {ka kb kc : Cr} {va vb vc : Int} (hl : Lies w (.node op n m at_ cap [ka, kb, kc])) (ika : SortR rw rc rl ka va) (ikb : SortR rw rc rl kb vb) (ikc : SortR rw rc rl kc vc) {s : Cr → Int} (eka : s ka = va) (ekb : s kb = vb) (ekc : s kc = vc) :
  Calls Tryz.prog 10 #[.agg #[.int .i64 rw, .int .i64 rc, .int .i64 rl], .agg #[.int .i64 op, .int .i64 n, .int .i64 m, .slice at_ 3 cap]] w fun e w' => e = .returned (.int .i64 (moreS s op n m [ka, kb, kc])) ∧ Below w.heap.size w w' := by
 obtain ⟨p, rfl⟩ : ∃ p, at_ = some p := by
  obtain ⟨b, hb, -⟩ := hl.kids.cells (i := 0) (k := ka) rfl
  exact ⟨b, hb⟩
 obtain ⟨w1, e1, b1, k2, k3, s1⟩ := box2 w (.cells #[.int .i64 rw, .int .i64 rc, .int .i64 rl] 38) (.cells #[.int .i64 op, .int .i64 n, .int .i64 m, .slice (some p) 3 cap] 24)
 have HE := Lib.hid e1
 have B1 := Lib.hid b1
 obtain ⟨y0, y1, y2⟩ := room2_cells k2
 obtain ⟨x0, x1, x2, x3⟩ := core_cells k3
 have HK := Lib.hid (hl.below b1).kids
 simp only [Cr.at_, Cr.kids] at HK
 have HC := Lib.hid fun (w' : World) (hb : Below w1.heap.size w1 w') => (show ((w'.cell? ⟨w.heap.size, 0, none⟩ = some (.int .i64 rw) ∧ w'.cell? ⟨w.heap.size, 1, none⟩ = some (.int .i64 rc) ∧ w'.cell? ⟨w.heap.size, 2, none⟩ = some (.int .i64 rl)) ∧ (w'.cell? ⟨w.heap.size + 1, 0, none⟩ = some (.int .i64 op) ∧ w'.cell? ⟨w.heap.size + 1, 1, none⟩ = some (.int .i64 n) ∧ w'.cell? ⟨w.heap.size + 1, 2, none⟩ = some (.int .i64 m) ∧ w'.cell? ⟨w.heap.size + 1, 3, none⟩ = some (.slice (some p) 3 cap))) ∧ (w'.cell? p = some (.int .i64 ka.op) ∧ w'.cell? ⟨p.block, p.off + 1, none⟩ = some (.int .i64 ka.n) ∧ w'.cell? ⟨p.block, p.off + 2, none⟩ = some (.int .i64 ka.m) ∧ w'.cell? ⟨p.block, p.off + 3, none⟩ = some (.slice ka.at_ ka.kids.length ka.cap)) ∧ (w'.cell? ⟨p.block, p.off + 4, none⟩ = some (.int .i64 kb.op) ∧ w'.cell? ⟨p.block, p.off + 4 + 1, none⟩ = some (.int .i64 kb.n) ∧ w'.cell? ⟨p.block, p.off + 4 + 2, none⟩ = some (.int .i64 kb.m) ∧ w'.cell? ⟨p.block, p.off + 4 + 3, none⟩ = some (.slice kb.at_ kb.kids.length kb.cap)) ∧ (w'.cell? ⟨p.block, p.off + 8, none⟩ = some (.int .i64 kc.op) ∧ w'.cell? ⟨p.block, p.off + 8 + 1, none⟩ = some (.int .i64 kc.n) ∧ w'.cell? ⟨p.block, p.off + 8 + 2, none⟩ = some (.int .i64 kc.m) ∧ w'.cell? ⟨p.block, p.off + 8 + 3, none⟩ = some (.slice kc.at_ kc.kids.length kc.cap)) from ⟨⟨room2_cells (blk_below k2 hb), core_cells (blk_below k3 hb)⟩, HK.out.lit0 hb rfl, HK.out.lit hb 0 rfl, HK.out.lit hb 1 rfl⟩)
 have Lka := Lib.hid (LiesL.lies HK.out (k := ka) (by simp))
 have Ika := Lib.hid ika
 have Lkb := Lib.hid (LiesL.lies HK.out (k := kb) (by simp))
 have Ikb := Lib.hid ikb
 have Lkc := Lib.hid (LiesL.lies HK.out (k := kc) (by simp))
 have Ikc := Lib.hid ikc
 have HAR := Lib.hid (show arityS op = 3 by rcases hop with rfl <;> rfl)
 have HF := Lib.hid hf
 have HOP := Lib.hid hop
 have Eka := Lib.hid eka
 have Ekb := Lib.hid ekb
 have Ekc := Lib.hid ekc
 clear eka ekb ekc
 clear hop hf k2 k3 e1 b1 s1 hl ika ikb ikc
 go_enter Tryz.func10, Tryz.ntmps10
 go_wp2_with fail
 rw [HE.out]
 go_wp2_with fail
 refine (arity_calls op _).mono ?_
 rintro e w9 ⟨rfl, hw9⟩
 rw [hw9, HAR.out]
 clear hw9 w9
 go_wp2_with fail
 refine (fields_calls rw rc rl op n m (some p) 3 cap _).mono ?_
 rintro e w2 ⟨rfl, hb2⟩
 rw [HF.out]
 obtain ⟨⟨⟨y0, y1, y2⟩, ⟨x0, x1, x2, x3⟩⟩, z0, z1, z2⟩ := HC.out w2 hb2
 go_wp2_with fail
 obtain ⟨gA, hgA⟩ : ∃ g, w2.heap.size = g := ⟨_, rfl⟩
 have HGA := Lib.hid (show w1.heap.size ≤ gA by rw [← hgA]; exact hb2.size)
 obtain ⟨wA, eA, bA, kA, sA⟩ := box1 w2 (.cells #[.int .i64 0, .int .i64 0, .int .i64 0] 72)
 rw [eA, hgA]
 rw [hgA] at kA
 have HBA := Lib.hid (hb2.trans (bA.mono hb2.size))
 have HKA := Lib.hid kA
 clear eA bA kA sA hgA hb2 y0 y1 y2 x0 x1 x2 x3 z0 z1 z2
 go_loopg [7] 3 (fun gg v7 wr => ∃ i : Nat, v7 = .int .i64 i ∧ Aside0 (i ≤ 3 ∧ 3 - i ≤ gg) ∧ Aside0 (Below w1.heap.size w1 wr) ∧ Aside0 (wr.heap[gA]? = some (.cells #[.int .i64 (if 0 < i then va else 0), .int .i64 (if 1 < i then vb else 0), .int .i64 (if 2 < i then vc else 0)] 72 (0, 0))))
 case atStart => exact ⟨0, rfl, ⟨by omega⟩, ⟨HBA.out⟩, ⟨by simpa using HKA.out⟩⟩
 case round =>
  clear HKA HBA
  obtain ⟨i, rfl, hi, BW, hKA⟩ := hrel
  have HI := Lib.hid hi.out
  have HB := Lib.hid BW.out
  have HKA := Lib.hid hKA.out
  clear hi BW hKA
  rcases (show i = 0 ∨ i = 1 ∨ i = 2 ∨ i = 3 by have := HI.out; omega) with rfl | rfl | rfl | rfl
  ·have kA : wr.heap[gA]? = some (.cells #[.int .i64 0, .int .i64 0, .int .i64 0] 72 (0, 0)) := by simpa using HKA.out
   have kAd : wr.drew.heap[gA]? = some (.cells #[.int .i64 0, .int .i64 0, .int .i64 0] 72 (0, 0)) := kA
   clear HKA kA
   go_wp2_with fail
   refine wp_region_held_drew (S := fun w' => Aside0 (Below w1.heap.size w1 w')) (by kernel_rfl) ?_ (fun hHeld => ?_)
   ·exact ⟨HB.out.drew⟩
   generalize World.drew _ = wDa at hHeld kAd ⊢
   have HCr := HC
   refine' tk 0 ?_
   try simp only [pt]
   refine' tk 1 ?_
   try simp only [pt]
   refine' tk 2 ?_
   try simp only [pt]
   refine' tk 3 ?_
   try simp only [pt]
   refine' tk 4 ?_
   try simp only [pt]
   refine' tk 5 ?_
   try simp only [pt]
   refine' tk 6 ?_
   try simp only [pt]
   refine' cm 7 (fun K hK => ?_)
   go_simp
   refine (Ika.out _ (Lka.out.below hHeld.out)).mono ?_
   rintro e w7 ⟨rfl, hb2⟩
   have kA7 := blk_below kAd hb2
   have xA := (blk_cell kA7 0).trans rfl
   have fA := blk_frozen kA7 0
   refine hK.out _ _ ⟨hHeld.out.trans (hb2.mono hHeld.out.size)⟩ (fun hHeld => ?_)
   clear hK K
   try simp only [pt]
   refine' tk 8 ?_
   try simp only [pt]
   refine' cm 9 (fun K hK => ?_)
   go_simp
   have kA8 := blk_put kA7 0 (.int .i64 va) rfl
   refine hK.out _ _ ⟨hHeld.out.setCell (p := ⟨gA, 0, none⟩) HGA.out (.int .i64 va)⟩ (fun hHeld => ?_)
   clear hK K
   try simp only [pt]
   refine wpAnyH_done (by kernel_rfl) ?_ _
   go_wp2_with fail
   go_roundg (gk - 1)
   case measure => have := HI.out; omega
   case rel => exact ⟨1, by first | rfl | simp, ⟨by have := HI.out; omega⟩, ⟨hHeld.out⟩, ⟨by simpa using kA8⟩⟩
  ·have kA : wr.heap[gA]? = some (.cells #[.int .i64 va, .int .i64 0, .int .i64 0] 72 (0, 0)) := by simpa using HKA.out
   have kAd : wr.drew.heap[gA]? = some (.cells #[.int .i64 va, .int .i64 0, .int .i64 0] 72 (0, 0)) := kA
   clear HKA kA
   go_wp2_with fail
   refine wp_region_held_drew (S := fun w' => Aside0 (Below w1.heap.size w1 w')) (by kernel_rfl) ?_ (fun hHeld => ?_)
   ·exact ⟨HB.out.drew⟩
   generalize World.drew _ = wDb at hHeld kAd ⊢
   have HCr := HC
   refine' tk 0 ?_
   try simp only [pt]
   refine' tk 1 ?_
   try simp only [pt]
   refine' tk 2 ?_
   try simp only [pt]
   refine' tk 3 ?_
   try simp only [pt]
   refine' tk 4 ?_
   try simp only [pt]
   refine' tk 5 ?_
   try simp only [pt]
   refine' tk 6 ?_
   try simp only [pt]
   refine' cm 7 (fun K hK => ?_)
   go_simp
   refine (Ikb.out _ (Lkb.out.below hHeld.out)).mono ?_
   rintro e w7 ⟨rfl, hb2⟩
   have kA7 := blk_below kAd hb2
   have xA := (blk_cell kA7 1).trans rfl
   have fA := blk_frozen kA7 1
   refine hK.out _ _ ⟨hHeld.out.trans (hb2.mono hHeld.out.size)⟩ (fun hHeld => ?_)
   clear hK K
   try simp only [pt]
   refine' tk 8 ?_
   try simp only [pt]
   refine' cm 9 (fun K hK => ?_)
   go_simp
   have kA8 := blk_put kA7 1 (.int .i64 vb) rfl
   refine hK.out _ _ ⟨hHeld.out.setCell (p := ⟨gA, 1, none⟩) HGA.out (.int .i64 vb)⟩ (fun hHeld => ?_)
   clear hK K
   try simp only [pt]
   refine wpAnyH_done (by kernel_rfl) ?_ _
   go_wp2_with fail
   go_roundg (gk - 1)
   case measure => have := HI.out; omega
   case rel => exact ⟨2, by first | rfl | simp, ⟨by have := HI.out; omega⟩, ⟨hHeld.out⟩, ⟨by simpa using kA8⟩⟩
  ·have kA : wr.heap[gA]? = some (.cells #[.int .i64 va, .int .i64 vb, .int .i64 0] 72 (0, 0)) := by simpa using HKA.out
   have kAd : wr.drew.heap[gA]? = some (.cells #[.int .i64 va, .int .i64 vb, .int .i64 0] 72 (0, 0)) := kA
   clear HKA kA
   go_wp2_with fail
   refine wp_region_held_drew (S := fun w' => Aside0 (Below w1.heap.size w1 w')) (by kernel_rfl) ?_ (fun hHeld => ?_)
   ·exact ⟨HB.out.drew⟩
   generalize World.drew _ = wDc at hHeld kAd ⊢
   have HCr := HC
   refine' tk 0 ?_
   try simp only [pt]
   refine' tk 1 ?_
   try simp only [pt]
   refine' tk 2 ?_
   try simp only [pt]
   refine' tk 3 ?_
   try simp only [pt]
   refine' tk 4 ?_
   try simp only [pt]
   refine' tk 5 ?_
   try simp only [pt]
   refine' tk 6 ?_
   try simp only [pt]
   refine' cm 7 (fun K hK => ?_)
   go_simp
   refine (Ikc.out _ (Lkc.out.below hHeld.out)).mono ?_
   rintro e w7 ⟨rfl, hb2⟩
   have kA7 := blk_below kAd hb2
   have xA := (blk_cell kA7 2).trans rfl
   have fA := blk_frozen kA7 2
   refine hK.out _ _ ⟨hHeld.out.trans (hb2.mono hHeld.out.size)⟩ (fun hHeld => ?_)
   clear hK K
   try simp only [pt]
   refine' tk 8 ?_
   try simp only [pt]
   refine' cm 9 (fun K hK => ?_)
   go_simp
   have kA8 := blk_put kA7 2 (.int .i64 vc) rfl
   refine hK.out _ _ ⟨hHeld.out.setCell (p := ⟨gA, 2, none⟩) HGA.out (.int .i64 vc)⟩ (fun hHeld => ?_)
   clear hK K
   try simp only [pt]
   refine wpAnyH_done (by kernel_rfl) ?_ _
   go_wp2_with fail
   go_roundg (gk - 1)
   case measure => have := HI.out; omega
   case rel => exact ⟨3, by first | rfl | simp, ⟨by have := HI.out; omega⟩, ⟨hHeld.out⟩, ⟨by simpa using kA8⟩⟩
  ·have kA : wr.heap[gA]? = some (.cells #[.int .i64 va, .int .i64 vb, .int .i64 vc] 72 (0, 0)) := by simpa using HKA.out
   obtain ⟨⟨⟨y0, y1, y2⟩, ⟨x0, x1, x2, x3⟩⟩, z0, z1, z2⟩ := HC.out wr HB.out
   have a0 := (blk_cell kA 0).trans rfl
   have a1 := (blk_cell kA 1).trans rfl
   have a2 := (blk_cell kA 2).trans rfl
   have BB := Lib.hid (B1.out.trans (HB.out.mono B1.out.size))
   clear HC HB HE HAR HI HGA HKA kA B1 Lka Ika Lkb Ikb Lkc Ikc HK z0 z1 z2 y0 y1 y2
   rcases HOP.out with rfl
   all_goals go_wp2
   all_goals
    go_ret
    refine ⟨?_, BB.out⟩
    have hf := HF.out
    have hop := HOP.out
    have eka := Eka.out
    have ekb := Ekb.out
    have ekc := Ekc.out
    clear HF HOP BB x0 x1 x2 x3 a0 a1 a2
    first | (simp_all [moreS, ifS, fieldsS]; done) | (simp_all [moreS, ifS, fieldsS]; omega) | (rcases hop with rfl <;> simp_all [moreS, ifS, fieldsS]; done) | (rcases hop with rfl <;> simp_all [moreS, ifS, fieldsS] <;> omega)
end
end Go.Proofs.YtpljkcakijkklaaGreatDoor

end
section
namespace Go.Proofs.YtpljkcakijkklaaGreatDoor
set_option linter.unusedVariables false
set_option linter.unusedSimpArgs false
open Go.RowKit Go.Proofs.YtpljkcakijkklaaGreatDoorW.PrintWords Go.Proofs.YtpljkcakijkklaaGreatDoorW.PrintLast Go.Proofs.YtpljkcakijkklaaGreatDoorW.PrintMore

theorem ar_m2 {op : Int} (h : arityS op = -2) : op < 1 ∨ 32 < op := by
 unfold arityS at h
 repeat' split at h
 all_goals first | (exfalso; omega) | omega
theorem ar_n0 {op : Int} (h : ¬ arityS op = 0) : ¬ (1 ≤ op ∧ op ≤ 6 ∨ op = 29) := by
 intro h1
 apply h
 unfold arityS
 rw [if_pos h1]
theorem ar_n1 {op : Int} (h : ¬ arityS op = 1) : ¬ (7 ≤ op ∧ op ≤ 13 ∨ op = 30 ∨ op = 31) := by
 intro h1
 apply h
 unfold arityS
 rw [if_neg (by omega), if_pos h1]
theorem ar_n2 {op : Int} (h : ¬ arityS op = 2) : ¬ (14 ≤ op ∧ op ≤ 27) := by
 intro h1
 apply h
 unfold arityS
 rw [if_neg (by omega), if_neg (by omega), if_pos h1]
theorem fields_00 {rw rc rl op : Int} (h : fieldsS rw rc rl op 0 0 = false) : op = 4 ∨ op = 5 ∨ op = 6 ∨ op = 7 ∨ op = 13 := by
 unfold fieldsS at h
 repeat' split at h
 all_goals first | omega | (simp at h)
theorem ite_in {c : Prop} [Decidable c] {a b : Int} {P : Int → Prop} (ha : c → P a) (hb : ¬ c → P b) : P (if c then a else b) := by
 split
 ·exact ha ‹_›
 ·exact hb ‹_›
theorem fields_lin {rw rc rl op n m : Int} (h : fieldsS rw rc rl op n m = false) :
  (op = 1 ∧ ¬ m = 0) ∨ (op = 2 ∧ ¬ ((n = 0 ∨ n = 1) ∧ m = 0)) ∨ (op = 4 ∧ ¬ (0 ≤ n ∧ n < rw ∧ m = 0)) ∨ (op = 5 ∧ ¬ (0 ≤ n ∧ n < rc ∧ m = 0)) ∨ (op = 7 ∧ ¬ (0 ≤ n ∧ n < rl ∧ m = 0)) ∨
  (op = 6 ∧ ¬ (1 ≤ n ∧ n ≤ 3 ∧ (m = 1 ∨ m = 2))) ∨ (op = 13 ∧ ¬ (0 ≤ n ∧ 1 ≤ m)) ∨ ((¬ op = 1 ∧ ¬ op = 2 ∧ ¬ op = 4 ∧ ¬ op = 5 ∧ ¬ op = 6 ∧ ¬ op = 7 ∧ ¬ op = 13) ∧ ¬ (n = 0 ∧ m = 0)) := by
 unfold fieldsS at h
 by_cases h1 : op = 1
 ·rw [if_pos h1] at h
  exact .inl ⟨h1, of_decide_eq_false h⟩
 rw [if_neg h1] at h
 by_cases h2 : op = 2
 ·rw [if_pos h2] at h
  exact .inr (.inl ⟨h2, of_decide_eq_false h⟩)
 rw [if_neg h2] at h
 by_cases h4 : op = 4
 ·rw [if_pos h4] at h
  exact .inr (.inr (.inl ⟨h4, of_decide_eq_false h⟩))
 rw [if_neg h4] at h
 by_cases h5 : op = 5
 ·rw [if_pos h5] at h
  exact .inr (.inr (.inr (.inl ⟨h5, of_decide_eq_false h⟩)))
 rw [if_neg h5] at h
 by_cases h7 : op = 7
 ·rw [if_pos h7] at h
  exact .inr (.inr (.inr (.inr (.inl ⟨h7, of_decide_eq_false h⟩))))
 rw [if_neg h7] at h
 by_cases h6 : op = 6
 ·rw [if_pos h6] at h
  exact .inr (.inr (.inr (.inr (.inr (.inl ⟨h6, of_decide_eq_false h⟩)))))
 rw [if_neg h6] at h
 by_cases h13 : op = 13
 ·rw [if_pos h13] at h
  exact .inr (.inr (.inr (.inr (.inr (.inr (.inl ⟨h13, of_decide_eq_false h⟩))))))
 rw [if_neg h13] at h
 exact .inr (.inr (.inr (.inr (.inr (.inr (.inr ⟨⟨h1, h2, h4, h5, h6, h7, h13⟩, of_decide_eq_false h⟩))))))
theorem leafS_zero {rw rc rl op n m : Int} (h : arityS op = -2 ∨ fieldsS rw rc rl op n m = false ∨ ¬ arityS op = 0) : leafS rw rc op n m = 0 := by
 have h : (op < 1 ∨ 32 < op) ∨ _ ∨ ¬ (1 ≤ op ∧ op ≤ 6 ∨ op = 29) := h.imp ar_m2 (Or.imp fields_lin ar_n0)
 unfold leafS
 repeat' (refine ite_in (P := fun x => x = 0) (fun _ => ?_) (fun _ => ?_))
 all_goals first | rfl | (exfalso; omega)
theorem oneS_zero {rw rc rl op n m v : Int} (h : arityS op = -2 ∨ fieldsS rw rc rl op n m = false ∨ ¬ arityS op = 1) : oneS rl op n m v = 0 := by
 have h : (op < 1 ∨ 32 < op) ∨ _ ∨ ¬ (7 ≤ op ∧ op ≤ 13 ∨ op = 30 ∨ op = 31) := h.imp ar_m2 (Or.imp fields_lin ar_n1)
 unfold oneS
 repeat' (refine ite_in (P := fun x => x = 0) (fun _ => ?_) (fun _ => ?_))
 all_goals first | rfl | (exfalso; omega)
theorem twoS_zero {s : Cr → Int} {op : Int} {a b : Cr} (h : ¬ (14 ≤ op ∧ op ≤ 27)) : twoS s op [a, b] = 0 := by
 unfold twoS
 repeat' (refine ite_in (P := fun x => x = 0) (fun _ => ?_) (fun _ => ?_))
 all_goals first | rfl | (exfalso; omega)
theorem moreS_zero {rw rc rl op n m : Int} {s : Cr → Int} {l : List Cr} (h2 : 2 ≤ l.length) (h32 : ¬ op = 32) (h : arityS op = -2 ∨ fieldsS rw rc rl op n m = false ∨ ¬ (l.length : Int) = arityS op) : moreS s op n m l = 0 := by
 unfold moreS
 split
 ·rename_i hnm
  obtain ⟨rfl, rfl⟩ := hnm
  split
  ·rename_i h28
   obtain ⟨rfl, h3⟩ := h28
   exfalso
   rcases h with h | h | h
   ·exact absurd h (by decide)
   ·have := fields_00 h
    omega
   ·exact h (by rw [h3]; rfl)
  ·split
   ·rename_i h
    exact absurd h.1 h32
   ·split
    ·rename_i hl
     obtain ⟨a, b, rfl⟩ : ∃ a b, l = [a, b] := by
      match l, hl with
      | [a, b], _ => exact ⟨a, b, rfl⟩
     refine twoS_zero ?_
     rcases h with h | h | h
     ·have := ar_m2 h
      omega
     ·have := fields_00 h
      omega
     ·exact ar_n2 (fun e => h (by rw [e]; rfl))
    ·rfl
 ·rfl
theorem nodeS_range {rw rc rl : Int} {s : Cr → Int} {c : Cr} (h : ∀ k ∈ c.kids, s k = 0 ∨ s k = 1 ∨ s k = 2 ∨ s k = 3) : nodeS rw rc rl s c = 0 ∨ nodeS rw rc rl s c = 1 ∨ nodeS rw rc rl s c = 2 ∨ nodeS rw rc rl s c = 3 := by
 unfold nodeS
 split
 ·show (fun x => x = 0 ∨ x = 1 ∨ x = 2 ∨ x = 3) (leafS rw rc c.op c.n c.m)
  unfold leafS
  repeat' (refine ite_in (P := fun x => x = 0 ∨ x = 1 ∨ x = 2 ∨ x = 3) (fun _ => ?_) (fun _ => ?_))
  all_goals (show (_ : Int) = 0 ∨ _; omega)
 ·rename_i k e
  have hk := h k (by rw [e]; simp)
  show (fun x => x = 0 ∨ x = 1 ∨ x = 2 ∨ x = 3) (oneS rl c.op c.n c.m (s k))
  unfold oneS
  repeat' (refine ite_in (P := fun x => x = 0 ∨ x = 1 ∨ x = 2 ∨ x = 3) (fun _ => ?_) (fun _ => ?_))
  all_goals first | exact hk | (show (_ : Int) = 0 ∨ _; omega)
 ·show (fun x => x = 0 ∨ x = 1 ∨ x = 2 ∨ x = 3) (moreS s c.op c.n c.m c.kids)
  unfold moreS
  refine ite_in (P := fun x => x = 0 ∨ x = 1 ∨ x = 2 ∨ x = 3) (fun _ => ?_) (fun _ => by omega)
  refine ite_in (P := fun x => x = 0 ∨ x = 1 ∨ x = 2 ∨ x = 3) (fun _ => ?_) (fun _ => ite_in (P := fun x => x = 0 ∨ x = 1 ∨ x = 2 ∨ x = 3) (fun _ => ?_) (fun _ => ite_in (P := fun x => x = 0 ∨ x = 1 ∨ x = 2 ∨ x = 3) (fun _ => ?_) (fun _ => by omega)))
  ·unfold ifS
   split
   ·repeat' (refine ite_in (P := fun x => x = 0 ∨ x = 1 ∨ x = 2 ∨ x = 3) (fun _ => ?_) (fun _ => ?_))
    all_goals (show (_ : Int) = 0 ∨ _; omega)
   ·decide
  ·unfold ladS
   split
   ·repeat' (refine ite_in (P := fun x => x = 0 ∨ x = 1 ∨ x = 2 ∨ x = 3) (fun _ => ?_) (fun _ => ?_))
    all_goals (show (_ : Int) = 0 ∨ _; omega)
   ·decide
  ·unfold twoS
   split
   ·rename_i a b e
    have ha := h a (by simp [e])
    repeat' (refine ite_in (P := fun x => x = 0 ∨ x = 1 ∨ x = 2 ∨ x = 3) (fun _ => ?_) (fun _ => ?_))
    all_goals first | exact ha | (show (_ : Int) = 0 ∨ _; omega)
   ·decide
theorem sortS_range (rw rc rl : Int) (c : Cr) : sortS rw rc rl c = 0 ∨ sortS rw rc rl c = 1 ∨ sortS rw rc rl c = 2 ∨ sortS rw rc rl c = 3 := by
 refine Cr.ind (P := fun c => sortS rw rc rl c = 0 ∨ sortS rw rc rl c = 1 ∨ sortS rw rc rl c = 2 ∨ sortS rw rc rl c = 3) (fun c ih => ?_) c
 rw [sortS_eq]
 exact nodeS_range ih
theorem arity_cases (op : Int) : arityS op = -2 ∨ (op = 32 ∧ arityS op = -1) ∨ (arityS op = 0 ∧ (op = 1 ∨ op = 2 ∨ op = 3 ∨ op = 4 ∨ op = 5 ∨ op = 6 ∨ op = 29)) ∨
  (arityS op = 1 ∧ (op = 7 ∨ op = 8 ∨ op = 9 ∨ (op = 10 ∨ op = 11 ∨ op = 12) ∨ op = 13 ∨ op = 30 ∨ op = 31)) ∨
  (arityS op = 2 ∧ ((op = 14 ∨ op = 15 ∨ op = 16 ∨ op = 17) ∨ (op = 18 ∨ op = 19 ∨ op = 20 ∨ op = 21 ∨ op = 22) ∨ op = 23 ∨ op = 24 ∨ op = 25 ∨ op = 26 ∨ op = 27)) ∨ (arityS op = 3 ∧ op = 28) := by
 unfold arityS
 split
 ·right; right; left; omega
 ·split
  ·right; right; right; left; omega
  ·split
   ·right; right; right; right; left; omega
   ·split
    ·right; right; right; right; right; omega
    ·split
     ·right; left; omega
     ·left; rfl

theorem rsort_calls (rw rc rl : Int) (c : Cr) : SortR rw rc rl c (sortS rw rc rl c) := by
 refine Cr.ind (P := fun c => SortR rw rc rl c (sortS rw rc rl c)) (fun c ih => ?_) c
 intro w hl
 rw [sortS_eq]
 obtain ⟨op, n, m, at_, cap, l⟩ := c
 simp only [Cr.op, Cr.n, Cr.m, Cr.at_, Cr.cap, Cr.kids] at *
 have hz : (arityS op = -2 ∨ fieldsS rw rc rl op n m = false ∨ (0 ≤ arityS op ∧ ¬ (l.length : Int) = arityS op)) → ¬ (op = 32 ∧ fieldsS rw rc rl op n m = true) → nodeS rw rc rl (sortS rw rc rl) (.node op n m at_ cap l) = 0 := by
  intro h h32
  unfold nodeS
  match l, h with
  | [], h =>
   refine leafS_zero (rl := rl) ?_
   simp only [Cr.op, Cr.n, Cr.m]
   rcases h with h | h | ⟨h, h'⟩
   ·exact .inl h
   ·exact .inr (.inl h)
   ·exact .inr (.inr (by simp at h'; omega))
  | [k], h =>
   refine oneS_zero (rw := rw) (rc := rc) ?_
   simp only [Cr.op, Cr.n, Cr.m]
   rcases h with h | h | ⟨h, h'⟩
   ·exact .inl h
   ·exact .inr (.inl h)
   ·exact .inr (.inr (by simp at h'; omega))
  | a :: b :: t, h =>
   show moreS _ op n m (a :: b :: t) = 0
   by_cases h3 : op = 32
   ·have hf : fieldsS rw rc rl op n m = false := by
     cases hb : fieldsS rw rc rl op n m with
     | true => exact absurd ⟨h3, hb⟩ h32
     | false => rfl
    subst h3
    unfold moreS
    rw [if_neg]
    simpa [fieldsS] using hf
   ·refine moreS_zero (rw := rw) (rc := rc) (rl := rl) (by simp) h3 ?_
    rcases h with h | h | ⟨h, h'⟩
    ·exact .inl h
    ·exact .inr (.inl h)
    ·exact .inr (.inr h')
 cases hf : fieldsS rw rc rl op n m with
 | false =>
  rw [hz (.inr (.inl hf)) (by simp [hf])]
  by_cases h2 : arityS op = -2
  ·exact rs_none h2
  ·exact rs_fields rfl h2 hf
 | true =>
  rcases arity_cases op with h | ⟨rfl, h⟩ | ⟨h, ho⟩ | ⟨h, ho⟩ | ⟨h, ho⟩ | ⟨h, ho⟩
  ·have h32 : ¬ op = 32 := by
    intro e
    subst e
    exact absurd h (by decide)
   rw [hz (.inl h) (fun x => h32 x.1)]
   exact rs_none h
  ·have e : nodeS rw rc rl (sortS rw rc rl) (.node 32 n m at_ cap l) = if ladB (sortS rw rc rl) l then (3 : Int) else 0 := by
    have hnm : n = 0 ∧ m = 0 := by simpa [fieldsS] using hf
    obtain ⟨rfl, rfl⟩ := hnm
    unfold nodeS
    match l with
    | [] => rfl
    | [k] => rfl
    | a :: b :: t =>
     show moreS _ 32 0 0 (a :: b :: t) = _
     unfold moreS ladB
     rw [if_pos ⟨rfl, rfl⟩, if_neg (fun h => absurd h.1 (by decide))]
     have hl2 : 2 ≤ (a :: b :: t).length := by simp
     by_cases he : (a :: b :: t).length % 2 = 0
     ·rw [if_pos ⟨rfl, hl2, he⟩, decide_eq_true hl2, decide_eq_true he]
      simp only [ladS, Bool.true_and]
      by_cases q : sortS rw rc rl a = 1
      ·rw [if_pos q]
       simp [q]
      ·have q2 : (sortS rw rc rl a == 1) = false := by simpa using q
       rw [if_neg q, q2]
       rfl
     ·rw [if_neg (fun h => he h.2.2), if_neg (show ¬ (a :: b :: t).length = 2 by omega), decide_eq_false he]
      simp
   rw [e]
   exact rs_lad rfl (sortS rw rc rl) hl ih hf rfl
  ·by_cases hlen : (l.length : Int) = 0
   ·have e : l = [] := List.length_eq_zero_iff.1 (by omega)
    subst e
    exact rs_node0 ho hf
   ·have h32 : ¬ op = 32 := by omega
    rw [hz (.inr (.inr ⟨by omega, by omega⟩)) (fun x => h32 x.1)]
    exact rs_parts h (by decide) hlen hf
  ·by_cases hlen : (l.length : Int) = 1
   ·obtain ⟨k, rfl⟩ := List.length_eq_one_iff.1 (show l.length = 1 by omega)
    have ik := ih k (by simp)
    rcases ho with rfl | rfl | rfl | ho | rfl | rfl | rfl
    ·exact rs_node1_7 rfl hf hl ik (sortS_range ..)
    ·exact rs_node1_8 rfl hf hl ik
    ·exact rs_node1_9 rfl hf hl ik
    ·exact rs_node1_x ho hf hl ik
    ·exact rs_node1_13 rfl hf hl ik
    ·exact rs_node1_30 rfl hf hl ik
    ·exact rs_node1_31 rfl hf hl ik
   ·have h32 : ¬ op = 32 := by omega
    rw [hz (.inr (.inr ⟨by omega, by omega⟩)) (fun x => h32 x.1)]
    exact rs_parts h (by decide) hlen hf
  ·by_cases hlen : (l.length : Int) = 2
   ·obtain ⟨ka, kb, rfl⟩ : ∃ a b, l = [a, b] := by
     match l, (show l.length = 2 by omega) with
     | [a, b], _ => exact ⟨a, b, rfl⟩
    have ia := ih ka (by simp)
    have ib := ih kb (by simp)
    rcases ho with ho | ho | rfl | rfl | rfl | rfl | rfl
    ·exact rs_node2_a ho hf hl ia ib rfl rfl
    ·exact rs_node2_b ho hf hl ia ib rfl rfl
    ·exact rs_node2_23 rfl hf hl ia ib rfl rfl
    ·exact rs_node2_24 rfl hf hl ia ib rfl rfl
    ·exact rs_node2_25 rfl hf hl ia ib rfl rfl
    ·exact rs_node2_26 rfl hf hl ia ib rfl rfl
    ·exact rs_node2_27 rfl hf hl ia ib rfl rfl (sortS_range ..)
   ·have h32 : ¬ op = 32 := by omega
    rw [hz (.inr (.inr ⟨by omega, by omega⟩)) (fun x => h32 x.1)]
    exact rs_parts h (by decide) hlen hf
  ·by_cases hlen : (l.length : Int) = 3
   ·obtain ⟨ka, kb, kc, rfl⟩ : ∃ a b c, l = [a, b, c] := by
     match l, (show l.length = 3 by omega) with
     | [a, b, c], _ => exact ⟨a, b, c, rfl⟩
    exact rs_node3 ho hf hl (ih ka (by simp)) (ih kb (by simp)) (ih kc (by simp)) rfl rfl rfl
   ·have h32 : ¬ op = 32 := by omega
    rw [hz (.inr (.inr ⟨by omega, by omega⟩)) (fun x => h32 x.1)]
    exact rs_parts h (by decide) hlen hf
end Go.Proofs.YtpljkcakijkklaaGreatDoor

end
