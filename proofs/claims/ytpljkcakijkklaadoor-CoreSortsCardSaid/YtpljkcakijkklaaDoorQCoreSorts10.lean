/-
  Texts of this seat, joined, less what CoreSorts does not lean on: Rsort2, Rsort3, Rsort4, Rsort5, Rsort6, Rsort7.
-/
import Derived.Test.YtpljkcakijkklaaDoorQCoreSorts9
section
namespace Go.Proofs.YtpljkcakijkklaaDoor
set_option linter.unusedVariables false
set_option linter.unusedSimpArgs false
open Go.RowKit Go.Proofs.YtpljkcakijkklaaDoorW.PrintWords Go.Proofs.YtpljkcakijkklaaDoorW.PrintLast Go.Proofs.YtpljkcakijkklaaDoorW.PrintMore

/-- The sort that the reference tells of a core, in every world in which it lies. -/
def SortR (rw rc rl : Int) (k : Cr) (v : Int) : Prop :=
  ∀ W, Lies W k → Calls Tryd.prog 11 #[.agg #[.int .i64 rw, .int .i64 rc, .int .i64 rl], .agg #[.int .i64 k.op, .int .i64 k.n, .int .i64 k.m, .slice k.at_ k.kids.length k.cap]] W fun e w' => e = .returned (.int .i64 v) ∧ Below W.heap.size W w'
theorem room2_cells {w : World} {g : Nat} {a b c : Int} (h : w.heap[g]? = some (.cells #[.int .i64 a, .int .i64 b, .int .i64 c] 42 (0, 0))) :
    w.cell? ⟨g, 0, none⟩ = some (.int .i64 a) ∧ w.cell? ⟨g, 1, none⟩ = some (.int .i64 b) ∧ w.cell? ⟨g, 2, none⟩ = some (.int .i64 c) :=
  ⟨(blk_cell h 0).trans rfl, (blk_cell h 1).trans rfl, (blk_cell h 2).trans rfl⟩
/-- A ladder's parts: what is asked, then the rungs. -/
def ladB (s : Cr → Int) (l : List Cr) : Bool := decide (2 ≤ l.length) && (decide (l.length % 2 = 0) && (match l with | a :: t => s a == 1 && rungsP s none t | [] => false))
/-- The bound ahead of place i of a ladder. -/
def prvL (l : List Cr) (i : Nat) : Option Int := if i = 1 then none else (l[i - 2]?).map Cr.n

section
variable {rw rc rl : Int} {A : Option Addr} {l : List Cr} {w : World}
set_option maxHeartbeats 4000000 in
set_option maxRecDepth 100000 in
theorem rlad_short {len : Nat} (h : len < 2) (c : Nat) : Calls Tryd.prog 27 #[.agg #[.int .i64 rw, .int .i64 rc, .int .i64 rl], .slice A len c] w fun e w' => e = .returned (.bool false) ∧ Below w.heap.size w w' := by
  obtain ⟨w1, e1, b1, k2, s1⟩ := box1 w (.cells #[.int .i64 rw, .int .i64 rc, .int .i64 rl] 42)
  have HE := Lib.hid e1
  have B1 := Lib.hid b1
  have HC := Lib.hid fun (w' : World) (hb : Below w1.heap.size w1 w') => (show (w'.cell? ⟨w.heap.size, 0, none⟩ = some (.int .i64 rw) ∧ w'.cell? ⟨w.heap.size, 1, none⟩ = some (.int .i64 rc) ∧ w'.cell? ⟨w.heap.size, 2, none⟩ = some (.int .i64 rl)) from room2_cells (blk_below k2 hb))
  have q1 : ((len : Int) < 2) = True := eq_true (by omega)
  have q2 : (len < 2) = True := eq_true h
  clear k2 e1 b1 s1 h
  go_enter Tryd.func27, Tryd.ntmps27
  go_wp2_with fail
  rw [HE.out]
  refine wp_region_held_drew (S := fun w' => Aside0 (Below w1.heap.size w1 w')) (by kernel_rfl) ?_ (fun hHeld => ?_)
  · exact ⟨(Below.refl _ _).drew⟩
  generalize World.drew _ = wDa at hHeld ⊢
  refine' tk (i := 0) rfl (by kernel_rfl) (fun _ _ _ h => h) ?ya0 hHeld ?za0
  case ya0 => (refine .inl ⟨by rfl, fun w h => ?_⟩; have F := HC.out w h.out; go_simp; (try with_reducible rfl))
  try simp only [pt]
  refine' tk (i := 1) rfl (by kernel_rfl) (fun _ _ _ h => h) ?ya1 hHeld ?za1
  case ya1 => (refine .inl ⟨by rfl, fun w h => ?_⟩; have F := HC.out w h.out; go_simp; (try with_reducible rfl))
  try simp only [pt]
  refine' tk (i := 2) rfl (by kernel_rfl) (fun _ _ _ h => h) ?ya2 hHeld ?za2
  case ya2 => (refine .inl ⟨by rfl, fun w h => ?_⟩; have F := HC.out w h.out; go_simp; (try with_reducible rfl))
  try simp only [pt]
  refine' tk (i := 3) (v := undef) rfl (by kernel_rfl) (fun _ _ _ h => h) ?ya3 hHeld ?za3
  case ya3 => (exact Or.inr ⟨by rfl, rfl⟩)
  try simp only [pt]
  refine' tk (i := 4) (v := undef) rfl (by kernel_rfl) (fun _ _ _ h => h) ?ya4 hHeld ?za4
  case ya4 => (exact Or.inr ⟨by rfl, rfl⟩)
  try simp only [pt]
  refine' tk (i := 5) (v := undef) rfl (by kernel_rfl) (fun _ _ _ h => h) ?ya5 hHeld ?za5
  case ya5 => (exact Or.inr ⟨by rfl, rfl⟩)
  try simp only [pt]
  refine' tk (i := 6) rfl (by kernel_rfl) (fun _ _ _ h => h) ?ya6 hHeld ?za6
  case ya6 => (refine .inl ⟨by rfl, fun w h => ?_⟩; have F := HC.out w h.out; go_simp; (try with_reducible rfl))
  try simp only [pt]
  refine' tk (i := 7) rfl (by kernel_rfl) (fun _ _ _ h => h) ?ya7 hHeld ?za7
  case ya7 => (refine .inl ⟨by rfl, fun w h => ?_⟩; have F := HC.out w h.out; go_simp; (try with_reducible rfl))
  try simp only [pt]
  refine' tk (i := 8) (v := undef) rfl (by kernel_rfl) (fun _ _ _ h => h) ?ya8 hHeld ?za8
  case ya8 => (exact Or.inr ⟨by rfl, rfl⟩)
  try simp only [pt]
  refine' tk (i := 9) (v := undef) rfl (by kernel_rfl) (fun _ _ _ h => h) ?ya9 hHeld ?za9
  case ya9 => (exact Or.inr ⟨by rfl, rfl⟩)
  try simp only [pt]
  refine' tk (i := 10) (v := undef) rfl (by kernel_rfl) (fun _ _ _ h => h) ?ya10 hHeld ?za10
  case ya10 => (exact Or.inr ⟨by rfl, rfl⟩)
  try simp only [pt]
  refine' tk (i := 11) (v := undef) rfl (by kernel_rfl) (fun _ _ _ h => h) ?ya11 hHeld ?za11
  case ya11 => (exact Or.inr ⟨by rfl, rfl⟩)
  try simp only [pt]
  refine' tk (i := 12) (v := undef) rfl (by kernel_rfl) (fun _ _ _ h => h) ?ya12 hHeld ?za12
  case ya12 => (exact Or.inr ⟨by rfl, rfl⟩)
  try simp only [pt]
  refine' tk (i := 13) (v := undef) rfl (by kernel_rfl) (fun _ _ _ h => h) ?ya13 hHeld ?za13
  case ya13 => (exact Or.inr ⟨by rfl, rfl⟩)
  try simp only [pt]
  refine' tk (i := 14) rfl (by kernel_rfl) (fun _ _ _ h => h) ?ya14 hHeld ?za14
  case ya14 => (refine .inl ⟨by rfl, fun w h => ?_⟩; have F := HC.out w h.out; go_simp; (try with_reducible rfl))
  try simp only [pt]
  refine wpAnyH_done (by kernel_rfl) ?_ _
  go_wp2_with fail
  go_ret
  exact ⟨rfl, B1.out.trans (hHeld.out.mono B1.out.size)⟩
set_option maxHeartbeats 4000000 in
set_option maxRecDepth 100000 in
theorem rlad_odd {len : Nat} (h : 2 ≤ len) (h1 : len % 2 = 1) (c : Nat) : Calls Tryd.prog 27 #[.agg #[.int .i64 rw, .int .i64 rc, .int .i64 rl], .slice A len c] w fun e w' => e = .returned (.bool false) ∧ Below w.heap.size w w' := by
  obtain ⟨w1, e1, b1, k2, s1⟩ := box1 w (.cells #[.int .i64 rw, .int .i64 rc, .int .i64 rl] 42)
  have HE := Lib.hid e1
  have B1 := Lib.hid b1
  have HC := Lib.hid fun (w' : World) (hb : Below w1.heap.size w1 w') => (show (w'.cell? ⟨w.heap.size, 0, none⟩ = some (.int .i64 rw) ∧ w'.cell? ⟨w.heap.size, 1, none⟩ = some (.int .i64 rc) ∧ w'.cell? ⟨w.heap.size, 2, none⟩ = some (.int .i64 rl)) from room2_cells (blk_below k2 hb))
  have q1 : ((len : Int) < 2) = False := eq_false (by omega)
  have q2 : (len < 2) = False := eq_false (by omega)
  have q3 : (len : Int).tmod 2 = 1 := by rw [Int.tmod_eq_emod_of_nonneg (by omega)]; omega
  clear k2 e1 b1 s1 h h1
  go_enter Tryd.func27, Tryd.ntmps27
  go_wp2_with fail
  rw [HE.out]
  refine wp_region_held_drew (S := fun w' => Aside0 (Below w1.heap.size w1 w')) (by kernel_rfl) ?_ (fun hHeld => ?_)
  · exact ⟨(Below.refl _ _).drew⟩
  generalize World.drew _ = wDa at hHeld ⊢
  refine' tk (i := 0) rfl (by kernel_rfl) (fun _ _ _ h => h) ?ya0 hHeld ?za0
  case ya0 => (refine .inl ⟨by rfl, fun w h => ?_⟩; have F := HC.out w h.out; go_simp; (try with_reducible rfl))
  try simp only [pt]
  refine' tk (i := 1) rfl (by kernel_rfl) (fun _ _ _ h => h) ?ya1 hHeld ?za1
  case ya1 => (refine .inl ⟨by rfl, fun w h => ?_⟩; have F := HC.out w h.out; go_simp; (try with_reducible rfl))
  try simp only [pt]
  refine' tk (i := 2) rfl (by kernel_rfl) (fun _ _ _ h => h) ?ya2 hHeld ?za2
  case ya2 => (refine .inl ⟨by rfl, fun w h => ?_⟩; have F := HC.out w h.out; go_simp; (try with_reducible rfl))
  try simp only [pt]
  refine' tk (i := 3) rfl (by kernel_rfl) (fun _ _ _ h => h) ?ya3 hHeld ?za3
  case ya3 => (refine .inl ⟨by rfl, fun w h => ?_⟩; have F := HC.out w h.out; go_simp; (try with_reducible rfl))
  try simp only [pt]
  refine' tk (i := 4) rfl (by kernel_rfl) (fun _ _ _ h => h) ?ya4 hHeld ?za4
  case ya4 => (refine .inl ⟨by rfl, fun w h => ?_⟩; have F := HC.out w h.out; go_simp; (try with_reducible rfl))
  try simp only [pt]
  refine' tk (i := 5) rfl (by kernel_rfl) (fun _ _ _ h => h) ?ya5 hHeld ?za5
  case ya5 => (refine .inl ⟨by rfl, fun w h => ?_⟩; have F := HC.out w h.out; go_simp; (try with_reducible rfl))
  try simp only [pt]
  refine' tk (i := 6) rfl (by kernel_rfl) (fun _ _ _ h => h) ?ya6 hHeld ?za6
  case ya6 => (refine .inl ⟨by rfl, fun w h => ?_⟩; have F := HC.out w h.out; go_simp; (try with_reducible rfl))
  try simp only [pt]
  refine' tk (i := 7) rfl (by kernel_rfl) (fun _ _ _ h => h) ?ya7 hHeld ?za7
  case ya7 => (refine .inl ⟨by rfl, fun w h => ?_⟩; have F := HC.out w h.out; go_simp; (try with_reducible rfl))
  try simp only [pt]
  refine' tk (i := 8) (v := undef) rfl (by kernel_rfl) (fun _ _ _ h => h) ?ya8 hHeld ?za8
  case ya8 => (exact Or.inr ⟨by rfl, rfl⟩)
  try simp only [pt]
  refine' tk (i := 9) (v := undef) rfl (by kernel_rfl) (fun _ _ _ h => h) ?ya9 hHeld ?za9
  case ya9 => (exact Or.inr ⟨by rfl, rfl⟩)
  try simp only [pt]
  refine' tk (i := 10) (v := undef) rfl (by kernel_rfl) (fun _ _ _ h => h) ?ya10 hHeld ?za10
  case ya10 => (exact Or.inr ⟨by rfl, rfl⟩)
  try simp only [pt]
  refine' tk (i := 11) (v := undef) rfl (by kernel_rfl) (fun _ _ _ h => h) ?ya11 hHeld ?za11
  case ya11 => (exact Or.inr ⟨by rfl, rfl⟩)
  try simp only [pt]
  refine' tk (i := 12) (v := undef) rfl (by kernel_rfl) (fun _ _ _ h => h) ?ya12 hHeld ?za12
  case ya12 => (exact Or.inr ⟨by rfl, rfl⟩)
  try simp only [pt]
  refine' tk (i := 13) (v := undef) rfl (by kernel_rfl) (fun _ _ _ h => h) ?ya13 hHeld ?za13
  case ya13 => (exact Or.inr ⟨by rfl, rfl⟩)
  try simp only [pt]
  refine' tk (i := 14) rfl (by kernel_rfl) (fun _ _ _ h => h) ?ya14 hHeld ?za14
  case ya14 => (refine .inl ⟨by rfl, fun w h => ?_⟩; have F := HC.out w h.out; go_simp; (try with_reducible rfl))
  try simp only [pt]
  refine wpAnyH_done (by kernel_rfl) ?_ _
  go_wp2_with fail
  go_ret
  exact ⟨rfl, B1.out.trans (hHeld.out.mono B1.out.size)⟩
set_option maxHeartbeats 4000000 in
set_option maxRecDepth 100000 in
theorem rlad_first (s : Cr → Int) (h : 2 ≤ l.length) (he : l.length % 2 = 0) (hbig : l.length ≤ 4398046511104) (hl : LiesL w A 0 l) (ih : ∀ k ∈ l, SortR rw rc rl k (s k)) (h1 : ∀ a t, l = a :: t → ¬ s a = 1) (c : Nat) : Calls Tryd.prog 27 #[.agg #[.int .i64 rw, .int .i64 rc, .int .i64 rl], .slice A l.length c] w fun e w' => e = .returned (.bool false) ∧ Below w.heap.size w w' := by
  obtain ⟨a, t, rfl⟩ : ∃ a t, l = a :: t := by
    match l, h with
    | a :: t, _ => exact ⟨a, t, rfl⟩
  obtain ⟨b, rfl⟩ : ∃ b, A = some b := by
    obtain ⟨b, hb, -⟩ := hl.cells (i := 0) (k := a) rfl
    exact ⟨b, hb⟩
  obtain ⟨w1, e1, b1, k2, s1⟩ := box1 w (.cells #[.int .i64 rw, .int .i64 rc, .int .i64 rl] 42)
  have HE := Lib.hid e1
  have B1 := Lib.hid b1
  have HL := Lib.hid (hl.below b1)
  have HK2 := Lib.hid k2
  have HIH := Lib.hid ih
  have KA := Lib.hid (ih a (by simp))
  have LA := Lib.hid (LiesL.lies (hl.below b1) (k := a) (by simp))
  have HC := Lib.hid fun (w' : World) (hb : Below w1.heap.size w1 w') => (show (w'.cell? ⟨w.heap.size, 0, none⟩ = some (.int .i64 rw) ∧ w'.cell? ⟨w.heap.size, 1, none⟩ = some (.int .i64 rc) ∧ w'.cell? ⟨w.heap.size, 2, none⟩ = some (.int .i64 rl)) ∧ (w'.cell? b = some (.int .i64 a.op) ∧ w'.cell? ⟨b.block, b.off + 1, none⟩ = some (.int .i64 a.n) ∧ w'.cell? ⟨b.block, b.off + 2, none⟩ = some (.int .i64 a.m) ∧ w'.cell? ⟨b.block, b.off + 3, none⟩ = some (.slice a.at_ a.kids.length a.cap)) from ⟨room2_cells (blk_below HK2.out hb), HL.out.lit0 hb rfl⟩)
  obtain ⟨len, hlen⟩ : ∃ n, (a :: t).length = n := ⟨_, rfl⟩
  have HN := Lib.hid hlen
  rw [hlen] at h he hbig ⊢
  have q1 : ((len : Int) < 2) = False := eq_false (by omega)
  have q2 : (len < 2) = False := eq_false (by omega)
  have q4 : (0 < len) = True := eq_true (by omega)
  have q5 : ((0 : Int) < (len : Int)) = True := eq_true (by omega)
  have HBG := Lib.hid (show len ≤ 4398046511104 ∧ len % 2 = 0 ∧ 2 ≤ len from ⟨hbig, he, h⟩)
  have q3 : (len : Int).tmod 2 = 0 := by rw [Int.tmod_eq_emod_of_nonneg (by omega)]; omega
  have q6 : (s a != 1) = true := by simpa using h1 a t rfl
  clear k2 e1 b1 s1 h h1 he hbig hl ih hlen
  go_enter Tryd.func27, Tryd.ntmps27
  go_wp2_with fail
  rw [HE.out]
  refine wp_region_held_drew (S := fun w' => Aside0 (Below w1.heap.size w1 w')) (by kernel_rfl) ?_ (fun hHeld => ?_)
  · exact ⟨(Below.refl _ _).drew⟩
  generalize World.drew _ = wDa at hHeld ⊢
  refine' tk (i := 0) rfl (by kernel_rfl) (fun _ _ _ h => h) ?ya0 hHeld ?za0
  case ya0 => (refine .inl ⟨by rfl, fun w h => ?_⟩; have F := HC.out w h.out; go_simp; (try with_reducible rfl))
  try simp only [pt]
  refine' tk (i := 1) rfl (by kernel_rfl) (fun _ _ _ h => h) ?ya1 hHeld ?za1
  case ya1 => (refine .inl ⟨by rfl, fun w h => ?_⟩; have F := HC.out w h.out; go_simp; (try with_reducible rfl))
  try simp only [pt]
  refine' tk (i := 2) rfl (by kernel_rfl) (fun _ _ _ h => h) ?ya2 hHeld ?za2
  case ya2 => (refine .inl ⟨by rfl, fun w h => ?_⟩; have F := HC.out w h.out; go_simp; (try with_reducible rfl))
  try simp only [pt]
  refine' tk (i := 3) rfl (by kernel_rfl) (fun _ _ _ h => h) ?ya3 hHeld ?za3
  case ya3 => (refine .inl ⟨by rfl, fun w h => ?_⟩; have F := HC.out w h.out; go_simp; (try with_reducible rfl))
  try simp only [pt]
  refine' tk (i := 4) rfl (by kernel_rfl) (fun _ _ _ h => h) ?ya4 hHeld ?za4
  case ya4 => (refine .inl ⟨by rfl, fun w h => ?_⟩; have F := HC.out w h.out; go_simp; (try with_reducible rfl))
  try simp only [pt]
  refine' tk (i := 5) rfl (by kernel_rfl) (fun _ _ _ h => h) ?ya5 hHeld ?za5
  case ya5 => (refine .inl ⟨by rfl, fun w h => ?_⟩; have F := HC.out w h.out; go_simp; (try with_reducible rfl))
  try simp only [pt]
  refine' tk (i := 6) rfl (by kernel_rfl) (fun _ _ _ h => h) ?ya6 hHeld ?za6
  case ya6 => (refine .inl ⟨by rfl, fun w h => ?_⟩; have F := HC.out w h.out; go_simp; (try with_reducible rfl))
  try simp only [pt]
  refine' tk (i := 7) rfl (by kernel_rfl) (fun _ _ _ h => h) ?ya7 hHeld ?za7
  case ya7 => (refine .inl ⟨by rfl, fun w h => ?_⟩; have F := HC.out w h.out; go_simp; (try with_reducible rfl))
  try simp only [pt]
  refine' tk (i := 8) rfl (by kernel_rfl) (fun _ _ _ h => h) ?ya8 hHeld ?za8
  case ya8 => (refine .inl ⟨by rfl, fun w h => ?_⟩; have F := HC.out w h.out; go_simp; (try with_reducible rfl))
  try simp only [pt]
  refine' tk (i := 9) rfl (by kernel_rfl) (fun _ _ _ h => h) ?ya9 hHeld ?za9
  case ya9 => (refine .inl ⟨by rfl, fun w h => ?_⟩; have F := HC.out w h.out; go_simp; (try with_reducible rfl))
  try simp only [pt]
  refine' tk (i := 10) rfl (by kernel_rfl) (fun _ _ _ h => h) ?ya10 hHeld ?za10
  case ya10 => (refine .inl ⟨by rfl, fun w h => ?_⟩; have F := HC.out w h.out; go_simp; (try with_reducible rfl))
  try simp only [pt]
  refine' tk (i := 11) rfl (by kernel_rfl) (fun _ _ _ h => h) ?ya11 hHeld ?za11
  case ya11 => (refine .inl ⟨by rfl, fun w h => ?_⟩; have F := HC.out w h.out; go_simp; (try with_reducible rfl))
  try simp only [pt]
  refine wpAnyH_ready (rs := [12]) (by kernel_rfl) (by simp) ?_
  refine AllReadyH.cons (o := ?oi_a12) ?hi_a12 (fun K hK => ?kk_a12) AllReadyH.nil
  case hi_a12 => (simp only [List.getElem?_toArray, List.getElem?_cons_succ, List.getElem?_cons_zero]; rfl)
  go_simp
  refine (KA.out _ (LA.out.below hHeld.out)).mono ?_
  rintro e w7 ⟨rfl, hb2⟩
  refine hK.out _ _ ⟨hHeld.out.trans (hb2.mono hHeld.out.size)⟩ (fun hHeld => ?_)
  clear hK K
  try simp only [pt]
  refine' tk (i := 13) rfl (by kernel_rfl) (fun _ _ _ h => h) ?ya13 hHeld ?za13
  case ya13 => (refine .inl ⟨by rfl, fun w h => ?_⟩; have F := HC.out w h.out; go_simp; (try with_reducible rfl))
  try simp only [pt]
  refine' tk (i := 14) rfl (by kernel_rfl) (fun _ _ _ h => h) ?ya14 hHeld ?za14
  case ya14 => (refine .inl ⟨by rfl, fun w h => ?_⟩; have F := HC.out w h.out; go_simp; (try with_reducible rfl))
  try simp only [pt]
  refine wpAnyH_done (by kernel_rfl) ?_ _
  go_wp2_with fail
  go_ret
  exact ⟨rfl, B1.out.trans (hHeld.out.mono B1.out.size)⟩
theorem prvL_step {l : List Cr} {i : Nat} {x : Cr} (hx : l[i]? = some x) (hi : 1 ≤ i) : prvL l (i + 2) = some x.n := by
  unfold prvL
  rw [if_neg (by omega), Nat.add_sub_cancel, hx]
  rfl
set_option maxHeartbeats 8000000 in
set_option maxRecDepth 100000 in
theorem rlad_rungs (s : Cr → Int) (h : 2 ≤ l.length) (he : l.length % 2 = 0) (hbig : l.length ≤ 4398046511104) (hl : LiesL w A 0 l) (ih : ∀ k ∈ l, SortR rw rc rl k (s k)) (h1 : ∀ a t, l = a :: t → s a = 1) {r : Bool} (hr : ∀ a t, l = a :: t → rungsP s none t = r) (c : Nat) : Calls Tryd.prog 27 #[.agg #[.int .i64 rw, .int .i64 rc, .int .i64 rl], .slice A l.length c] w fun e w' => e = .returned (.bool r) ∧ Below w.heap.size w w' := by
  obtain ⟨a, t, rfl⟩ : ∃ a t, l = a :: t := by
    match l, h with
    | a :: t, _ => exact ⟨a, t, rfl⟩
  obtain ⟨b, rfl⟩ : ∃ b, A = some b := by
    obtain ⟨b, hb, -⟩ := hl.cells (i := 0) (k := a) rfl
    exact ⟨b, hb⟩
  obtain ⟨w1, e1, b1, k2, s1⟩ := box1 w (.cells #[.int .i64 rw, .int .i64 rc, .int .i64 rl] 42)
  have HE := Lib.hid e1
  have B1 := Lib.hid b1
  have HL := Lib.hid (hl.below b1)
  have HK2 := Lib.hid k2
  have HIH := Lib.hid ih
  have KA := Lib.hid (ih a (by simp))
  have LA := Lib.hid (LiesL.lies (hl.below b1) (k := a) (by simp))
  have HC := Lib.hid fun (w' : World) (hb : Below w1.heap.size w1 w') => (show (w'.cell? ⟨w.heap.size, 0, none⟩ = some (.int .i64 rw) ∧ w'.cell? ⟨w.heap.size, 1, none⟩ = some (.int .i64 rc) ∧ w'.cell? ⟨w.heap.size, 2, none⟩ = some (.int .i64 rl)) ∧ (w'.cell? b = some (.int .i64 a.op) ∧ w'.cell? ⟨b.block, b.off + 1, none⟩ = some (.int .i64 a.n) ∧ w'.cell? ⟨b.block, b.off + 2, none⟩ = some (.int .i64 a.m) ∧ w'.cell? ⟨b.block, b.off + 3, none⟩ = some (.slice a.at_ a.kids.length a.cap)) from ⟨room2_cells (blk_below HK2.out hb), HL.out.lit0 hb rfl⟩)
  obtain ⟨len, hlen⟩ : ∃ n, (a :: t).length = n := ⟨_, rfl⟩
  have HN := Lib.hid hlen
  rw [hlen] at h he hbig ⊢
  have q1 : ((len : Int) < 2) = False := eq_false (by omega)
  have q2 : (len < 2) = False := eq_false (by omega)
  have q4 : (0 < len) = True := eq_true (by omega)
  have q5 : ((0 : Int) < (len : Int)) = True := eq_true (by omega)
  have HBG := Lib.hid (show len ≤ 4398046511104 ∧ len % 2 = 0 ∧ 2 ≤ len from ⟨hbig, he, h⟩)
  have q3 : (len : Int).tmod 2 = 0 := by rw [Int.tmod_eq_emod_of_nonneg (by omega)]; omega
  have q6 : (s a != 1) = false := by simpa using h1 a t rfl
  have HR := Lib.hid (show rungsP s (prvL (a :: t) 1) ((a :: t).drop 1) = r from hr a t rfl)
  obtain ⟨l, hll⟩ : ∃ l, a :: t = l := ⟨_, rfl⟩
  rw [hll] at HR HN HL HIH
  have HOD := Lib.hid (show 2 ≤ len from h)
  have w9 : wrap64 ((len : Int) - 1) = ((len - 1 : Nat) : Int) := by unfold wrap64; omega
  obtain ⟨ln1, hln1⟩ : ∃ n, len - 1 = n := ⟨_, rfl⟩
  rw [hln1] at w9
  have HLN1 := Lib.hid hln1
  have w10 : IntKind.i64.wrap ((len : Int) - 1) = (ln1 : Int) := by rw [i64_w]; exact w9
  clear k2 e1 b1 s1 h h1 he hbig hl ih hlen hr hln1 hll
  go_enter Tryd.func27, Tryd.ntmps27
  go_wp2_with fail
  rw [HE.out]
  refine wp_region_held_drew (S := fun w' => Aside0 (Below w1.heap.size w1 w')) (by kernel_rfl) ?_ (fun hHeld => ?_)
  · exact ⟨(Below.refl _ _).drew⟩
  generalize World.drew _ = wDa at hHeld ⊢
  refine' tk (i := 0) rfl (by kernel_rfl) (fun _ _ _ h => h) ?ya0 hHeld ?za0
  case ya0 => (refine .inl ⟨by rfl, fun w h => ?_⟩; have F := HC.out w h.out; go_simp; (try with_reducible rfl))
  try simp only [pt]
  refine' tk (i := 1) rfl (by kernel_rfl) (fun _ _ _ h => h) ?ya1 hHeld ?za1
  case ya1 => (refine .inl ⟨by rfl, fun w h => ?_⟩; have F := HC.out w h.out; go_simp; (try with_reducible rfl))
  try simp only [pt]
  refine' tk (i := 2) rfl (by kernel_rfl) (fun _ _ _ h => h) ?ya2 hHeld ?za2
  case ya2 => (refine .inl ⟨by rfl, fun w h => ?_⟩; have F := HC.out w h.out; go_simp; (try with_reducible rfl))
  try simp only [pt]
  refine' tk (i := 3) rfl (by kernel_rfl) (fun _ _ _ h => h) ?ya3 hHeld ?za3
  case ya3 => (refine .inl ⟨by rfl, fun w h => ?_⟩; have F := HC.out w h.out; go_simp; (try with_reducible rfl))
  try simp only [pt]
  refine' tk (i := 4) rfl (by kernel_rfl) (fun _ _ _ h => h) ?ya4 hHeld ?za4
  case ya4 => (refine .inl ⟨by rfl, fun w h => ?_⟩; have F := HC.out w h.out; go_simp; (try with_reducible rfl))
  try simp only [pt]
  refine' tk (i := 5) rfl (by kernel_rfl) (fun _ _ _ h => h) ?ya5 hHeld ?za5
  case ya5 => (refine .inl ⟨by rfl, fun w h => ?_⟩; have F := HC.out w h.out; go_simp; (try with_reducible rfl))
  try simp only [pt]
  refine' tk (i := 6) rfl (by kernel_rfl) (fun _ _ _ h => h) ?ya6 hHeld ?za6
  case ya6 => (refine .inl ⟨by rfl, fun w h => ?_⟩; have F := HC.out w h.out; go_simp; (try with_reducible rfl))
  try simp only [pt]
  refine' tk (i := 7) rfl (by kernel_rfl) (fun _ _ _ h => h) ?ya7 hHeld ?za7
  case ya7 => (refine .inl ⟨by rfl, fun w h => ?_⟩; have F := HC.out w h.out; go_simp; (try with_reducible rfl))
  try simp only [pt]
  refine' tk (i := 8) rfl (by kernel_rfl) (fun _ _ _ h => h) ?ya8 hHeld ?za8
  case ya8 => (refine .inl ⟨by rfl, fun w h => ?_⟩; have F := HC.out w h.out; go_simp; (try with_reducible rfl))
  try simp only [pt]
  refine' tk (i := 9) rfl (by kernel_rfl) (fun _ _ _ h => h) ?ya9 hHeld ?za9
  case ya9 => (refine .inl ⟨by rfl, fun w h => ?_⟩; have F := HC.out w h.out; go_simp; (try with_reducible rfl))
  try simp only [pt]
  refine' tk (i := 10) rfl (by kernel_rfl) (fun _ _ _ h => h) ?ya10 hHeld ?za10
  case ya10 => (refine .inl ⟨by rfl, fun w h => ?_⟩; have F := HC.out w h.out; go_simp; (try with_reducible rfl))
  try simp only [pt]
  refine' tk (i := 11) rfl (by kernel_rfl) (fun _ _ _ h => h) ?ya11 hHeld ?za11
  case ya11 => (refine .inl ⟨by rfl, fun w h => ?_⟩; have F := HC.out w h.out; go_simp; (try with_reducible rfl))
  try simp only [pt]
  refine wpAnyH_ready (rs := [12]) (by kernel_rfl) (by simp) ?_
  refine AllReadyH.cons (o := ?oi_a12) ?hi_a12 (fun K hK => ?kk_a12) AllReadyH.nil
  case hi_a12 => (simp only [List.getElem?_toArray, List.getElem?_cons_succ, List.getElem?_cons_zero]; rfl)
  go_simp
  refine (KA.out _ (LA.out.below hHeld.out)).mono ?_
  rintro e w7 ⟨rfl, hb2⟩
  refine hK.out _ _ ⟨hHeld.out.trans (hb2.mono hHeld.out.size)⟩ (fun hHeld => ?_)
  clear hK K
  try simp only [pt]
  refine' tk (i := 13) rfl (by kernel_rfl) (fun _ _ _ h => h) ?ya13 hHeld ?za13
  case ya13 => (refine .inl ⟨by rfl, fun w h => ?_⟩; have F := HC.out w h.out; go_simp; (try with_reducible rfl))
  try simp only [pt]
  refine' tk (i := 14) rfl (by kernel_rfl) (fun _ _ _ h => h) ?ya14 hHeld ?za14
  case ya14 => (refine .inl ⟨by rfl, fun w h => ?_⟩; have F := HC.out w h.out; go_simp; (try with_reducible rfl))
  try simp only [pt]
  refine wpAnyH_done (by kernel_rfl) ?_ _
  go_wp2_with fail
  clear HC KA LA q1 q2 q3 q4 q5 q6
  go_loopg [6] len (fun gg v6 wr => ∃ i : Nat, v6 = .int .i64 i ∧ Aside0 (i % 2 = 1 ∧ 1 ≤ i ∧ i < len ∧ len - i ≤ gg) ∧ Aside0 (Below w1.heap.size w1 wr) ∧ Aside0 (rungsP s (prvL l i) (l.drop i) = r))
  case atStart => exact ⟨1, rfl, ⟨by have := HOD.out; omega⟩, ⟨hHeld.out⟩, ⟨HR.out⟩⟩
  case round =>
    clear hHeld
    obtain ⟨i, rfl, hi, BW, HRR⟩ := hrel
    have HI := Lib.hid hi.out
    have HB := Lib.hid BW.out
    have HQ := Lib.hid HRR.out
    clear hi BW HRR HR
    obtain ⟨j, hj⟩ : ∃ j, i + 1 = j := ⟨_, rfl⟩
    have HJ := Lib.hid hj
    have hiR : i ≤ 4398046511104 := by have := HI.out; have := HBG.out; omega
    obtain ⟨x, hx⟩ : ∃ x, l[i]? = some x := ⟨_, List.getElem?_eq_getElem (by rw [HN.out]; exact HI.out.2.2.1)⟩
    have HX := Lib.hid hx
    have HXK := Lib.hid (HIH.out x (List.mem_of_getElem? hx))
    have HXL := Lib.hid (LiesL.lies HL.out (List.mem_of_getElem? hx))
    have hi0 := eq_true (show (0 : Int) ≤ (i : Int) by omega)
    have hi1 : ((i : Int) < (len : Int)) = True := eq_true (by have := HI.out; omega)
    by_cases hlt : j < len
    · have hi2 : ((i : Int) < (ln1 : Int)) = True := eq_true (by have := HLN1.out; omega)
      have hi3 : (i < ln1) = True := eq_true (by have := HLN1.out; omega)
      obtain ⟨y, hy⟩ : ∃ y, l[j]? = some y := ⟨_, List.getElem?_eq_getElem (by rw [HN.out]; exact hlt)⟩
      have HY := Lib.hid hy
      have HYK := Lib.hid (HIH.out y (List.mem_of_getElem? hy))
      have HYL := Lib.hid (LiesL.lies HL.out (List.mem_of_getElem? hy))
      have hST := rungsP_step (s := s) hx (by rw [hj]; exact hy) (prvL l i)
      rw [HQ.out] at hST
      have HST := Lib.hid hST
      have hj0 := eq_true (show (0 : Int) ≤ (j : Int) by omega)
      have hj1 : ((j : Int) < (len : Int)) = True := eq_true (by omega)
      have HC := Lib.hid fun (w' : World) (hb : Below wr.heap.size wr w') => (show ((w'.cell? ⟨w.heap.size, 0, none⟩ = some (.int .i64 rw) ∧ w'.cell? ⟨w.heap.size, 1, none⟩ = some (.int .i64 rc) ∧ w'.cell? ⟨w.heap.size, 2, none⟩ = some (.int .i64 rl)) ∧
          (w'.cell? (b.add (i * 4)) = some (.int .i64 x.op) ∧ w'.cell? ⟨(b.add (i * 4)).block, (b.add (i * 4)).off + 1, none⟩ = some (.int .i64 x.n) ∧ w'.cell? ⟨(b.add (i * 4)).block, (b.add (i * 4)).off + 2, none⟩ = some (.int .i64 x.m) ∧ w'.cell? ⟨(b.add (i * 4)).block, (b.add (i * 4)).off + 3, none⟩ = some (.slice x.at_ x.kids.length x.cap)) ∧
          (w'.cell? (b.add (j * 4)) = some (.int .i64 y.op) ∧ w'.cell? ⟨(b.add (j * 4)).block, (b.add (j * 4)).off + 1, none⟩ = some (.int .i64 y.n) ∧ w'.cell? ⟨(b.add (j * 4)).block, (b.add (j * 4)).off + 2, none⟩ = some (.int .i64 y.m) ∧ w'.cell? ⟨(b.add (j * 4)).block, (b.add (j * 4)).off + 3, none⟩ = some (.slice y.at_ y.kids.length y.cap)) ∧
          (∀ (h : Nat) (z : Cr), l[h]? = some z → w'.cell? ⟨(b.add (h * 4)).block, (b.add (h * 4)).off + 1, none⟩ = some (.int .i64 z.n))) from by
        have hb' := HB.out.trans (hb.mono HB.out.size)
        obtain ⟨p, hp, -, c0, c1, c2, c3⟩ := HL.out.cellsB hb' HX.out
        injection hp with hp
        subst hp
        obtain ⟨p, hp, -, d0, d1, d2, d3⟩ := HL.out.cellsB hb' HY.out
        injection hp with hp
        subst hp
        refine ⟨room2_cells (blk_below HK2.out hb'), ⟨c0, c1, c2, c3⟩, ⟨d0, d1, d2, d3⟩, fun h z hz => ?_⟩
        obtain ⟨p, hp, -, -, a1, -⟩ := HL.out.cellsB hb' hz
        injection hp with hp
        subst hp
        exact a1)
      obtain ⟨bd, hbd⟩ : ∃ bd, (s y != 3) = bd := ⟨_, rfl⟩
      have HBD := Lib.hid hbd
      obtain ⟨i2, hi2⟩ : ∃ i2, i + 2 = i2 := ⟨_, rfl⟩
      have HI2 := Lib.hid hi2
      have wj : wrap64 ((i : Int) + 1) = (j : Int) := by unfold wrap64; omega
      have wi2 : wrap64 ((i : Int) + 2) = (i2 : Int) := by unfold wrap64; omega
      have wj2 : IntKind.i64.wrap ((i : Int) + 1) = (j : Int) := by rw [i64_w]; exact wj
      have HLT := Lib.hid hlt
      clear hx hy hj hlt hST hiR hi2
      by_cases q1 : x.op = 1
      · have q1b : (x.op != 1) = false := by simp [q1]
        have HQ1 := Lib.hid q1
        clear q1
        by_cases q2 : s x = 1
        · have q2b : (s x != 1) = false := by simp [q2]
          by_cases q3 : i = 1
          · have hgt : ((1 : Int) < (i : Int)) = False := eq_false (by omega)
            have hgt2 : (1 < i) = False := eq_false (by omega)
            have HPZ := Lib.hid (show prvL l i = none by unfold prvL; rw [if_pos q3])
            clear q3
            go_wp2_with fail
            refine wp_region_held_drew (S := fun w' => Aside0 (Below wr.heap.size wr w')) (by kernel_rfl) ?_ (fun hHeld => ?_)
            · exact ⟨(Below.refl _ _).drew⟩
            generalize World.drew _ = wDc at hHeld ⊢
            refine' tk (i := 0) rfl (by kernel_rfl) (fun _ _ _ h => h) ?yc0 hHeld ?zc0
            case yc0 => (refine .inl ⟨by rfl, fun w h => ?_⟩; have F := HC.out w h.out; go_simp; (try with_reducible rfl))
            try simp only [pt]
            refine' tk (i := 1) rfl (by kernel_rfl) (fun _ _ _ h => h) ?yc1 hHeld ?zc1
            case yc1 => (refine .inl ⟨by rfl, fun w h => ?_⟩; have F := HC.out w h.out; go_simp; (try with_reducible rfl))
            try simp only [pt]
            refine' tk (i := 2) rfl (by kernel_rfl) (fun _ _ _ h => h) ?yc2 hHeld ?zc2
            case yc2 => (refine .inl ⟨by rfl, fun w h => ?_⟩; have F := HC.out w h.out; go_simp; (try with_reducible rfl))
            try simp only [pt]
            refine' tk (i := 3) rfl (by kernel_rfl) (fun _ _ _ h => h) ?yc3 hHeld ?zc3
            case yc3 => (refine .inl ⟨by rfl, fun w h => ?_⟩; have F := HC.out w h.out; go_simp; (try with_reducible rfl))
            try simp only [pt]
            refine' tk (i := 4) rfl (by kernel_rfl) (fun _ _ _ h => h) ?yc4 hHeld ?zc4
            case yc4 => (refine .inl ⟨by rfl, fun w h => ?_⟩; have F := HC.out w h.out; go_simp; (try with_reducible rfl))
            try simp only [pt]
            refine' tk (i := 5) rfl (by kernel_rfl) (fun _ _ _ h => h) ?yc5 hHeld ?zc5
            case yc5 => (refine .inl ⟨by rfl, fun w h => ?_⟩; have F := HC.out w h.out; go_simp; (try with_reducible rfl))
            try simp only [pt]
            refine' tk (i := 6) rfl (by kernel_rfl) (fun _ _ _ h => h) ?yc6 hHeld ?zc6
            case yc6 => (refine .inl ⟨by rfl, fun w h => ?_⟩; have F := HC.out w h.out; go_simp; (try with_reducible rfl))
            try simp only [pt]
            refine' tk (i := 7) rfl (by kernel_rfl) (fun _ _ _ h => h) ?yc7 hHeld ?zc7
            case yc7 => (refine .inl ⟨by rfl, fun w h => ?_⟩; have F := HC.out w h.out; go_simp; (try with_reducible rfl))
            try simp only [pt]
            refine' tk (i := 8) rfl (by kernel_rfl) (fun _ _ _ h => h) ?yc8 hHeld ?zc8
            case yc8 => (refine .inl ⟨by rfl, fun w h => ?_⟩; have F := HC.out w h.out; go_simp; (try with_reducible rfl))
            try simp only [pt]
            refine' tk (i := 9) rfl (by kernel_rfl) (fun _ _ _ h => h) ?yc9 hHeld ?zc9
            case yc9 => (refine .inl ⟨by rfl, fun w h => ?_⟩; have F := HC.out w h.out; go_simp; (try with_reducible rfl))
            try simp only [pt]
            refine' tk (i := 10) rfl (by kernel_rfl) (fun _ _ _ h => h) ?yc10 hHeld ?zc10
            case yc10 => (refine .inl ⟨by rfl, fun w h => ?_⟩; have F := HC.out w h.out; go_simp; (try with_reducible rfl))
            try simp only [pt]
            refine' tk (i := 11) rfl (by kernel_rfl) (fun _ _ _ h => h) ?yc11 hHeld ?zc11
            case yc11 => (refine .inl ⟨by rfl, fun w h => ?_⟩; have F := HC.out w h.out; go_simp; (try with_reducible rfl))
            try simp only [pt]
            refine wpAnyH_ready (rs := [12]) (by kernel_rfl) (by simp) ?_
            refine AllReadyH.cons (o := ?oi_c12) ?hi_c12 (fun K hK => ?kk_c12) AllReadyH.nil
            case hi_c12 => (simp only [List.getElem?_toArray, List.getElem?_cons_succ, List.getElem?_cons_zero]; rfl)
            go_simp
            refine (HXK.out _ (HXL.out.below (HB.out.trans (hHeld.out.mono HB.out.size)))).mono ?_
            rintro e w7 ⟨rfl, hb2⟩
            refine hK.out _ _ ⟨hHeld.out.trans (hb2.mono hHeld.out.size)⟩ (fun hHeld => ?_)
            clear hK K
            try simp only [pt]
            refine' tk (i := 13) rfl (by kernel_rfl) (fun _ _ _ h => h) ?yc13 hHeld ?zc13
            case yc13 => (refine .inl ⟨by rfl, fun w h => ?_⟩; have F := HC.out w h.out; go_simp; (try with_reducible rfl))
            try simp only [pt]
            refine' tk (i := 14) rfl (by kernel_rfl) (fun _ _ _ h => h) ?yc14 hHeld ?zc14
            case yc14 => (refine .inl ⟨by rfl, fun w h => ?_⟩; have F := HC.out w h.out; go_simp; (try with_reducible rfl))
            try simp only [pt]
            refine' tk (i := 15) rfl (by kernel_rfl) (fun _ _ _ h => h) ?yc15 hHeld ?zc15
            case yc15 => (refine .inl ⟨by rfl, fun w h => ?_⟩; have F := HC.out w h.out; go_simp; (try with_reducible rfl))
            try simp only [pt]
            refine' tk (i := 16) rfl (by kernel_rfl) (fun _ _ _ h => h) ?yc16 hHeld ?zc16
            case yc16 => (refine .inl ⟨by rfl, fun w h => ?_⟩; have F := HC.out w h.out; go_simp; (try with_reducible rfl))
            try simp only [pt]
            refine' tk (i := 17) rfl (by kernel_rfl) (fun _ _ _ h => h) ?yc17 hHeld ?zc17
            case yc17 => (refine .inl ⟨by rfl, fun w h => ?_⟩; have F := HC.out w h.out; go_simp; (try with_reducible rfl))
            try simp only [pt]
            refine' tk (i := 18) rfl (by kernel_rfl) (fun _ _ _ h => h) ?yc18 hHeld ?zc18
            case yc18 => (refine .inl ⟨by rfl, fun w h => ?_⟩; have F := HC.out w h.out; go_simp; (try with_reducible rfl))
            try simp only [pt]
            refine' tk (i := 19) (v := undef) rfl (by kernel_rfl) (fun _ _ _ h => h) ?yc19 hHeld ?zc19
            case yc19 => (exact Or.inr ⟨by rfl, rfl⟩)
            try simp only [pt]
            refine' tk (i := 20) (v := undef) rfl (by kernel_rfl) (fun _ _ _ h => h) ?yc20 hHeld ?zc20
            case yc20 => (exact Or.inr ⟨by rfl, rfl⟩)
            try simp only [pt]
            refine' tk (i := 21) (v := undef) rfl (by kernel_rfl) (fun _ _ _ h => h) ?yc21 hHeld ?zc21
            case yc21 => (exact Or.inr ⟨by rfl, rfl⟩)
            try simp only [pt]
            refine' tk (i := 22) (v := undef) rfl (by kernel_rfl) (fun _ _ _ h => h) ?yc22 hHeld ?zc22
            case yc22 => (exact Or.inr ⟨by rfl, rfl⟩)
            try simp only [pt]
            refine' tk (i := 23) (v := undef) rfl (by kernel_rfl) (fun _ _ _ h => h) ?yc23 hHeld ?zc23
            case yc23 => (exact Or.inr ⟨by rfl, rfl⟩)
            try simp only [pt]
            refine' tk (i := 24) (v := undef) rfl (by kernel_rfl) (fun _ _ _ h => h) ?yc24 hHeld ?zc24
            case yc24 => (exact Or.inr ⟨by rfl, rfl⟩)
            try simp only [pt]
            refine' tk (i := 25) (v := undef) rfl (by kernel_rfl) (fun _ _ _ h => h) ?yc25 hHeld ?zc25
            case yc25 => (exact Or.inr ⟨by rfl, rfl⟩)
            try simp only [pt]
            refine' tk (i := 26) (v := undef) rfl (by kernel_rfl) (fun _ _ _ h => h) ?yc26 hHeld ?zc26
            case yc26 => (exact Or.inr ⟨by rfl, rfl⟩)
            try simp only [pt]
            refine' tk (i := 27) (v := undef) rfl (by kernel_rfl) (fun _ _ _ h => h) ?yc27 hHeld ?zc27
            case yc27 => (exact Or.inr ⟨by rfl, rfl⟩)
            try simp only [pt]
            refine' tk (i := 28) (v := undef) rfl (by kernel_rfl) (fun _ _ _ h => h) ?yc28 hHeld ?zc28
            case yc28 => (exact Or.inr ⟨by rfl, rfl⟩)
            try simp only [pt]
            refine' tk (i := 29) (v := undef) rfl (by kernel_rfl) (fun _ _ _ h => h) ?yc29 hHeld ?zc29
            case yc29 => (exact Or.inr ⟨by rfl, rfl⟩)
            try simp only [pt]
            refine' tk (i := 30) (v := undef) rfl (by kernel_rfl) (fun _ _ _ h => h) ?yc30 hHeld ?zc30
            case yc30 => (exact Or.inr ⟨by rfl, rfl⟩)
            try simp only [pt]
            refine' tk (i := 31) rfl (by kernel_rfl) (fun _ _ _ h => h) ?yc31 hHeld ?zc31
            case yc31 => (refine .inl ⟨by rfl, fun w h => ?_⟩; have F := HC.out w h.out; go_simp; (try with_reducible rfl))
            try simp only [pt]
            refine' tk (i := 32) rfl (by kernel_rfl) (fun _ _ _ h => h) ?yc32 hHeld ?zc32
            case yc32 => (refine .inl ⟨by rfl, fun w h => ?_⟩; have F := HC.out w h.out; go_simp; (try with_reducible rfl))
            try simp only [pt]
            refine' tk (i := 33) rfl (by kernel_rfl) (fun _ _ _ h => h) ?yc33 hHeld ?zc33
            case yc33 => (refine .inl ⟨by rfl, fun w h => ?_⟩; have F := HC.out w h.out; go_simp; (try with_reducible rfl))
            try simp only [pt]
            refine' tk (i := 34) rfl (by kernel_rfl) (fun _ _ _ h => h) ?yc34 hHeld ?zc34
            case yc34 => (refine .inl ⟨by rfl, fun w h => ?_⟩; have F := HC.out w h.out; go_simp; (try with_reducible rfl))
            try simp only [pt]
            refine' tk (i := 35) rfl (by kernel_rfl) (fun _ _ _ h => h) ?yc35 hHeld ?zc35
            case yc35 => (refine .inl ⟨by rfl, fun w h => ?_⟩; have F := HC.out w h.out; go_simp; (try with_reducible rfl))
            try simp only [pt]
            refine' tk (i := 36) rfl (by kernel_rfl) (fun _ _ _ h => h) ?yc36 hHeld ?zc36
            case yc36 => (refine .inl ⟨by rfl, fun w h => ?_⟩; have F := HC.out w h.out; go_simp; (try with_reducible rfl))
            try simp only [pt]
            refine' tk (i := 37) rfl (by kernel_rfl) (fun _ _ _ h => h) ?yc37 hHeld ?zc37
            case yc37 => (refine .inl ⟨by rfl, fun w h => ?_⟩; have F := HC.out w h.out; go_simp; (try with_reducible rfl))
            try simp only [pt]
            refine' tk (i := 38) rfl (by kernel_rfl) (fun _ _ _ h => h) ?yc38 hHeld ?zc38
            case yc38 => (refine .inl ⟨by rfl, fun w h => ?_⟩; have F := HC.out w h.out; go_simp; (try with_reducible rfl))
            try simp only [pt]
            refine' tk (i := 39) rfl (by kernel_rfl) (fun _ _ _ h => h) ?yc39 hHeld ?zc39
            case yc39 => (refine .inl ⟨by rfl, fun w h => ?_⟩; have F := HC.out w h.out; go_simp; (try with_reducible rfl))
            try simp only [pt]
            refine wpAnyH_ready (rs := [40]) (by kernel_rfl) (by simp) ?_
            refine AllReadyH.cons (o := ?oi_c40) ?hi_c40 (fun K hK => ?kk_c40) AllReadyH.nil
            case hi_c40 => (simp only [List.getElem?_toArray, List.getElem?_cons_succ, List.getElem?_cons_zero]; rfl)
            go_simp
            refine (HYK.out _ (HYL.out.below (HB.out.trans (hHeld.out.mono HB.out.size)))).mono ?_
            rintro e w7 ⟨rfl, hb2⟩
            refine hK.out _ _ ⟨hHeld.out.trans (hb2.mono hHeld.out.size)⟩ (fun hHeld => ?_)
            clear hK K
            try simp only [pt]
            refine' tk (i := 41) rfl (by kernel_rfl) (fun _ _ _ h => h) ?yc41 hHeld ?zc41
            case yc41 => (refine .inl ⟨by rfl, fun w h => ?_⟩; have F := HC.out w h.out; go_simp; (try with_reducible rfl))
            try simp only [pt]
            refine' tk (i := 42) rfl (by kernel_rfl) (fun _ _ _ h => h) ?yc42 hHeld ?zc42
            case yc42 => (refine .inl ⟨by rfl, fun w h => ?_⟩; have F := HC.out w h.out; go_simp; (try with_reducible rfl))
            try simp only [pt]
            refine wpAnyH_done (by kernel_rfl) ?_ _
            cases bd with
            | true =>
              go_wp2_with fail
              go_ret
              refine ⟨?_, B1.out.trans ((HB.out.trans (hHeld.out.mono HB.out.size)).mono B1.out.size)⟩
              have e5 : (s y == 3) = false := by simpa using HBD.out
              rw [HST.out, e5]
              simp
            | false =>
              go_wp2_with fail
              go_roundg (gk - 2)
              case measure => clear wi2 wj wj2 w9 w10 ; have := HI.out; have := HJ.out; omega
              case rel =>
                have e5 : (s y == 3) = true := by simpa using HBD.out
                refine ⟨i2, by first | rfl | simp [wi2], ⟨by clear wi2 wj wj2 w9 w10 ; have := HI.out; have := HI2.out; have := HJ.out; have := HBG.out; have := HLT.out; omega⟩, ⟨HB.out.trans (hHeld.out.mono HB.out.size)⟩, ⟨?_⟩⟩
                rw [HST.out, e5, HPZ.out, HQ1.out, q2, ← HI2.out, prvL_step HX.out HI.out.2.1]
                simp
          · obtain ⟨h, hh⟩ : ∃ h, h + 2 = i := ⟨i - 2, by clear wj wj2 wi2 w9 w10; have := HI.out; omega⟩
            obtain ⟨z, hz⟩ : ∃ z, l[h]? = some z := ⟨_, List.getElem?_eq_getElem (by rw [HN.out]; clear wj wj2 wi2 w9 w10; have := HI.out; omega)⟩
            have HZ := Lib.hid hz
            have hpz : prvL l i = some z.n := by
              unfold prvL
              rw [if_neg q3, show i - 2 = h by omega, hz]
              rfl
            have HPZ := Lib.hid hpz
            have hh0 := eq_true (show (0 : Int) ≤ (h : Int) by omega)
            have hh1 : ((h : Int) < (len : Int)) = True := eq_true (by clear wj wj2 wi2 w9 w10; have := HI.out; omega)
            have hgt : ((1 : Int) < (i : Int)) = True := eq_true (by clear wj wj2 wi2 w9 w10; have := HI.out; omega)
            have hgt2 : (1 < i) = True := eq_true (by clear wj wj2 wi2 w9 w10; have := HI.out; omega)
            have wh : wrap64 ((i : Int) - 2) = (h : Int) := by clear wj wj2 wi2 w9 w10; have := HI.out; have := HBG.out; unfold wrap64; omega
            have wh2 : IntKind.i64.wrap ((i : Int) - 2) = (h : Int) := by rw [i64_w]; exact wh
            have HC2 := Lib.hid fun (w' : World) (hb : Below wr.heap.size wr w') => (show _ ∧ _ ∧ _ ∧ w'.cell? ⟨(b.add (h * 4)).block, (b.add (h * 4)).off + 1, none⟩ = some (.int .i64 z.n) from ⟨(HC.out w' hb).1, (HC.out w' hb).2.1, (HC.out w' hb).2.2.1, (HC.out w' hb).2.2.2 h z HZ.out⟩)
            clear hz hpz hh q3
            by_cases q4 : x.n ≤ z.n
            · go_wp2_with fail
              refine wp_region_held_drew (S := fun w' => Aside0 (Below wr.heap.size wr w')) (by kernel_rfl) ?_ (fun hHeld => ?_)
              · exact ⟨(Below.refl _ _).drew⟩
              generalize World.drew _ = wDd at hHeld ⊢
              refine' tk (i := 0) rfl (by kernel_rfl) (fun _ _ _ h => h) ?yd0 hHeld ?zd0
              case yd0 => (refine .inl ⟨by rfl, fun w h => ?_⟩; have F := HC2.out w h.out; go_simp; (try with_reducible rfl))
              try simp only [pt]
              refine' tk (i := 1) rfl (by kernel_rfl) (fun _ _ _ h => h) ?yd1 hHeld ?zd1
              case yd1 => (refine .inl ⟨by rfl, fun w h => ?_⟩; have F := HC2.out w h.out; go_simp; (try with_reducible rfl))
              try simp only [pt]
              refine' tk (i := 2) rfl (by kernel_rfl) (fun _ _ _ h => h) ?yd2 hHeld ?zd2
              case yd2 => (refine .inl ⟨by rfl, fun w h => ?_⟩; have F := HC2.out w h.out; go_simp; (try with_reducible rfl))
              try simp only [pt]
              refine' tk (i := 3) rfl (by kernel_rfl) (fun _ _ _ h => h) ?yd3 hHeld ?zd3
              case yd3 => (refine .inl ⟨by rfl, fun w h => ?_⟩; have F := HC2.out w h.out; go_simp; (try with_reducible rfl))
              try simp only [pt]
              refine' tk (i := 4) rfl (by kernel_rfl) (fun _ _ _ h => h) ?yd4 hHeld ?zd4
              case yd4 => (refine .inl ⟨by rfl, fun w h => ?_⟩; have F := HC2.out w h.out; go_simp; (try with_reducible rfl))
              try simp only [pt]
              refine' tk (i := 5) rfl (by kernel_rfl) (fun _ _ _ h => h) ?yd5 hHeld ?zd5
              case yd5 => (refine .inl ⟨by rfl, fun w h => ?_⟩; have F := HC2.out w h.out; go_simp; (try with_reducible rfl))
              try simp only [pt]
              refine' tk (i := 6) rfl (by kernel_rfl) (fun _ _ _ h => h) ?yd6 hHeld ?zd6
              case yd6 => (refine .inl ⟨by rfl, fun w h => ?_⟩; have F := HC2.out w h.out; go_simp; (try with_reducible rfl))
              try simp only [pt]
              refine' tk (i := 7) rfl (by kernel_rfl) (fun _ _ _ h => h) ?yd7 hHeld ?zd7
              case yd7 => (refine .inl ⟨by rfl, fun w h => ?_⟩; have F := HC2.out w h.out; go_simp; (try with_reducible rfl))
              try simp only [pt]
              refine' tk (i := 8) rfl (by kernel_rfl) (fun _ _ _ h => h) ?yd8 hHeld ?zd8
              case yd8 => (refine .inl ⟨by rfl, fun w h => ?_⟩; have F := HC2.out w h.out; go_simp; (try with_reducible rfl))
              try simp only [pt]
              refine' tk (i := 9) rfl (by kernel_rfl) (fun _ _ _ h => h) ?yd9 hHeld ?zd9
              case yd9 => (refine .inl ⟨by rfl, fun w h => ?_⟩; have F := HC2.out w h.out; go_simp; (try with_reducible rfl))
              try simp only [pt]
              refine' tk (i := 10) rfl (by kernel_rfl) (fun _ _ _ h => h) ?yd10 hHeld ?zd10
              case yd10 => (refine .inl ⟨by rfl, fun w h => ?_⟩; have F := HC2.out w h.out; go_simp; (try with_reducible rfl))
              try simp only [pt]
              refine' tk (i := 11) rfl (by kernel_rfl) (fun _ _ _ h => h) ?yd11 hHeld ?zd11
              case yd11 => (refine .inl ⟨by rfl, fun w h => ?_⟩; have F := HC2.out w h.out; go_simp; (try with_reducible rfl))
              try simp only [pt]
              refine wpAnyH_ready (rs := [12]) (by kernel_rfl) (by simp) ?_
              refine AllReadyH.cons (o := ?oi_d12) ?hi_d12 (fun K hK => ?kk_d12) AllReadyH.nil
              case hi_d12 => (simp only [List.getElem?_toArray, List.getElem?_cons_succ, List.getElem?_cons_zero]; rfl)
              go_simp
              refine (HXK.out _ (HXL.out.below (HB.out.trans (hHeld.out.mono HB.out.size)))).mono ?_
              rintro e w7 ⟨rfl, hb2⟩
              refine hK.out _ _ ⟨hHeld.out.trans (hb2.mono hHeld.out.size)⟩ (fun hHeld => ?_)
              clear hK K
              try simp only [pt]
              refine' tk (i := 13) rfl (by kernel_rfl) (fun _ _ _ h => h) ?yd13 hHeld ?zd13
              case yd13 => (refine .inl ⟨by rfl, fun w h => ?_⟩; have F := HC2.out w h.out; go_simp; (try with_reducible rfl))
              try simp only [pt]
              refine' tk (i := 14) rfl (by kernel_rfl) (fun _ _ _ h => h) ?yd14 hHeld ?zd14
              case yd14 => (refine .inl ⟨by rfl, fun w h => ?_⟩; have F := HC2.out w h.out; go_simp; (try with_reducible rfl))
              try simp only [pt]
              refine' tk (i := 15) rfl (by kernel_rfl) (fun _ _ _ h => h) ?yd15 hHeld ?zd15
              case yd15 => (refine .inl ⟨by rfl, fun w h => ?_⟩; have F := HC2.out w h.out; go_simp; (try with_reducible rfl))
              try simp only [pt]
              refine' tk (i := 16) rfl (by kernel_rfl) (fun _ _ _ h => h) ?yd16 hHeld ?zd16
              case yd16 => (refine .inl ⟨by rfl, fun w h => ?_⟩; have F := HC2.out w h.out; go_simp; (try with_reducible rfl))
              try simp only [pt]
              refine' tk (i := 17) rfl (by kernel_rfl) (fun _ _ _ h => h) ?yd17 hHeld ?zd17
              case yd17 => (refine .inl ⟨by rfl, fun w h => ?_⟩; have F := HC2.out w h.out; go_simp; (try with_reducible rfl))
              try simp only [pt]
              refine' tk (i := 18) rfl (by kernel_rfl) (fun _ _ _ h => h) ?yd18 hHeld ?zd18
              case yd18 => (refine .inl ⟨by rfl, fun w h => ?_⟩; have F := HC2.out w h.out; go_simp; (try with_reducible rfl))
              try simp only [pt]
              refine' tk (i := 19) rfl (by kernel_rfl) (fun _ _ _ h => h) ?yd19 hHeld ?zd19
              case yd19 => (refine .inl ⟨by rfl, fun w h => ?_⟩; have F := HC2.out w h.out; go_simp; (try with_reducible rfl))
              try simp only [pt]
              refine' tk (i := 20) rfl (by kernel_rfl) (fun _ _ _ h => h) ?yd20 hHeld ?zd20
              case yd20 => (refine .inl ⟨by rfl, fun w h => ?_⟩; have F := HC2.out w h.out; go_simp; (try with_reducible rfl))
              try simp only [pt]
              refine' tk (i := 21) rfl (by kernel_rfl) (fun _ _ _ h => h) ?yd21 hHeld ?zd21
              case yd21 => (refine .inl ⟨by rfl, fun w h => ?_⟩; have F := HC2.out w h.out; go_simp; (try with_reducible rfl))
              try simp only [pt]
              refine' tk (i := 22) rfl (by kernel_rfl) (fun _ _ _ h => h) ?yd22 hHeld ?zd22
              case yd22 => (refine .inl ⟨by rfl, fun w h => ?_⟩; have F := HC2.out w h.out; go_simp; (try with_reducible rfl))
              try simp only [pt]
              refine' tk (i := 23) rfl (by kernel_rfl) (fun _ _ _ h => h) ?yd23 hHeld ?zd23
              case yd23 => (refine .inl ⟨by rfl, fun w h => ?_⟩; have F := HC2.out w h.out; go_simp; (try with_reducible rfl))
              try simp only [pt]
              refine' tk (i := 24) rfl (by kernel_rfl) (fun _ _ _ h => h) ?yd24 hHeld ?zd24
              case yd24 => (refine .inl ⟨by rfl, fun w h => ?_⟩; have F := HC2.out w h.out; go_simp; (try with_reducible rfl))
              try simp only [pt]
              refine' tk (i := 25) rfl (by kernel_rfl) (fun _ _ _ h => h) ?yd25 hHeld ?zd25
              case yd25 => (refine .inl ⟨by rfl, fun w h => ?_⟩; have F := HC2.out w h.out; go_simp; (try with_reducible rfl))
              try simp only [pt]
              refine' tk (i := 26) rfl (by kernel_rfl) (fun _ _ _ h => h) ?yd26 hHeld ?zd26
              case yd26 => (refine .inl ⟨by rfl, fun w h => ?_⟩; have F := HC2.out w h.out; go_simp; (try with_reducible rfl))
              try simp only [pt]
              refine' tk (i := 27) rfl (by kernel_rfl) (fun _ _ _ h => h) ?yd27 hHeld ?zd27
              case yd27 => (refine .inl ⟨by rfl, fun w h => ?_⟩; have F := HC2.out w h.out; go_simp; (try with_reducible rfl))
              try simp only [pt]
              refine' tk (i := 28) rfl (by kernel_rfl) (fun _ _ _ h => h) ?yd28 hHeld ?zd28
              case yd28 => (refine .inl ⟨by rfl, fun w h => ?_⟩; have F := HC2.out w h.out; go_simp; (try with_reducible rfl))
              try simp only [pt]
              refine' tk (i := 29) rfl (by kernel_rfl) (fun _ _ _ h => h) ?yd29 hHeld ?zd29
              case yd29 => (refine .inl ⟨by rfl, fun w h => ?_⟩; have F := HC2.out w h.out; go_simp; (try with_reducible rfl))
              try simp only [pt]
              refine' tk (i := 30) rfl (by kernel_rfl) (fun _ _ _ h => h) ?yd30 hHeld ?zd30
              case yd30 => (refine .inl ⟨by rfl, fun w h => ?_⟩; have F := HC2.out w h.out; go_simp; (try with_reducible rfl))
              try simp only [pt]
              refine' tk (i := 31) rfl (by kernel_rfl) (fun _ _ _ h => h) ?yd31 hHeld ?zd31
              case yd31 => (refine .inl ⟨by rfl, fun w h => ?_⟩; have F := HC2.out w h.out; go_simp; (try with_reducible rfl))
              try simp only [pt]
              refine' tk (i := 32) rfl (by kernel_rfl) (fun _ _ _ h => h) ?yd32 hHeld ?zd32
              case yd32 => (refine .inl ⟨by rfl, fun w h => ?_⟩; have F := HC2.out w h.out; go_simp; (try with_reducible rfl))
              try simp only [pt]
              refine' tk (i := 33) rfl (by kernel_rfl) (fun _ _ _ h => h) ?yd33 hHeld ?zd33
              case yd33 => (refine .inl ⟨by rfl, fun w h => ?_⟩; have F := HC2.out w h.out; go_simp; (try with_reducible rfl))
              try simp only [pt]
              refine' tk (i := 34) (v := undef) rfl (by kernel_rfl) (fun _ _ _ h => h) ?yd34 hHeld ?zd34
              case yd34 => (exact Or.inr ⟨by rfl, rfl⟩)
              try simp only [pt]
              refine' tk (i := 35) (v := undef) rfl (by kernel_rfl) (fun _ _ _ h => h) ?yd35 hHeld ?zd35
              case yd35 => (exact Or.inr ⟨by rfl, rfl⟩)
              try simp only [pt]
              refine' tk (i := 36) (v := undef) rfl (by kernel_rfl) (fun _ _ _ h => h) ?yd36 hHeld ?zd36
              case yd36 => (exact Or.inr ⟨by rfl, rfl⟩)
              try simp only [pt]
              refine' tk (i := 37) (v := undef) rfl (by kernel_rfl) (fun _ _ _ h => h) ?yd37 hHeld ?zd37
              case yd37 => (exact Or.inr ⟨by rfl, rfl⟩)
              try simp only [pt]
              refine' tk (i := 38) (v := undef) rfl (by kernel_rfl) (fun _ _ _ h => h) ?yd38 hHeld ?zd38
              case yd38 => (exact Or.inr ⟨by rfl, rfl⟩)
              try simp only [pt]
              refine' tk (i := 39) (v := undef) rfl (by kernel_rfl) (fun _ _ _ h => h) ?yd39 hHeld ?zd39
              case yd39 => (exact Or.inr ⟨by rfl, rfl⟩)
              try simp only [pt]
              refine' tk (i := 40) (v := undef) rfl (by kernel_rfl) (fun _ _ _ h => h) ?yd40 hHeld ?zd40
              case yd40 => (exact Or.inr ⟨by rfl, rfl⟩)
              try simp only [pt]
              refine' tk (i := 41) (v := undef) rfl (by kernel_rfl) (fun _ _ _ h => h) ?yd41 hHeld ?zd41
              case yd41 => (exact Or.inr ⟨by rfl, rfl⟩)
              try simp only [pt]
              refine' tk (i := 42) rfl (by kernel_rfl) (fun _ _ _ h => h) ?yd42 hHeld ?zd42
              case yd42 => (refine .inl ⟨by rfl, fun w h => ?_⟩; have F := HC2.out w h.out; go_simp; (try with_reducible rfl))
              try simp only [pt]
              refine wpAnyH_done (by kernel_rfl) ?_ _
              go_wp2_with fail
              go_ret
              refine ⟨?_, B1.out.trans ((HB.out.trans (hHeld.out.mono HB.out.size)).mono B1.out.size)⟩
              rw [HST.out, HPZ.out]
              have e : decide (z.n < x.n) = false := decide_eq_false (Int.not_lt.2 q4)
              simp [e]
            · have q4b : (x.n ≤ z.n) = False := eq_false q4
              go_wp2_with fail
              refine wp_region_held_drew (S := fun w' => Aside0 (Below wr.heap.size wr w')) (by kernel_rfl) ?_ (fun hHeld => ?_)
              · exact ⟨(Below.refl _ _).drew⟩
              generalize World.drew _ = wDe at hHeld ⊢
              refine' tk (i := 0) rfl (by kernel_rfl) (fun _ _ _ h => h) ?ye0 hHeld ?ze0
              case ye0 => (refine .inl ⟨by rfl, fun w h => ?_⟩; have F := HC2.out w h.out; go_simp; (try with_reducible rfl))
              try simp only [pt]
              refine' tk (i := 1) rfl (by kernel_rfl) (fun _ _ _ h => h) ?ye1 hHeld ?ze1
              case ye1 => (refine .inl ⟨by rfl, fun w h => ?_⟩; have F := HC2.out w h.out; go_simp; (try with_reducible rfl))
              try simp only [pt]
              refine' tk (i := 2) rfl (by kernel_rfl) (fun _ _ _ h => h) ?ye2 hHeld ?ze2
              case ye2 => (refine .inl ⟨by rfl, fun w h => ?_⟩; have F := HC2.out w h.out; go_simp; (try with_reducible rfl))
              try simp only [pt]
              refine' tk (i := 3) rfl (by kernel_rfl) (fun _ _ _ h => h) ?ye3 hHeld ?ze3
              case ye3 => (refine .inl ⟨by rfl, fun w h => ?_⟩; have F := HC2.out w h.out; go_simp; (try with_reducible rfl))
              try simp only [pt]
              refine' tk (i := 4) rfl (by kernel_rfl) (fun _ _ _ h => h) ?ye4 hHeld ?ze4
              case ye4 => (refine .inl ⟨by rfl, fun w h => ?_⟩; have F := HC2.out w h.out; go_simp; (try with_reducible rfl))
              try simp only [pt]
              refine' tk (i := 5) rfl (by kernel_rfl) (fun _ _ _ h => h) ?ye5 hHeld ?ze5
              case ye5 => (refine .inl ⟨by rfl, fun w h => ?_⟩; have F := HC2.out w h.out; go_simp; (try with_reducible rfl))
              try simp only [pt]
              refine' tk (i := 6) rfl (by kernel_rfl) (fun _ _ _ h => h) ?ye6 hHeld ?ze6
              case ye6 => (refine .inl ⟨by rfl, fun w h => ?_⟩; have F := HC2.out w h.out; go_simp; (try with_reducible rfl))
              try simp only [pt]
              refine' tk (i := 7) rfl (by kernel_rfl) (fun _ _ _ h => h) ?ye7 hHeld ?ze7
              case ye7 => (refine .inl ⟨by rfl, fun w h => ?_⟩; have F := HC2.out w h.out; go_simp; (try with_reducible rfl))
              try simp only [pt]
              refine' tk (i := 8) rfl (by kernel_rfl) (fun _ _ _ h => h) ?ye8 hHeld ?ze8
              case ye8 => (refine .inl ⟨by rfl, fun w h => ?_⟩; have F := HC2.out w h.out; go_simp; (try with_reducible rfl))
              try simp only [pt]
              refine' tk (i := 9) rfl (by kernel_rfl) (fun _ _ _ h => h) ?ye9 hHeld ?ze9
              case ye9 => (refine .inl ⟨by rfl, fun w h => ?_⟩; have F := HC2.out w h.out; go_simp; (try with_reducible rfl))
              try simp only [pt]
              refine' tk (i := 10) rfl (by kernel_rfl) (fun _ _ _ h => h) ?ye10 hHeld ?ze10
              case ye10 => (refine .inl ⟨by rfl, fun w h => ?_⟩; have F := HC2.out w h.out; go_simp; (try with_reducible rfl))
              try simp only [pt]
              refine' tk (i := 11) rfl (by kernel_rfl) (fun _ _ _ h => h) ?ye11 hHeld ?ze11
              case ye11 => (refine .inl ⟨by rfl, fun w h => ?_⟩; have F := HC2.out w h.out; go_simp; (try with_reducible rfl))
              try simp only [pt]
              refine wpAnyH_ready (rs := [12]) (by kernel_rfl) (by simp) ?_
              refine AllReadyH.cons (o := ?oi_e12) ?hi_e12 (fun K hK => ?kk_e12) AllReadyH.nil
              case hi_e12 => (simp only [List.getElem?_toArray, List.getElem?_cons_succ, List.getElem?_cons_zero]; rfl)
              go_simp
              refine (HXK.out _ (HXL.out.below (HB.out.trans (hHeld.out.mono HB.out.size)))).mono ?_
              rintro e w7 ⟨rfl, hb2⟩
              refine hK.out _ _ ⟨hHeld.out.trans (hb2.mono hHeld.out.size)⟩ (fun hHeld => ?_)
              clear hK K
              try simp only [pt]
              refine' tk (i := 13) rfl (by kernel_rfl) (fun _ _ _ h => h) ?ye13 hHeld ?ze13
              case ye13 => (refine .inl ⟨by rfl, fun w h => ?_⟩; have F := HC2.out w h.out; go_simp; (try with_reducible rfl))
              try simp only [pt]
              refine' tk (i := 14) rfl (by kernel_rfl) (fun _ _ _ h => h) ?ye14 hHeld ?ze14
              case ye14 => (refine .inl ⟨by rfl, fun w h => ?_⟩; have F := HC2.out w h.out; go_simp; (try with_reducible rfl))
              try simp only [pt]
              refine' tk (i := 15) rfl (by kernel_rfl) (fun _ _ _ h => h) ?ye15 hHeld ?ze15
              case ye15 => (refine .inl ⟨by rfl, fun w h => ?_⟩; have F := HC2.out w h.out; go_simp; (try with_reducible rfl))
              try simp only [pt]
              refine' tk (i := 16) rfl (by kernel_rfl) (fun _ _ _ h => h) ?ye16 hHeld ?ze16
              case ye16 => (refine .inl ⟨by rfl, fun w h => ?_⟩; have F := HC2.out w h.out; go_simp; (try with_reducible rfl))
              try simp only [pt]
              refine' tk (i := 17) rfl (by kernel_rfl) (fun _ _ _ h => h) ?ye17 hHeld ?ze17
              case ye17 => (refine .inl ⟨by rfl, fun w h => ?_⟩; have F := HC2.out w h.out; go_simp; (try with_reducible rfl))
              try simp only [pt]
              refine' tk (i := 18) rfl (by kernel_rfl) (fun _ _ _ h => h) ?ye18 hHeld ?ze18
              case ye18 => (refine .inl ⟨by rfl, fun w h => ?_⟩; have F := HC2.out w h.out; go_simp; (try with_reducible rfl))
              try simp only [pt]
              refine' tk (i := 19) rfl (by kernel_rfl) (fun _ _ _ h => h) ?ye19 hHeld ?ze19
              case ye19 => (refine .inl ⟨by rfl, fun w h => ?_⟩; have F := HC2.out w h.out; go_simp; (try with_reducible rfl))
              try simp only [pt]
              refine' tk (i := 20) rfl (by kernel_rfl) (fun _ _ _ h => h) ?ye20 hHeld ?ze20
              case ye20 => (refine .inl ⟨by rfl, fun w h => ?_⟩; have F := HC2.out w h.out; go_simp; (try with_reducible rfl))
              try simp only [pt]
              refine' tk (i := 21) rfl (by kernel_rfl) (fun _ _ _ h => h) ?ye21 hHeld ?ze21
              case ye21 => (refine .inl ⟨by rfl, fun w h => ?_⟩; have F := HC2.out w h.out; go_simp; (try with_reducible rfl))
              try simp only [pt]
              refine' tk (i := 22) rfl (by kernel_rfl) (fun _ _ _ h => h) ?ye22 hHeld ?ze22
              case ye22 => (refine .inl ⟨by rfl, fun w h => ?_⟩; have F := HC2.out w h.out; go_simp; (try with_reducible rfl))
              try simp only [pt]
              refine' tk (i := 23) rfl (by kernel_rfl) (fun _ _ _ h => h) ?ye23 hHeld ?ze23
              case ye23 => (refine .inl ⟨by rfl, fun w h => ?_⟩; have F := HC2.out w h.out; go_simp; (try with_reducible rfl))
              try simp only [pt]
              refine' tk (i := 24) rfl (by kernel_rfl) (fun _ _ _ h => h) ?ye24 hHeld ?ze24
              case ye24 => (refine .inl ⟨by rfl, fun w h => ?_⟩; have F := HC2.out w h.out; go_simp; (try with_reducible rfl))
              try simp only [pt]
              refine' tk (i := 25) rfl (by kernel_rfl) (fun _ _ _ h => h) ?ye25 hHeld ?ze25
              case ye25 => (refine .inl ⟨by rfl, fun w h => ?_⟩; have F := HC2.out w h.out; go_simp; (try with_reducible rfl))
              try simp only [pt]
              refine' tk (i := 26) rfl (by kernel_rfl) (fun _ _ _ h => h) ?ye26 hHeld ?ze26
              case ye26 => (refine .inl ⟨by rfl, fun w h => ?_⟩; have F := HC2.out w h.out; go_simp; (try with_reducible rfl))
              try simp only [pt]
              refine' tk (i := 27) rfl (by kernel_rfl) (fun _ _ _ h => h) ?ye27 hHeld ?ze27
              case ye27 => (refine .inl ⟨by rfl, fun w h => ?_⟩; have F := HC2.out w h.out; go_simp; (try with_reducible rfl))
              try simp only [pt]
              refine' tk (i := 28) rfl (by kernel_rfl) (fun _ _ _ h => h) ?ye28 hHeld ?ze28
              case ye28 => (refine .inl ⟨by rfl, fun w h => ?_⟩; have F := HC2.out w h.out; go_simp; (try with_reducible rfl))
              try simp only [pt]
              refine' tk (i := 29) rfl (by kernel_rfl) (fun _ _ _ h => h) ?ye29 hHeld ?ze29
              case ye29 => (refine .inl ⟨by rfl, fun w h => ?_⟩; have F := HC2.out w h.out; go_simp; (try with_reducible rfl))
              try simp only [pt]
              refine' tk (i := 30) rfl (by kernel_rfl) (fun _ _ _ h => h) ?ye30 hHeld ?ze30
              case ye30 => (refine .inl ⟨by rfl, fun w h => ?_⟩; have F := HC2.out w h.out; go_simp; (try with_reducible rfl))
              try simp only [pt]
              refine' tk (i := 31) rfl (by kernel_rfl) (fun _ _ _ h => h) ?ye31 hHeld ?ze31
              case ye31 => (refine .inl ⟨by rfl, fun w h => ?_⟩; have F := HC2.out w h.out; go_simp; (try with_reducible rfl))
              try simp only [pt]
              refine' tk (i := 32) rfl (by kernel_rfl) (fun _ _ _ h => h) ?ye32 hHeld ?ze32
              case ye32 => (refine .inl ⟨by rfl, fun w h => ?_⟩; have F := HC2.out w h.out; go_simp; (try with_reducible rfl))
              try simp only [pt]
              refine' tk (i := 33) rfl (by kernel_rfl) (fun _ _ _ h => h) ?ye33 hHeld ?ze33
              case ye33 => (refine .inl ⟨by rfl, fun w h => ?_⟩; have F := HC2.out w h.out; go_simp; (try with_reducible rfl))
              try simp only [pt]
              refine' tk (i := 34) rfl (by kernel_rfl) (fun _ _ _ h => h) ?ye34 hHeld ?ze34
              case ye34 => (refine .inl ⟨by rfl, fun w h => ?_⟩; have F := HC2.out w h.out; go_simp; (try with_reducible rfl))
              try simp only [pt]
              refine' tk (i := 35) rfl (by kernel_rfl) (fun _ _ _ h => h) ?ye35 hHeld ?ze35
              case ye35 => (refine .inl ⟨by rfl, fun w h => ?_⟩; have F := HC2.out w h.out; go_simp; (try with_reducible rfl))
              try simp only [pt]
              refine' tk (i := 36) rfl (by kernel_rfl) (fun _ _ _ h => h) ?ye36 hHeld ?ze36
              case ye36 => (refine .inl ⟨by rfl, fun w h => ?_⟩; have F := HC2.out w h.out; go_simp; (try with_reducible rfl))
              try simp only [pt]
              refine' tk (i := 37) rfl (by kernel_rfl) (fun _ _ _ h => h) ?ye37 hHeld ?ze37
              case ye37 => (refine .inl ⟨by rfl, fun w h => ?_⟩; have F := HC2.out w h.out; go_simp; (try with_reducible rfl))
              try simp only [pt]
              refine' tk (i := 38) rfl (by kernel_rfl) (fun _ _ _ h => h) ?ye38 hHeld ?ze38
              case ye38 => (refine .inl ⟨by rfl, fun w h => ?_⟩; have F := HC2.out w h.out; go_simp; (try with_reducible rfl))
              try simp only [pt]
              refine' tk (i := 39) rfl (by kernel_rfl) (fun _ _ _ h => h) ?ye39 hHeld ?ze39
              case ye39 => (refine .inl ⟨by rfl, fun w h => ?_⟩; have F := HC2.out w h.out; go_simp; (try with_reducible rfl))
              try simp only [pt]
              refine wpAnyH_ready (rs := [40]) (by kernel_rfl) (by simp) ?_
              refine AllReadyH.cons (o := ?oi_e40) ?hi_e40 (fun K hK => ?kk_e40) AllReadyH.nil
              case hi_e40 => (simp only [List.getElem?_toArray, List.getElem?_cons_succ, List.getElem?_cons_zero]; rfl)
              go_simp
              refine (HYK.out _ (HYL.out.below (HB.out.trans (hHeld.out.mono HB.out.size)))).mono ?_
              rintro e w7 ⟨rfl, hb2⟩
              refine hK.out _ _ ⟨hHeld.out.trans (hb2.mono hHeld.out.size)⟩ (fun hHeld => ?_)
              clear hK K
              try simp only [pt]
              refine' tk (i := 41) rfl (by kernel_rfl) (fun _ _ _ h => h) ?ye41 hHeld ?ze41
              case ye41 => (refine .inl ⟨by rfl, fun w h => ?_⟩; have F := HC2.out w h.out; go_simp; (try with_reducible rfl))
              try simp only [pt]
              refine' tk (i := 42) rfl (by kernel_rfl) (fun _ _ _ h => h) ?ye42 hHeld ?ze42
              case ye42 => (refine .inl ⟨by rfl, fun w h => ?_⟩; have F := HC2.out w h.out; go_simp; (try with_reducible rfl))
              try simp only [pt]
              refine wpAnyH_done (by kernel_rfl) ?_ _
              cases bd with
              | true =>
                go_wp2_with fail
                go_ret
                refine ⟨?_, B1.out.trans ((HB.out.trans (hHeld.out.mono HB.out.size)).mono B1.out.size)⟩
                have e5 : (s y == 3) = false := by simpa using HBD.out
                rw [HST.out, e5]
                simp
              | false =>
                go_wp2_with fail
                go_roundg (gk - 2)
                case measure => clear wi2 wj wj2 w9 w10 wh wh2; have := HI.out; have := HJ.out; omega
                case rel =>
                  have e5 : (s y == 3) = true := by simpa using HBD.out
                  refine ⟨i2, by first | rfl | simp [wi2], ⟨by clear wi2 wj wj2 w9 w10 wh wh2; have := HI.out; have := HI2.out; have := HJ.out; have := HBG.out; have := HLT.out; omega⟩, ⟨HB.out.trans (hHeld.out.mono HB.out.size)⟩, ⟨?_⟩⟩
                  rw [HST.out, e5, HPZ.out, HQ1.out, q2, ← HI2.out, prvL_step HX.out HI.out.2.1]
                  have e2 : decide (z.n < x.n) = true := by first | exact decide_eq_true q4 | exact decide_eq_true (Int.not_le.1 q4)
                  simp [e2]
        · have q2b : (s x != 1) = true := by simp [q2]
          go_wp2_with fail
          refine wp_region_held_drew (S := fun w' => Aside0 (Below wr.heap.size wr w')) (by kernel_rfl) ?_ (fun hHeld => ?_)
          · exact ⟨(Below.refl _ _).drew⟩
          generalize World.drew _ = wDb at hHeld ⊢
          refine' tk (i := 0) rfl (by kernel_rfl) (fun _ _ _ h => h) ?yb0 hHeld ?zb0
          case yb0 => (refine .inl ⟨by rfl, fun w h => ?_⟩; have F := HC.out w h.out; go_simp; (try with_reducible rfl))
          try simp only [pt]
          refine' tk (i := 1) rfl (by kernel_rfl) (fun _ _ _ h => h) ?yb1 hHeld ?zb1
          case yb1 => (refine .inl ⟨by rfl, fun w h => ?_⟩; have F := HC.out w h.out; go_simp; (try with_reducible rfl))
          try simp only [pt]
          refine' tk (i := 2) rfl (by kernel_rfl) (fun _ _ _ h => h) ?yb2 hHeld ?zb2
          case yb2 => (refine .inl ⟨by rfl, fun w h => ?_⟩; have F := HC.out w h.out; go_simp; (try with_reducible rfl))
          try simp only [pt]
          refine' tk (i := 3) rfl (by kernel_rfl) (fun _ _ _ h => h) ?yb3 hHeld ?zb3
          case yb3 => (refine .inl ⟨by rfl, fun w h => ?_⟩; have F := HC.out w h.out; go_simp; (try with_reducible rfl))
          try simp only [pt]
          refine' tk (i := 4) rfl (by kernel_rfl) (fun _ _ _ h => h) ?yb4 hHeld ?zb4
          case yb4 => (refine .inl ⟨by rfl, fun w h => ?_⟩; have F := HC.out w h.out; go_simp; (try with_reducible rfl))
          try simp only [pt]
          refine' tk (i := 5) rfl (by kernel_rfl) (fun _ _ _ h => h) ?yb5 hHeld ?zb5
          case yb5 => (refine .inl ⟨by rfl, fun w h => ?_⟩; have F := HC.out w h.out; go_simp; (try with_reducible rfl))
          try simp only [pt]
          refine' tk (i := 6) rfl (by kernel_rfl) (fun _ _ _ h => h) ?yb6 hHeld ?zb6
          case yb6 => (refine .inl ⟨by rfl, fun w h => ?_⟩; have F := HC.out w h.out; go_simp; (try with_reducible rfl))
          try simp only [pt]
          refine' tk (i := 7) rfl (by kernel_rfl) (fun _ _ _ h => h) ?yb7 hHeld ?zb7
          case yb7 => (refine .inl ⟨by rfl, fun w h => ?_⟩; have F := HC.out w h.out; go_simp; (try with_reducible rfl))
          try simp only [pt]
          refine' tk (i := 8) rfl (by kernel_rfl) (fun _ _ _ h => h) ?yb8 hHeld ?zb8
          case yb8 => (refine .inl ⟨by rfl, fun w h => ?_⟩; have F := HC.out w h.out; go_simp; (try with_reducible rfl))
          try simp only [pt]
          refine' tk (i := 9) rfl (by kernel_rfl) (fun _ _ _ h => h) ?yb9 hHeld ?zb9
          case yb9 => (refine .inl ⟨by rfl, fun w h => ?_⟩; have F := HC.out w h.out; go_simp; (try with_reducible rfl))
          try simp only [pt]
          refine' tk (i := 10) rfl (by kernel_rfl) (fun _ _ _ h => h) ?yb10 hHeld ?zb10
          case yb10 => (refine .inl ⟨by rfl, fun w h => ?_⟩; have F := HC.out w h.out; go_simp; (try with_reducible rfl))
          try simp only [pt]
          refine' tk (i := 11) rfl (by kernel_rfl) (fun _ _ _ h => h) ?yb11 hHeld ?zb11
          case yb11 => (refine .inl ⟨by rfl, fun w h => ?_⟩; have F := HC.out w h.out; go_simp; (try with_reducible rfl))
          try simp only [pt]
          refine wpAnyH_ready (rs := [12]) (by kernel_rfl) (by simp) ?_
          refine AllReadyH.cons (o := ?oi_b12) ?hi_b12 (fun K hK => ?kk_b12) AllReadyH.nil
          case hi_b12 => (simp only [List.getElem?_toArray, List.getElem?_cons_succ, List.getElem?_cons_zero]; rfl)
          go_simp
          refine (HXK.out _ (HXL.out.below (HB.out.trans (hHeld.out.mono HB.out.size)))).mono ?_
          rintro e w7 ⟨rfl, hb2⟩
          refine hK.out _ _ ⟨hHeld.out.trans (hb2.mono hHeld.out.size)⟩ (fun hHeld => ?_)
          clear hK K
          try simp only [pt]
          refine' tk (i := 13) rfl (by kernel_rfl) (fun _ _ _ h => h) ?yb13 hHeld ?zb13
          case yb13 => (refine .inl ⟨by rfl, fun w h => ?_⟩; have F := HC.out w h.out; go_simp; (try with_reducible rfl))
          try simp only [pt]
          refine' tk (i := 14) rfl (by kernel_rfl) (fun _ _ _ h => h) ?yb14 hHeld ?zb14
          case yb14 => (refine .inl ⟨by rfl, fun w h => ?_⟩; have F := HC.out w h.out; go_simp; (try with_reducible rfl))
          try simp only [pt]
          refine' tk (i := 15) rfl (by kernel_rfl) (fun _ _ _ h => h) ?yb15 hHeld ?zb15
          case yb15 => (refine .inl ⟨by rfl, fun w h => ?_⟩; have F := HC.out w h.out; go_simp; (try with_reducible rfl))
          try simp only [pt]
          refine' tk (i := 16) (v := undef) rfl (by kernel_rfl) (fun _ _ _ h => h) ?yb16 hHeld ?zb16
          case yb16 => (exact Or.inr ⟨by rfl, rfl⟩)
          try simp only [pt]
          refine' tk (i := 17) (v := undef) rfl (by kernel_rfl) (fun _ _ _ h => h) ?yb17 hHeld ?zb17
          case yb17 => (exact Or.inr ⟨by rfl, rfl⟩)
          try simp only [pt]
          refine' tk (i := 18) (v := undef) rfl (by kernel_rfl) (fun _ _ _ h => h) ?yb18 hHeld ?zb18
          case yb18 => (exact Or.inr ⟨by rfl, rfl⟩)
          try simp only [pt]
          refine' tk (i := 19) (v := undef) rfl (by kernel_rfl) (fun _ _ _ h => h) ?yb19 hHeld ?zb19
          case yb19 => (exact Or.inr ⟨by rfl, rfl⟩)
          try simp only [pt]
          refine' tk (i := 20) (v := undef) rfl (by kernel_rfl) (fun _ _ _ h => h) ?yb20 hHeld ?zb20
          case yb20 => (exact Or.inr ⟨by rfl, rfl⟩)
          try simp only [pt]
          refine' tk (i := 21) (v := undef) rfl (by kernel_rfl) (fun _ _ _ h => h) ?yb21 hHeld ?zb21
          case yb21 => (exact Or.inr ⟨by rfl, rfl⟩)
          try simp only [pt]
          refine' tk (i := 22) (v := undef) rfl (by kernel_rfl) (fun _ _ _ h => h) ?yb22 hHeld ?zb22
          case yb22 => (exact Or.inr ⟨by rfl, rfl⟩)
          try simp only [pt]
          refine' tk (i := 23) (v := undef) rfl (by kernel_rfl) (fun _ _ _ h => h) ?yb23 hHeld ?zb23
          case yb23 => (exact Or.inr ⟨by rfl, rfl⟩)
          try simp only [pt]
          refine' tk (i := 24) (v := undef) rfl (by kernel_rfl) (fun _ _ _ h => h) ?yb24 hHeld ?zb24
          case yb24 => (exact Or.inr ⟨by rfl, rfl⟩)
          try simp only [pt]
          refine' tk (i := 25) (v := undef) rfl (by kernel_rfl) (fun _ _ _ h => h) ?yb25 hHeld ?zb25
          case yb25 => (exact Or.inr ⟨by rfl, rfl⟩)
          try simp only [pt]
          refine' tk (i := 26) (v := undef) rfl (by kernel_rfl) (fun _ _ _ h => h) ?yb26 hHeld ?zb26
          case yb26 => (exact Or.inr ⟨by rfl, rfl⟩)
          try simp only [pt]
          refine' tk (i := 27) (v := undef) rfl (by kernel_rfl) (fun _ _ _ h => h) ?yb27 hHeld ?zb27
          case yb27 => (exact Or.inr ⟨by rfl, rfl⟩)
          try simp only [pt]
          refine' tk (i := 28) (v := undef) rfl (by kernel_rfl) (fun _ _ _ h => h) ?yb28 hHeld ?zb28
          case yb28 => (exact Or.inr ⟨by rfl, rfl⟩)
          try simp only [pt]
          refine' tk (i := 29) (v := undef) rfl (by kernel_rfl) (fun _ _ _ h => h) ?yb29 hHeld ?zb29
          case yb29 => (exact Or.inr ⟨by rfl, rfl⟩)
          try simp only [pt]
          refine' tk (i := 30) (v := undef) rfl (by kernel_rfl) (fun _ _ _ h => h) ?yb30 hHeld ?zb30
          case yb30 => (exact Or.inr ⟨by rfl, rfl⟩)
          try simp only [pt]
          refine' tk (i := 31) (v := undef) rfl (by kernel_rfl) (fun _ _ _ h => h) ?yb31 hHeld ?zb31
          case yb31 => (exact Or.inr ⟨by rfl, rfl⟩)
          try simp only [pt]
          refine' tk (i := 32) rfl (by kernel_rfl) (fun _ _ _ h => h) ?yb32 hHeld ?zb32
          case yb32 => (refine .inl ⟨by rfl, fun w h => ?_⟩; have F := HC.out w h.out; go_simp; (try with_reducible rfl))
          try simp only [pt]
          refine' tk (i := 33) rfl (by kernel_rfl) (fun _ _ _ h => h) ?yb33 hHeld ?zb33
          case yb33 => (refine .inl ⟨by rfl, fun w h => ?_⟩; have F := HC.out w h.out; go_simp; (try with_reducible rfl))
          try simp only [pt]
          refine' tk (i := 34) (v := undef) rfl (by kernel_rfl) (fun _ _ _ h => h) ?yb34 hHeld ?zb34
          case yb34 => (exact Or.inr ⟨by rfl, rfl⟩)
          try simp only [pt]
          refine' tk (i := 35) (v := undef) rfl (by kernel_rfl) (fun _ _ _ h => h) ?yb35 hHeld ?zb35
          case yb35 => (exact Or.inr ⟨by rfl, rfl⟩)
          try simp only [pt]
          refine' tk (i := 36) (v := undef) rfl (by kernel_rfl) (fun _ _ _ h => h) ?yb36 hHeld ?zb36
          case yb36 => (exact Or.inr ⟨by rfl, rfl⟩)
          try simp only [pt]
          refine' tk (i := 37) (v := undef) rfl (by kernel_rfl) (fun _ _ _ h => h) ?yb37 hHeld ?zb37
          case yb37 => (exact Or.inr ⟨by rfl, rfl⟩)
          try simp only [pt]
          refine' tk (i := 38) (v := undef) rfl (by kernel_rfl) (fun _ _ _ h => h) ?yb38 hHeld ?zb38
          case yb38 => (exact Or.inr ⟨by rfl, rfl⟩)
          try simp only [pt]
          refine' tk (i := 39) (v := undef) rfl (by kernel_rfl) (fun _ _ _ h => h) ?yb39 hHeld ?zb39
          case yb39 => (exact Or.inr ⟨by rfl, rfl⟩)
          try simp only [pt]
          refine' tk (i := 40) (v := undef) rfl (by kernel_rfl) (fun _ _ _ h => h) ?yb40 hHeld ?zb40
          case yb40 => (exact Or.inr ⟨by rfl, rfl⟩)
          try simp only [pt]
          refine' tk (i := 41) (v := undef) rfl (by kernel_rfl) (fun _ _ _ h => h) ?yb41 hHeld ?zb41
          case yb41 => (exact Or.inr ⟨by rfl, rfl⟩)
          try simp only [pt]
          refine' tk (i := 42) rfl (by kernel_rfl) (fun _ _ _ h => h) ?yb42 hHeld ?zb42
          case yb42 => (refine .inl ⟨by rfl, fun w h => ?_⟩; have F := HC.out w h.out; go_simp; (try with_reducible rfl))
          try simp only [pt]
          refine wpAnyH_done (by kernel_rfl) ?_ _
          go_wp2_with fail
          go_ret
          refine ⟨?_, B1.out.trans ((HB.out.trans (hHeld.out.mono HB.out.size)).mono B1.out.size)⟩
          rw [HST.out]
          simp [q2]
      · have q1b : (x.op != 1) = true := by simp [q1]
        go_wp2_with fail
        refine wp_region_held_drew (S := fun w' => Aside0 (Below wr.heap.size wr w')) (by kernel_rfl) ?_ (fun hHeld => ?_)
        · exact ⟨(Below.refl _ _).drew⟩
        generalize World.drew _ = wDg at hHeld ⊢
        refine' tk (i := 0) rfl (by kernel_rfl) (fun _ _ _ h => h) ?yg0 hHeld ?zg0
        case yg0 => (refine .inl ⟨by rfl, fun w h => ?_⟩; have F := HC.out w h.out; go_simp; (try with_reducible rfl))
        try simp only [pt]
        refine' tk (i := 1) rfl (by kernel_rfl) (fun _ _ _ h => h) ?yg1 hHeld ?zg1
        case yg1 => (refine .inl ⟨by rfl, fun w h => ?_⟩; have F := HC.out w h.out; go_simp; (try with_reducible rfl))
        try simp only [pt]
        refine' tk (i := 2) rfl (by kernel_rfl) (fun _ _ _ h => h) ?yg2 hHeld ?zg2
        case yg2 => (refine .inl ⟨by rfl, fun w h => ?_⟩; have F := HC.out w h.out; go_simp; (try with_reducible rfl))
        try simp only [pt]
        refine' tk (i := 3) rfl (by kernel_rfl) (fun _ _ _ h => h) ?yg3 hHeld ?zg3
        case yg3 => (refine .inl ⟨by rfl, fun w h => ?_⟩; have F := HC.out w h.out; go_simp; (try with_reducible rfl))
        try simp only [pt]
        refine' tk (i := 4) rfl (by kernel_rfl) (fun _ _ _ h => h) ?yg4 hHeld ?zg4
        case yg4 => (refine .inl ⟨by rfl, fun w h => ?_⟩; have F := HC.out w h.out; go_simp; (try with_reducible rfl))
        try simp only [pt]
        refine' tk (i := 5) rfl (by kernel_rfl) (fun _ _ _ h => h) ?yg5 hHeld ?zg5
        case yg5 => (refine .inl ⟨by rfl, fun w h => ?_⟩; have F := HC.out w h.out; go_simp; (try with_reducible rfl))
        try simp only [pt]
        refine' tk (i := 6) rfl (by kernel_rfl) (fun _ _ _ h => h) ?yg6 hHeld ?zg6
        case yg6 => (refine .inl ⟨by rfl, fun w h => ?_⟩; have F := HC.out w h.out; go_simp; (try with_reducible rfl))
        try simp only [pt]
        refine' tk (i := 7) (v := undef) rfl (by kernel_rfl) (fun _ _ _ h => h) ?yg7 hHeld ?zg7
        case yg7 => (exact Or.inr ⟨by rfl, rfl⟩)
        try simp only [pt]
        refine' tk (i := 8) (v := undef) rfl (by kernel_rfl) (fun _ _ _ h => h) ?yg8 hHeld ?zg8
        case yg8 => (exact Or.inr ⟨by rfl, rfl⟩)
        try simp only [pt]
        refine' tk (i := 9) (v := undef) rfl (by kernel_rfl) (fun _ _ _ h => h) ?yg9 hHeld ?zg9
        case yg9 => (exact Or.inr ⟨by rfl, rfl⟩)
        try simp only [pt]
        refine' tk (i := 10) (v := undef) rfl (by kernel_rfl) (fun _ _ _ h => h) ?yg10 hHeld ?zg10
        case yg10 => (exact Or.inr ⟨by rfl, rfl⟩)
        try simp only [pt]
        refine' tk (i := 11) (v := undef) rfl (by kernel_rfl) (fun _ _ _ h => h) ?yg11 hHeld ?zg11
        case yg11 => (exact Or.inr ⟨by rfl, rfl⟩)
        try simp only [pt]
        refine' tk (i := 12) (v := undef) rfl (by kernel_rfl) (fun _ _ _ h => h) ?yg12 hHeld ?zg12
        case yg12 => (exact Or.inr ⟨by rfl, rfl⟩)
        try simp only [pt]
        refine' tk (i := 13) (v := undef) rfl (by kernel_rfl) (fun _ _ _ h => h) ?yg13 hHeld ?zg13
        case yg13 => (exact Or.inr ⟨by rfl, rfl⟩)
        try simp only [pt]
        refine' tk (i := 14) rfl (by kernel_rfl) (fun _ _ _ h => h) ?yg14 hHeld ?zg14
        case yg14 => (refine .inl ⟨by rfl, fun w h => ?_⟩; have F := HC.out w h.out; go_simp; (try with_reducible rfl))
        try simp only [pt]
        refine' tk (i := 15) rfl (by kernel_rfl) (fun _ _ _ h => h) ?yg15 hHeld ?zg15
        case yg15 => (refine .inl ⟨by rfl, fun w h => ?_⟩; have F := HC.out w h.out; go_simp; (try with_reducible rfl))
        try simp only [pt]
        refine' tk (i := 16) (v := undef) rfl (by kernel_rfl) (fun _ _ _ h => h) ?yg16 hHeld ?zg16
        case yg16 => (exact Or.inr ⟨by rfl, rfl⟩)
        try simp only [pt]
        refine' tk (i := 17) (v := undef) rfl (by kernel_rfl) (fun _ _ _ h => h) ?yg17 hHeld ?zg17
        case yg17 => (exact Or.inr ⟨by rfl, rfl⟩)
        try simp only [pt]
        refine' tk (i := 18) (v := undef) rfl (by kernel_rfl) (fun _ _ _ h => h) ?yg18 hHeld ?zg18
        case yg18 => (exact Or.inr ⟨by rfl, rfl⟩)
        try simp only [pt]
        refine' tk (i := 19) (v := undef) rfl (by kernel_rfl) (fun _ _ _ h => h) ?yg19 hHeld ?zg19
        case yg19 => (exact Or.inr ⟨by rfl, rfl⟩)
        try simp only [pt]
        refine' tk (i := 20) (v := undef) rfl (by kernel_rfl) (fun _ _ _ h => h) ?yg20 hHeld ?zg20
        case yg20 => (exact Or.inr ⟨by rfl, rfl⟩)
        try simp only [pt]
        refine' tk (i := 21) (v := undef) rfl (by kernel_rfl) (fun _ _ _ h => h) ?yg21 hHeld ?zg21
        case yg21 => (exact Or.inr ⟨by rfl, rfl⟩)
        try simp only [pt]
        refine' tk (i := 22) (v := undef) rfl (by kernel_rfl) (fun _ _ _ h => h) ?yg22 hHeld ?zg22
        case yg22 => (exact Or.inr ⟨by rfl, rfl⟩)
        try simp only [pt]
        refine' tk (i := 23) (v := undef) rfl (by kernel_rfl) (fun _ _ _ h => h) ?yg23 hHeld ?zg23
        case yg23 => (exact Or.inr ⟨by rfl, rfl⟩)
        try simp only [pt]
        refine' tk (i := 24) (v := undef) rfl (by kernel_rfl) (fun _ _ _ h => h) ?yg24 hHeld ?zg24
        case yg24 => (exact Or.inr ⟨by rfl, rfl⟩)
        try simp only [pt]
        refine' tk (i := 25) (v := undef) rfl (by kernel_rfl) (fun _ _ _ h => h) ?yg25 hHeld ?zg25
        case yg25 => (exact Or.inr ⟨by rfl, rfl⟩)
        try simp only [pt]
        refine' tk (i := 26) (v := undef) rfl (by kernel_rfl) (fun _ _ _ h => h) ?yg26 hHeld ?zg26
        case yg26 => (exact Or.inr ⟨by rfl, rfl⟩)
        try simp only [pt]
        refine' tk (i := 27) (v := undef) rfl (by kernel_rfl) (fun _ _ _ h => h) ?yg27 hHeld ?zg27
        case yg27 => (exact Or.inr ⟨by rfl, rfl⟩)
        try simp only [pt]
        refine' tk (i := 28) (v := undef) rfl (by kernel_rfl) (fun _ _ _ h => h) ?yg28 hHeld ?zg28
        case yg28 => (exact Or.inr ⟨by rfl, rfl⟩)
        try simp only [pt]
        refine' tk (i := 29) (v := undef) rfl (by kernel_rfl) (fun _ _ _ h => h) ?yg29 hHeld ?zg29
        case yg29 => (exact Or.inr ⟨by rfl, rfl⟩)
        try simp only [pt]
        refine' tk (i := 30) (v := undef) rfl (by kernel_rfl) (fun _ _ _ h => h) ?yg30 hHeld ?zg30
        case yg30 => (exact Or.inr ⟨by rfl, rfl⟩)
        try simp only [pt]
        refine' tk (i := 31) (v := undef) rfl (by kernel_rfl) (fun _ _ _ h => h) ?yg31 hHeld ?zg31
        case yg31 => (exact Or.inr ⟨by rfl, rfl⟩)
        try simp only [pt]
        refine' tk (i := 32) rfl (by kernel_rfl) (fun _ _ _ h => h) ?yg32 hHeld ?zg32
        case yg32 => (refine .inl ⟨by rfl, fun w h => ?_⟩; have F := HC.out w h.out; go_simp; (try with_reducible rfl))
        try simp only [pt]
        refine' tk (i := 33) rfl (by kernel_rfl) (fun _ _ _ h => h) ?yg33 hHeld ?zg33
        case yg33 => (refine .inl ⟨by rfl, fun w h => ?_⟩; have F := HC.out w h.out; go_simp; (try with_reducible rfl))
        try simp only [pt]
        refine' tk (i := 34) (v := undef) rfl (by kernel_rfl) (fun _ _ _ h => h) ?yg34 hHeld ?zg34
        case yg34 => (exact Or.inr ⟨by rfl, rfl⟩)
        try simp only [pt]
        refine' tk (i := 35) (v := undef) rfl (by kernel_rfl) (fun _ _ _ h => h) ?yg35 hHeld ?zg35
        case yg35 => (exact Or.inr ⟨by rfl, rfl⟩)
        try simp only [pt]
        refine' tk (i := 36) (v := undef) rfl (by kernel_rfl) (fun _ _ _ h => h) ?yg36 hHeld ?zg36
        case yg36 => (exact Or.inr ⟨by rfl, rfl⟩)
        try simp only [pt]
        refine' tk (i := 37) (v := undef) rfl (by kernel_rfl) (fun _ _ _ h => h) ?yg37 hHeld ?zg37
        case yg37 => (exact Or.inr ⟨by rfl, rfl⟩)
        try simp only [pt]
        refine' tk (i := 38) (v := undef) rfl (by kernel_rfl) (fun _ _ _ h => h) ?yg38 hHeld ?zg38
        case yg38 => (exact Or.inr ⟨by rfl, rfl⟩)
        try simp only [pt]
        refine' tk (i := 39) (v := undef) rfl (by kernel_rfl) (fun _ _ _ h => h) ?yg39 hHeld ?zg39
        case yg39 => (exact Or.inr ⟨by rfl, rfl⟩)
        try simp only [pt]
        refine' tk (i := 40) (v := undef) rfl (by kernel_rfl) (fun _ _ _ h => h) ?yg40 hHeld ?zg40
        case yg40 => (exact Or.inr ⟨by rfl, rfl⟩)
        try simp only [pt]
        refine' tk (i := 41) (v := undef) rfl (by kernel_rfl) (fun _ _ _ h => h) ?yg41 hHeld ?zg41
        case yg41 => (exact Or.inr ⟨by rfl, rfl⟩)
        try simp only [pt]
        refine' tk (i := 42) rfl (by kernel_rfl) (fun _ _ _ h => h) ?yg42 hHeld ?zg42
        case yg42 => (refine .inl ⟨by rfl, fun w h => ?_⟩; have F := HC.out w h.out; go_simp; (try with_reducible rfl))
        try simp only [pt]
        refine wpAnyH_done (by kernel_rfl) ?_ _
        go_wp2_with fail
        go_ret
        refine ⟨?_, B1.out.trans ((HB.out.trans (hHeld.out.mono HB.out.size)).mono B1.out.size)⟩
        rw [HST.out]
        simp [q1]
    · have hi2 : ((i : Int) < (ln1 : Int)) = False := eq_false (by have := HLN1.out; have := HI.out; omega)
      have hi3 : (i < ln1) = False := eq_false (by have := HLN1.out; have := HI.out; omega)
      have hjn : j = len := by have := HI.out; omega
      have hin : ln1 = i := by have := HI.out; have := HLN1.out; omega
      have hLA := rungsP_last (s := s) hx (by rw [HN.out, ← hjn, ← hj]) (prvL l i)
      rw [HQ.out] at hLA
      have HLA := Lib.hid hLA
      have HC := Lib.hid fun (w' : World) (hb : Below wr.heap.size wr w') => (show ((w'.cell? ⟨w.heap.size, 0, none⟩ = some (.int .i64 rw) ∧ w'.cell? ⟨w.heap.size, 1, none⟩ = some (.int .i64 rc) ∧ w'.cell? ⟨w.heap.size, 2, none⟩ = some (.int .i64 rl)) ∧
          (w'.cell? (b.add (i * 4)) = some (.int .i64 x.op) ∧ w'.cell? ⟨(b.add (i * 4)).block, (b.add (i * 4)).off + 1, none⟩ = some (.int .i64 x.n) ∧ w'.cell? ⟨(b.add (i * 4)).block, (b.add (i * 4)).off + 2, none⟩ = some (.int .i64 x.m) ∧ w'.cell? ⟨(b.add (i * 4)).block, (b.add (i * 4)).off + 3, none⟩ = some (.slice x.at_ x.kids.length x.cap))) from by
        have hb' := HB.out.trans (hb.mono HB.out.size)
        obtain ⟨p, hp, -, c0, c1, c2, c3⟩ := HL.out.cellsB hb' HX.out
        injection hp with hp
        subst hp
        exact ⟨room2_cells (blk_below HK2.out hb'), ⟨c0, c1, c2, c3⟩⟩)
      subst hin
      clear hx hj hlt hLA hiR hjn
      go_wp2_with fail
      refine wp_region_held_drew (S := fun w' => Aside0 (Below wr.heap.size wr w')) (by kernel_rfl) ?_ (fun hHeld => ?_)
      · exact ⟨(Below.refl _ _).drew⟩
      generalize World.drew _ = wDl at hHeld ⊢
      refine' tk (i := 0) rfl (by kernel_rfl) (fun _ _ _ h => h) ?yl0 hHeld ?zl0
      case yl0 => (refine .inl ⟨by rfl, fun w h => ?_⟩; have F := HC.out w h.out; go_simp; (try with_reducible rfl))
      try simp only [pt]
      refine' tk (i := 1) rfl (by kernel_rfl) (fun _ _ _ h => h) ?yl1 hHeld ?zl1
      case yl1 => (refine .inl ⟨by rfl, fun w h => ?_⟩; have F := HC.out w h.out; go_simp; (try with_reducible rfl))
      try simp only [pt]
      refine' tk (i := 2) rfl (by kernel_rfl) (fun _ _ _ h => h) ?yl2 hHeld ?zl2
      case yl2 => (refine .inl ⟨by rfl, fun w h => ?_⟩; have F := HC.out w h.out; go_simp; (try with_reducible rfl))
      try simp only [pt]
      refine' tk (i := 3) rfl (by kernel_rfl) (fun _ _ _ h => h) ?yl3 hHeld ?zl3
      case yl3 => (refine .inl ⟨by rfl, fun w h => ?_⟩; have F := HC.out w h.out; go_simp; (try with_reducible rfl))
      try simp only [pt]
      refine' tk (i := 4) rfl (by kernel_rfl) (fun _ _ _ h => h) ?yl4 hHeld ?zl4
      case yl4 => (refine .inl ⟨by rfl, fun w h => ?_⟩; have F := HC.out w h.out; go_simp; (try with_reducible rfl))
      try simp only [pt]
      refine' tk (i := 5) rfl (by kernel_rfl) (fun _ _ _ h => h) ?yl5 hHeld ?zl5
      case yl5 => (refine .inl ⟨by rfl, fun w h => ?_⟩; have F := HC.out w h.out; go_simp; (try with_reducible rfl))
      try simp only [pt]
      refine wpAnyH_ready (rs := [6]) (by kernel_rfl) (by simp) ?_
      refine AllReadyH.cons (o := ?oi_l6) ?hi_l6 (fun K hK => ?kk_l6) AllReadyH.nil
      case hi_l6 => (simp only [List.getElem?_toArray, List.getElem?_cons_succ, List.getElem?_cons_zero]; rfl)
      go_simp
      refine (HXK.out _ (HXL.out.below (HB.out.trans (hHeld.out.mono HB.out.size)))).mono ?_
      rintro e w7 ⟨rfl, hb2⟩
      refine hK.out _ _ ⟨hHeld.out.trans (hb2.mono hHeld.out.size)⟩ (fun hHeld => ?_)
      clear hK K
      try simp only [pt]
      refine' tk (i := 7) rfl (by kernel_rfl) (fun _ _ _ h => h) ?yl7 hHeld ?zl7
      case yl7 => (refine .inl ⟨by rfl, fun w h => ?_⟩; have F := HC.out w h.out; go_simp; (try with_reducible rfl))
      try simp only [pt]
      refine' tk (i := 8) rfl (by kernel_rfl) (fun _ _ _ h => h) ?yl8 hHeld ?zl8
      case yl8 => (refine .inl ⟨by rfl, fun w h => ?_⟩; have F := HC.out w h.out; go_simp; (try with_reducible rfl))
      try simp only [pt]
      refine wpAnyH_done (by kernel_rfl) ?_ _
      go_wp2_with fail
      go_ret
      exact ⟨by first | (simp [HLA.out]; done) | (rw [HLA.out]; simp; done) | rfl, B1.out.trans ((HB.out.trans (hHeld.out.mono HB.out.size)).mono B1.out.size)⟩
end
theorem rladder_calls {rw rc rl : Int} {A : Option Addr} {l : List Cr} {w : World} (s : Cr → Int) (hbig : l.length ≤ 4398046511104) (hl : LiesL w A 0 l) (ih : ∀ k ∈ l, SortR rw rc rl k (s k)) (c : Nat) :
    Calls Tryd.prog 27 #[.agg #[.int .i64 rw, .int .i64 rc, .int .i64 rl], .slice A l.length c] w fun e w' => e = .returned (.bool (ladB s l)) ∧ Below w.heap.size w w' := by
  by_cases h : 2 ≤ l.length
  · by_cases he : l.length % 2 = 0
    · match l, h, he, hbig, hl, ih with
      | a :: t, h, he, hbig, hl, ih =>
        by_cases q : s a = 1
        · have e : ladB s (a :: t) = rungsP s none t := by
            unfold ladB
            rw [decide_eq_true h, decide_eq_true he]
            simp [q]
          rw [e]
          exact rlad_rungs s h he hbig hl ih (fun x y e => by injection e with e1 e2; rw [← e1]; exact q) (fun x y e => by injection e with e1 e2; rw [← e2]) c
        · have e : ladB s (a :: t) = false := by
            unfold ladB
            simp [q]
          rw [e]
          exact rlad_first s h he hbig hl ih (fun x y e => by injection e with e1 e2; rw [← e1]; exact q) c
    · have e : ladB s l = false := by
        unfold ladB
        simp [he]
      rw [e]
      exact rlad_odd h (by omega) c
  · have e : ladB s l = false := by
      unfold ladB
      simp [h]
    rw [e]
    exact rlad_short (by omega) c
end Go.Proofs.YtpljkcakijkklaaDoor

end
section
namespace Go.Proofs.YtpljkcakijkklaaDoor
set_option linter.unusedVariables false
set_option linter.unusedSimpArgs false
open Go.RowKit Go.Proofs.YtpljkcakijkklaaDoorW.PrintWords Go.Proofs.YtpljkcakijkklaaDoorW.PrintLast Go.Proofs.YtpljkcakijkklaaDoorW.PrintMore

section
variable {rw rc rl op n m : Int} {at_ : Option Addr} {cap : Nat} {w : World}
set_option maxHeartbeats 16000000 in
set_option maxRecDepth 100000 in
theorem rs_none {len : Nat} (har : arityS op = -2) : Calls Tryd.prog 11 #[.agg #[.int .i64 rw, .int .i64 rc, .int .i64 rl], .agg #[.int .i64 op, .int .i64 n, .int .i64 m, .slice at_ len cap]] w fun e w' => e = .returned (.int .i64 (0)) ∧ Below w.heap.size w w' := by
  obtain ⟨w1, e1, b1, k2, k3, s1⟩ := box2 w (.cells #[.int .i64 rw, .int .i64 rc, .int .i64 rl] 42) (.cells #[.int .i64 op, .int .i64 n, .int .i64 m, .slice at_ len cap] 24)
  have HE := Lib.hid e1
  have B1 := Lib.hid b1
  obtain ⟨y0, y1, y2⟩ := room2_cells k2
  obtain ⟨x0, x1, x2, x3⟩ := core_cells k3
  have HAR := Lib.hid har
  clear har k2 k3 e1 b1 s1
  go_enter Tryd.func11, Tryd.ntmps11
  go_wp2_with fail
  rw [HE.out]
  go_wp2_with fail
  refine (arity_calls op _).mono ?_
  rintro e w9 ⟨rfl, hw9⟩
  rw [hw9, HAR.out]
  clear hw9 w9
  go_wp2_with fail
  go_ret
  exact ⟨rfl, B1.out⟩
set_option maxHeartbeats 16000000 in
set_option maxRecDepth 100000 in
theorem rs_fields {len : Nat} {ar : Int} (har : arityS op = ar) (h2 : ¬ ar = -2) (hf : fieldsS rw rc rl op n m = false) : Calls Tryd.prog 11 #[.agg #[.int .i64 rw, .int .i64 rc, .int .i64 rl], .agg #[.int .i64 op, .int .i64 n, .int .i64 m, .slice at_ len cap]] w fun e w' => e = .returned (.int .i64 (0)) ∧ Below w.heap.size w w' := by
  obtain ⟨w1, e1, b1, k2, k3, s1⟩ := box2 w (.cells #[.int .i64 rw, .int .i64 rc, .int .i64 rl] 42) (.cells #[.int .i64 op, .int .i64 n, .int .i64 m, .slice at_ len cap] 24)
  have HE := Lib.hid e1
  have B1 := Lib.hid b1
  obtain ⟨y0, y1, y2⟩ := room2_cells k2
  obtain ⟨x0, x1, x2, x3⟩ := core_cells k3
  have HAR := Lib.hid har
  have HF := Lib.hid hf
  have q1 : (ar == -2) = false := by simpa using h2
  clear har hf h2 k2 k3 e1 b1 s1
  go_enter Tryd.func11, Tryd.ntmps11
  go_wp2_with fail
  rw [HE.out]
  go_wp2_with fail
  refine (arity_calls op _).mono ?_
  rintro e w9 ⟨rfl, hw9⟩
  rw [hw9, HAR.out]
  clear hw9 w9
  go_wp2_with fail
  refine (fields_calls rw rc rl op n m at_ len cap _).mono ?_
  rintro e w2 ⟨rfl, hb2⟩
  rw [HF.out]
  go_wp2_with fail
  go_ret
  exact ⟨rfl, B1.out.trans (hb2.mono B1.out.size)⟩
set_option maxHeartbeats 16000000 in
set_option maxRecDepth 100000 in
theorem rs_parts {len : Nat} {ar : Int} (har : arityS op = ar) (h2 : 0 ≤ ar) (h3 : ¬ (len : Int) = ar) (hf : fieldsS rw rc rl op n m = true) : Calls Tryd.prog 11 #[.agg #[.int .i64 rw, .int .i64 rc, .int .i64 rl], .agg #[.int .i64 op, .int .i64 n, .int .i64 m, .slice at_ len cap]] w fun e w' => e = .returned (.int .i64 (0)) ∧ Below w.heap.size w w' := by
  obtain ⟨w1, e1, b1, k2, k3, s1⟩ := box2 w (.cells #[.int .i64 rw, .int .i64 rc, .int .i64 rl] 42) (.cells #[.int .i64 op, .int .i64 n, .int .i64 m, .slice at_ len cap] 24)
  have HE := Lib.hid e1
  have B1 := Lib.hid b1
  obtain ⟨y0, y1, y2⟩ := room2_cells k2
  obtain ⟨x0, x1, x2, x3⟩ := core_cells k3
  have HC := Lib.hid fun (w' : World) (hb : Below w1.heap.size w1 w') => core_cells (blk_below k3 hb)
  have HAR := Lib.hid har
  have HF := Lib.hid hf
  have q1 : (ar == -2) = false := by simp; omega
  have q2 : (0 ≤ ar) = True := eq_true h2
  have q3 : ((len : Int) != ar) = true := by simpa using h3
  clear har hf h2 h3 k2 k3 e1 b1 s1
  go_enter Tryd.func11, Tryd.ntmps11
  go_wp2_with fail
  rw [HE.out]
  go_wp2_with fail
  refine (arity_calls op _).mono ?_
  rintro e w9 ⟨rfl, hw9⟩
  rw [hw9, HAR.out]
  clear hw9 w9
  go_wp2_with fail
  refine (fields_calls rw rc rl op n m at_ len cap _).mono ?_
  rintro e w2 ⟨rfl, hb2⟩
  rw [HF.out]
  obtain ⟨x0, x1, x2, x3⟩ := HC.out w2 hb2
  go_wp2_with fail
  go_ret
  exact ⟨rfl, B1.out.trans (hb2.mono B1.out.size)⟩
set_option maxHeartbeats 16000000 in
set_option maxRecDepth 100000 in
theorem rs_lad {l : List Cr} (hop : op = 32) (s : Cr → Int) (hl : Lies w (.node op n m at_ cap l)) (ih : ∀ k ∈ l, SortR rw rc rl k (s k)) (hf : fieldsS rw rc rl op n m = true) {r : Int} (hr : (if ladB s l then (3 : Int) else 0) = r) : Calls Tryd.prog 11 #[.agg #[.int .i64 rw, .int .i64 rc, .int .i64 rl], .agg #[.int .i64 op, .int .i64 n, .int .i64 m, .slice at_ l.length cap]] w fun e w' => e = .returned (.int .i64 (r)) ∧ Below w.heap.size w w' := by
  obtain ⟨w1, e1, b1, k2, k3, s1⟩ := box2 w (.cells #[.int .i64 rw, .int .i64 rc, .int .i64 rl] 42) (.cells #[.int .i64 op, .int .i64 n, .int .i64 m, .slice at_ l.length cap] 24)
  have HE := Lib.hid e1
  have B1 := Lib.hid b1
  obtain ⟨y0, y1, y2⟩ := room2_cells k2
  obtain ⟨x0, x1, x2, x3⟩ := core_cells k3
  have HC := Lib.hid fun (w' : World) (hb : Below w1.heap.size w1 w') => (show _ ∧ _ from ⟨core_cells (blk_below k3 hb), room2_cells (blk_below k2 hb)⟩)
  have HAR := Lib.hid (show arityS op = -1 by rw [hop]; rfl)
  have HF := Lib.hid hf
  have HL := Lib.hid (hl.below b1)
  have HI := Lib.hid ih
  have HR := Lib.hid hr
  obtain ⟨len, hlen⟩ : ∃ n, l.length = n := ⟨_, rfl⟩
  have HN := Lib.hid hlen
  have HLC := Lib.hid fun (W : World) (hb : Below w1.heap.size w1 W) => rladder_calls s (Nat.le_trans HL.out.room.1 HL.out.room.2) (HL.out.below hb).kids HI.out cap
  simp only [Cr.at_, Cr.kids, hlen] at HLC
  rw [hlen] at x3 HC HE ⊢
  clear hop hf hl ih hr hlen k2 k3 e1 b1 s1
  go_enter Tryd.func11, Tryd.ntmps11
  go_wp2_with fail
  rw [HE.out]
  go_wp2_with fail
  refine (arity_calls op _).mono ?_
  rintro e w9 ⟨rfl, hw9⟩
  rw [hw9, HAR.out]
  clear hw9 w9
  go_wp2_with fail
  refine (fields_calls rw rc rl op n m at_ len cap _).mono ?_
  rintro e w2 ⟨rfl, hb2⟩
  rw [HF.out]
  obtain ⟨⟨x0, x1, x2, x3⟩, ⟨y0, y1, y2⟩⟩ := HC.out w2 hb2
  go_wp2_with fail
  refine (HLC.out _ hb2).mono ?_
  rintro e w3 ⟨rfl, hb3⟩
  have BB := Lib.hid (B1.out.trans ((hb2.trans (hb3.mono hb2.size)).mono B1.out.size))
  cases hb : ladB s l
  · go_wp2_with fail
    go_ret
    exact ⟨by rw [← HR.out, hb]; rfl, BB.out⟩
  · go_wp2_with fail
    go_ret
    exact ⟨by rw [← HR.out, hb]; rfl, BB.out⟩
set_option maxHeartbeats 16000000 in
set_option maxRecDepth 100000 in
theorem rs_node0 (hop : op = 1 ∨ op = 2 ∨ op = 3 ∨ op = 4 ∨ op = 5 ∨ op = 6 ∨ op = 29) (hf : fieldsS rw rc rl op n m = true) :
    Calls Tryd.prog 11 #[.agg #[.int .i64 rw, .int .i64 rc, .int .i64 rl], .agg #[.int .i64 op, .int .i64 n, .int .i64 m, .slice at_ 0 cap]] w fun e w' => e = .returned (.int .i64 (leafS rw rc op n m)) ∧ Below w.heap.size w w' := by
  obtain ⟨w1, e1, b1, k2, k3, s1⟩ := box2 w (.cells #[.int .i64 rw, .int .i64 rc, .int .i64 rl] 42) (.cells #[.int .i64 op, .int .i64 n, .int .i64 m, .slice at_ 0 cap] 24)
  have HE := Lib.hid e1
  have B1 := Lib.hid b1
  obtain ⟨y0, y1, y2⟩ := room2_cells k2
  obtain ⟨x0, x1, x2, x3⟩ := core_cells k3
  have HC := Lib.hid fun (w' : World) (hb : Below w1.heap.size w1 w') => (show ((w'.cell? ⟨w.heap.size, 0, none⟩ = some (.int .i64 rw) ∧ w'.cell? ⟨w.heap.size, 1, none⟩ = some (.int .i64 rc) ∧ w'.cell? ⟨w.heap.size, 2, none⟩ = some (.int .i64 rl)) ∧ (w'.cell? ⟨w.heap.size + 1, 0, none⟩ = some (.int .i64 op) ∧ w'.cell? ⟨w.heap.size + 1, 1, none⟩ = some (.int .i64 n) ∧ w'.cell? ⟨w.heap.size + 1, 2, none⟩ = some (.int .i64 m) ∧ w'.cell? ⟨w.heap.size + 1, 3, none⟩ = some (.slice at_ 0 cap))) from ⟨room2_cells (blk_below k2 hb), core_cells (blk_below k3 hb)⟩)
  have HAR := Lib.hid (show arityS op = 0 by rcases hop with rfl | rfl | rfl | rfl | rfl | rfl | rfl <;> rfl)
  have HF := Lib.hid hf
  have HOP := Lib.hid hop
  clear hop hf k2 k3 e1 b1 s1 
  go_enter Tryd.func11, Tryd.ntmps11
  go_wp2_with fail
  rw [HE.out]
  go_wp2_with fail
  refine (arity_calls op _).mono ?_
  rintro e w9 ⟨rfl, hw9⟩
  rw [hw9, HAR.out]
  clear hw9 w9
  go_wp2_with fail
  refine (fields_calls rw rc rl op n m at_ 0 cap _).mono ?_
  rintro e w2 ⟨rfl, hb2⟩
  rw [HF.out]
  obtain ⟨⟨y0, y1, y2⟩, ⟨x0, x1, x2, x3⟩⟩ := HC.out w2 hb2
  go_wp2_with fail
  obtain ⟨gA, hgA⟩ : ∃ g, w2.heap.size = g := ⟨_, rfl⟩
  have HGA := Lib.hid (show w1.heap.size ≤ gA by rw [← hgA]; exact hb2.size)
  obtain ⟨wA, eA, bA, kA, sA⟩ := box1 w2 (.cells #[.int .i64 0, .int .i64 0, .int .i64 0] 40)
  rw [eA, hgA]
  rw [hgA] at kA
  have HBA := Lib.hid (hb2.trans (bA.mono hb2.size))
  have HKA := Lib.hid kA
  clear eA bA kA sA hgA hb2 y0 y1 y2 x0 x1 x2 x3
  go_loopg [7] 0 (fun gg v7 wr => ∃ i : Nat, v7 = .int .i64 i ∧ Aside0 (i ≤ 0 ∧ 0 - i ≤ gg) ∧ Aside0 (Below w1.heap.size w1 wr) ∧ Aside0 (wr.heap[gA]? = some (.cells #[.int .i64 0, .int .i64 0, .int .i64 0] 40 (0, 0))))
  case atStart => exact ⟨0, rfl, ⟨by omega⟩, ⟨HBA.out⟩, ⟨by simpa using HKA.out⟩⟩
  case round =>
    clear HKA HBA
    obtain ⟨i, rfl, hi, BW, hKA⟩ := hrel
    have HI := Lib.hid hi.out
    have HB := Lib.hid BW.out
    have HKA := Lib.hid hKA.out
    clear hi BW hKA
    rcases (show i = 0 by have := HI.out; omega) with rfl
    · have kA : wr.heap[gA]? = some (.cells #[.int .i64 0, .int .i64 0, .int .i64 0] 40 (0, 0)) := by simpa using HKA.out
      obtain ⟨⟨y0, y1, y2⟩, ⟨x0, x1, x2, x3⟩⟩ := HC.out wr HB.out
      have a0 := (blk_cell kA 0).trans rfl
      have a1 := (blk_cell kA 1).trans rfl
      have a2 := (blk_cell kA 2).trans rfl
      have BB := Lib.hid (B1.out.trans (HB.out.mono B1.out.size))
      clear HC HB HE HAR HI HGA HKA kA B1 y0 y1 y2
      rcases HOP.out with rfl | rfl | rfl | rfl | rfl | rfl | rfl
      all_goals go_wp2
      all_goals
        go_ret
        refine ⟨?_, BB.out⟩
        have hf := HF.out
        have hop := HOP.out
        clear HF HOP BB x0 x1 x2 x3 a0 a1 a2
        first | (simp_all [leafS, fieldsS]; done) | (simp_all [leafS, fieldsS]; omega) | (rcases hop with rfl | rfl | rfl | rfl | rfl | rfl | rfl <;> simp_all [leafS, fieldsS]; done) | (rcases hop with rfl | rfl | rfl | rfl | rfl | rfl | rfl <;> simp_all [leafS, fieldsS] <;> omega)
end
end Go.Proofs.YtpljkcakijkklaaDoor

end
section
namespace Go.Proofs.YtpljkcakijkklaaDoor
set_option linter.unusedVariables false
set_option linter.unusedSimpArgs false
open Go.RowKit Go.Proofs.YtpljkcakijkklaaDoorW.PrintWords Go.Proofs.YtpljkcakijkklaaDoorW.PrintLast Go.Proofs.YtpljkcakijkklaaDoorW.PrintMore

section
variable {rw rc rl op n m : Int} {at_ : Option Addr} {cap : Nat} {w : World}
set_option maxHeartbeats 16000000 in
set_option maxRecDepth 100000 in
theorem rs_node1_7 (hop : op = 7) (hf : fieldsS rw rc rl op n m = true) {ka : Cr} {va : Int} (hl : Lies w (.node op n m at_ cap [ka])) (ika : SortR rw rc rl ka va) (hv : va = 0 ∨ va = 1 ∨ va = 2 ∨ va = 3) :
    Calls Tryd.prog 11 #[.agg #[.int .i64 rw, .int .i64 rc, .int .i64 rl], .agg #[.int .i64 op, .int .i64 n, .int .i64 m, .slice at_ 1 cap]] w fun e w' => e = .returned (.int .i64 (oneS rl op n m va)) ∧ Below w.heap.size w w' := by
  obtain ⟨p, rfl⟩ : ∃ p, at_ = some p := by
    obtain ⟨b, hb, -⟩ := hl.kids.cells (i := 0) (k := ka) rfl
    exact ⟨b, hb⟩
  obtain ⟨w1, e1, b1, k2, k3, s1⟩ := box2 w (.cells #[.int .i64 rw, .int .i64 rc, .int .i64 rl] 42) (.cells #[.int .i64 op, .int .i64 n, .int .i64 m, .slice (some p) 1 cap] 24)
  have HE := Lib.hid e1
  have B1 := Lib.hid b1
  obtain ⟨y0, y1, y2⟩ := room2_cells k2
  obtain ⟨x0, x1, x2, x3⟩ := core_cells k3
  have HK := Lib.hid (hl.below b1).kids
  simp only [Cr.at_, Cr.kids] at HK
  have HC := Lib.hid fun (w' : World) (hb : Below w1.heap.size w1 w') => (show ((w'.cell? ⟨w.heap.size, 0, none⟩ = some (.int .i64 rw) ∧ w'.cell? ⟨w.heap.size, 1, none⟩ = some (.int .i64 rc) ∧ w'.cell? ⟨w.heap.size, 2, none⟩ = some (.int .i64 rl)) ∧ (w'.cell? ⟨w.heap.size + 1, 0, none⟩ = some (.int .i64 op) ∧ w'.cell? ⟨w.heap.size + 1, 1, none⟩ = some (.int .i64 n) ∧ w'.cell? ⟨w.heap.size + 1, 2, none⟩ = some (.int .i64 m) ∧ w'.cell? ⟨w.heap.size + 1, 3, none⟩ = some (.slice (some p) 1 cap))) ∧ (w'.cell? p = some (.int .i64 ka.op) ∧ w'.cell? ⟨p.block, p.off + 1, none⟩ = some (.int .i64 ka.n) ∧ w'.cell? ⟨p.block, p.off + 2, none⟩ = some (.int .i64 ka.m) ∧ w'.cell? ⟨p.block, p.off + 3, none⟩ = some (.slice ka.at_ ka.kids.length ka.cap)) from ⟨⟨room2_cells (blk_below k2 hb), core_cells (blk_below k3 hb)⟩, HK.out.lit0 hb rfl⟩)
  have Lka := Lib.hid (LiesL.lies HK.out (k := ka) (by simp))
  have Ika := Lib.hid ika
  have HAR := Lib.hid (show arityS op = 1 by rcases hop with rfl <;> rfl)
  have HF := Lib.hid hf
  have HOP := Lib.hid hop
  have HV := Lib.hid hv
  clear hv
  clear hop hf k2 k3 e1 b1 s1 hl ika
  go_enter Tryd.func11, Tryd.ntmps11
  go_wp2_with fail
  rw [HE.out]
  go_wp2_with fail
  refine (arity_calls op _).mono ?_
  rintro e w9 ⟨rfl, hw9⟩
  rw [hw9, HAR.out]
  clear hw9 w9
  go_wp2_with fail
  refine (fields_calls rw rc rl op n m (some p) 1 cap _).mono ?_
  rintro e w2 ⟨rfl, hb2⟩
  rw [HF.out]
  obtain ⟨⟨⟨y0, y1, y2⟩, ⟨x0, x1, x2, x3⟩⟩, z0⟩ := HC.out w2 hb2
  go_wp2_with fail
  obtain ⟨gA, hgA⟩ : ∃ g, w2.heap.size = g := ⟨_, rfl⟩
  have HGA := Lib.hid (show w1.heap.size ≤ gA by rw [← hgA]; exact hb2.size)
  obtain ⟨wA, eA, bA, kA, sA⟩ := box1 w2 (.cells #[.int .i64 0, .int .i64 0, .int .i64 0] 40)
  rw [eA, hgA]
  rw [hgA] at kA
  have HBA := Lib.hid (hb2.trans (bA.mono hb2.size))
  have HKA := Lib.hid kA
  clear eA bA kA sA hgA hb2 y0 y1 y2 x0 x1 x2 x3 z0
  go_loopg [7] 1 (fun gg v7 wr => ∃ i : Nat, v7 = .int .i64 i ∧ Aside0 (i ≤ 1 ∧ 1 - i ≤ gg) ∧ Aside0 (Below w1.heap.size w1 wr) ∧ Aside0 (wr.heap[gA]? = some (.cells #[.int .i64 (if 0 < i then va else 0), .int .i64 0, .int .i64 0] 40 (0, 0))))
  case atStart => exact ⟨0, rfl, ⟨by omega⟩, ⟨HBA.out⟩, ⟨by simpa using HKA.out⟩⟩
  case round =>
    clear HKA HBA
    obtain ⟨i, rfl, hi, BW, hKA⟩ := hrel
    have HI := Lib.hid hi.out
    have HB := Lib.hid BW.out
    have HKA := Lib.hid hKA.out
    clear hi BW hKA
    rcases (show i = 0 ∨ i = 1 by have := HI.out; omega) with rfl | rfl
    · have kA : wr.heap[gA]? = some (.cells #[.int .i64 0, .int .i64 0, .int .i64 0] 40 (0, 0)) := by simpa using HKA.out
      have kAd : wr.drew.heap[gA]? = some (.cells #[.int .i64 0, .int .i64 0, .int .i64 0] 40 (0, 0)) := kA
      clear HKA kA
      go_wp2_with fail
      refine wp_region_held_drew (S := fun w' => Aside0 (Below w1.heap.size w1 w')) (by kernel_rfl) ?_ (fun hHeld => ?_)
      · exact ⟨HB.out.drew⟩
      generalize World.drew _ = wDa at hHeld kAd ⊢
      refine' tk (i := 0) rfl (by kernel_rfl) (fun _ _ _ h => h) ?ya0 hHeld ?za0
      case ya0 => (refine .inl ⟨by rfl, fun w h => ?_⟩; have F := HC.out w h.out; go_simp; (try with_reducible rfl))
      try simp only [pt]
      refine' tk (i := 1) rfl (by kernel_rfl) (fun _ _ _ h => h) ?ya1 hHeld ?za1
      case ya1 => (refine .inl ⟨by rfl, fun w h => ?_⟩; have F := HC.out w h.out; go_simp; (try with_reducible rfl))
      try simp only [pt]
      refine' tk (i := 2) rfl (by kernel_rfl) (fun _ _ _ h => h) ?ya2 hHeld ?za2
      case ya2 => (refine .inl ⟨by rfl, fun w h => ?_⟩; have F := HC.out w h.out; go_simp; (try with_reducible rfl))
      try simp only [pt]
      refine' tk (i := 3) rfl (by kernel_rfl) (fun _ _ _ h => h) ?ya3 hHeld ?za3
      case ya3 => (refine .inl ⟨by rfl, fun w h => ?_⟩; have F := HC.out w h.out; go_simp; (try with_reducible rfl))
      try simp only [pt]
      refine' tk (i := 4) rfl (by kernel_rfl) (fun _ _ _ h => h) ?ya4 hHeld ?za4
      case ya4 => (refine .inl ⟨by rfl, fun w h => ?_⟩; have F := HC.out w h.out; go_simp; (try with_reducible rfl))
      try simp only [pt]
      refine' tk (i := 5) rfl (by kernel_rfl) (fun _ _ _ h => h) ?ya5 hHeld ?za5
      case ya5 => (refine .inl ⟨by rfl, fun w h => ?_⟩; have F := HC.out w h.out; go_simp; (try with_reducible rfl))
      try simp only [pt]
      refine' tk (i := 6) rfl (by kernel_rfl) (fun _ _ _ h => h) ?ya6 hHeld ?za6
      case ya6 => (refine .inl ⟨by rfl, fun w h => ?_⟩; have F := HC.out w h.out; go_simp; (try with_reducible rfl))
      try simp only [pt]
      refine wpAnyH_ready (rs := [7]) (by kernel_rfl) (by simp) ?_
      refine AllReadyH.cons (o := ?oi_a7) ?hi_a7 (fun K hK => ?kk_a7) AllReadyH.nil
      case hi_a7 => (simp only [List.getElem?_toArray, List.getElem?_cons_succ, List.getElem?_cons_zero]; rfl)
      go_simp
      refine (Ika.out _ (Lka.out.below hHeld.out)).mono ?_
      rintro e w7 ⟨rfl, hb2⟩
      have kA7 := blk_below kAd hb2
      have xA := (blk_cell kA7 0).trans rfl
      have fA := blk_frozen kA7 0
      refine hK.out _ _ ⟨hHeld.out.trans (hb2.mono hHeld.out.size)⟩ (fun hHeld => ?_)
      clear hK K
      try simp only [pt]
      refine' tk (i := 8) rfl (by kernel_rfl) (fun _ _ _ h => h) ?ya8 hHeld ?za8
      case ya8 => (refine .inl ⟨by rfl, fun w h => ?_⟩; have F := HC.out w h.out; go_simp; (try with_reducible rfl))
      try simp only [pt]
      refine wpAnyH_ready (rs := [9]) (by kernel_rfl) (by simp) ?_
      refine AllReadyH.cons (o := ?oi_a9) ?hi_a9 (fun K hK => ?kk_a9) AllReadyH.nil
      case hi_a9 => (simp only [List.getElem?_toArray, List.getElem?_cons_succ, List.getElem?_cons_zero]; rfl)
      go_simp
      have kA8 := blk_put kA7 0 (.int .i64 va) rfl
      refine hK.out _ _ ⟨hHeld.out.setCell (p := ⟨gA, 0, none⟩) HGA.out (.int .i64 va)⟩ (fun hHeld => ?_)
      clear hK K
      try simp only [pt]
      refine wpAnyH_done (by kernel_rfl) ?_ _
      go_wp2_with fail
      go_roundg (gk - 1)
      case measure => have := HI.out; omega
      case rel => exact ⟨1, by first | rfl | simp, ⟨by have := HI.out; omega⟩, ⟨hHeld.out⟩, ⟨by simpa using kA8⟩⟩
    · have kA : wr.heap[gA]? = some (.cells #[.int .i64 va, .int .i64 0, .int .i64 0] 40 (0, 0)) := by simpa using HKA.out
      obtain ⟨⟨⟨y0, y1, y2⟩, ⟨x0, x1, x2, x3⟩⟩, z0⟩ := HC.out wr HB.out
      have a0 := (blk_cell kA 0).trans rfl
      have a1 := (blk_cell kA 1).trans rfl
      have a2 := (blk_cell kA 2).trans rfl
      have BB := Lib.hid (B1.out.trans (HB.out.mono B1.out.size))
      clear HC HB HE HAR HI HGA HKA kA B1 Lka Ika HK z0 y0 y1 y2
      rcases HOP.out with rfl
      all_goals go_wp2
      all_goals
        go_ret
        refine ⟨?_, BB.out⟩
        have hf := HF.out
        have hop := HOP.out
        have hv := HV.out
        clear HV
        clear HF HOP BB x0 x1 x2 x3 a0 a1 a2
        first | (simp_all [oneS, fieldsS]; done) | (simp_all [oneS, fieldsS]; omega) | (rcases hop with rfl <;> rcases hv with rfl | rfl | rfl | rfl <;> simp_all [oneS, fieldsS]; done) | (rcases hop with rfl <;> rcases hv with rfl | rfl | rfl | rfl <;> simp_all [oneS, fieldsS] <;> omega)
set_option maxHeartbeats 16000000 in
set_option maxRecDepth 100000 in
theorem rs_node1_8 (hop : op = 8) (hf : fieldsS rw rc rl op n m = true) {ka : Cr} {va : Int} (hl : Lies w (.node op n m at_ cap [ka])) (ika : SortR rw rc rl ka va) :
    Calls Tryd.prog 11 #[.agg #[.int .i64 rw, .int .i64 rc, .int .i64 rl], .agg #[.int .i64 op, .int .i64 n, .int .i64 m, .slice at_ 1 cap]] w fun e w' => e = .returned (.int .i64 (oneS rl op n m va)) ∧ Below w.heap.size w w' := by
  obtain ⟨p, rfl⟩ : ∃ p, at_ = some p := by
    obtain ⟨b, hb, -⟩ := hl.kids.cells (i := 0) (k := ka) rfl
    exact ⟨b, hb⟩
  obtain ⟨w1, e1, b1, k2, k3, s1⟩ := box2 w (.cells #[.int .i64 rw, .int .i64 rc, .int .i64 rl] 42) (.cells #[.int .i64 op, .int .i64 n, .int .i64 m, .slice (some p) 1 cap] 24)
  have HE := Lib.hid e1
  have B1 := Lib.hid b1
  obtain ⟨y0, y1, y2⟩ := room2_cells k2
  obtain ⟨x0, x1, x2, x3⟩ := core_cells k3
  have HK := Lib.hid (hl.below b1).kids
  simp only [Cr.at_, Cr.kids] at HK
  have HC := Lib.hid fun (w' : World) (hb : Below w1.heap.size w1 w') => (show ((w'.cell? ⟨w.heap.size, 0, none⟩ = some (.int .i64 rw) ∧ w'.cell? ⟨w.heap.size, 1, none⟩ = some (.int .i64 rc) ∧ w'.cell? ⟨w.heap.size, 2, none⟩ = some (.int .i64 rl)) ∧ (w'.cell? ⟨w.heap.size + 1, 0, none⟩ = some (.int .i64 op) ∧ w'.cell? ⟨w.heap.size + 1, 1, none⟩ = some (.int .i64 n) ∧ w'.cell? ⟨w.heap.size + 1, 2, none⟩ = some (.int .i64 m) ∧ w'.cell? ⟨w.heap.size + 1, 3, none⟩ = some (.slice (some p) 1 cap))) ∧ (w'.cell? p = some (.int .i64 ka.op) ∧ w'.cell? ⟨p.block, p.off + 1, none⟩ = some (.int .i64 ka.n) ∧ w'.cell? ⟨p.block, p.off + 2, none⟩ = some (.int .i64 ka.m) ∧ w'.cell? ⟨p.block, p.off + 3, none⟩ = some (.slice ka.at_ ka.kids.length ka.cap)) from ⟨⟨room2_cells (blk_below k2 hb), core_cells (blk_below k3 hb)⟩, HK.out.lit0 hb rfl⟩)
  have Lka := Lib.hid (LiesL.lies HK.out (k := ka) (by simp))
  have Ika := Lib.hid ika
  have HAR := Lib.hid (show arityS op = 1 by rcases hop with rfl <;> rfl)
  have HF := Lib.hid hf
  have HOP := Lib.hid hop
  clear hop hf k2 k3 e1 b1 s1 hl ika
  go_enter Tryd.func11, Tryd.ntmps11
  go_wp2_with fail
  rw [HE.out]
  go_wp2_with fail
  refine (arity_calls op _).mono ?_
  rintro e w9 ⟨rfl, hw9⟩
  rw [hw9, HAR.out]
  clear hw9 w9
  go_wp2_with fail
  refine (fields_calls rw rc rl op n m (some p) 1 cap _).mono ?_
  rintro e w2 ⟨rfl, hb2⟩
  rw [HF.out]
  obtain ⟨⟨⟨y0, y1, y2⟩, ⟨x0, x1, x2, x3⟩⟩, z0⟩ := HC.out w2 hb2
  go_wp2_with fail
  obtain ⟨gA, hgA⟩ : ∃ g, w2.heap.size = g := ⟨_, rfl⟩
  have HGA := Lib.hid (show w1.heap.size ≤ gA by rw [← hgA]; exact hb2.size)
  obtain ⟨wA, eA, bA, kA, sA⟩ := box1 w2 (.cells #[.int .i64 0, .int .i64 0, .int .i64 0] 40)
  rw [eA, hgA]
  rw [hgA] at kA
  have HBA := Lib.hid (hb2.trans (bA.mono hb2.size))
  have HKA := Lib.hid kA
  clear eA bA kA sA hgA hb2 y0 y1 y2 x0 x1 x2 x3 z0
  go_loopg [7] 1 (fun gg v7 wr => ∃ i : Nat, v7 = .int .i64 i ∧ Aside0 (i ≤ 1 ∧ 1 - i ≤ gg) ∧ Aside0 (Below w1.heap.size w1 wr) ∧ Aside0 (wr.heap[gA]? = some (.cells #[.int .i64 (if 0 < i then va else 0), .int .i64 0, .int .i64 0] 40 (0, 0))))
  case atStart => exact ⟨0, rfl, ⟨by omega⟩, ⟨HBA.out⟩, ⟨by simpa using HKA.out⟩⟩
  case round =>
    clear HKA HBA
    obtain ⟨i, rfl, hi, BW, hKA⟩ := hrel
    have HI := Lib.hid hi.out
    have HB := Lib.hid BW.out
    have HKA := Lib.hid hKA.out
    clear hi BW hKA
    rcases (show i = 0 ∨ i = 1 by have := HI.out; omega) with rfl | rfl
    · have kA : wr.heap[gA]? = some (.cells #[.int .i64 0, .int .i64 0, .int .i64 0] 40 (0, 0)) := by simpa using HKA.out
      have kAd : wr.drew.heap[gA]? = some (.cells #[.int .i64 0, .int .i64 0, .int .i64 0] 40 (0, 0)) := kA
      clear HKA kA
      go_wp2_with fail
      refine wp_region_held_drew (S := fun w' => Aside0 (Below w1.heap.size w1 w')) (by kernel_rfl) ?_ (fun hHeld => ?_)
      · exact ⟨HB.out.drew⟩
      generalize World.drew _ = wDa at hHeld kAd ⊢
      refine' tk (i := 0) rfl (by kernel_rfl) (fun _ _ _ h => h) ?ya0 hHeld ?za0
      case ya0 => (refine .inl ⟨by rfl, fun w h => ?_⟩; have F := HC.out w h.out; go_simp; (try with_reducible rfl))
      try simp only [pt]
      refine' tk (i := 1) rfl (by kernel_rfl) (fun _ _ _ h => h) ?ya1 hHeld ?za1
      case ya1 => (refine .inl ⟨by rfl, fun w h => ?_⟩; have F := HC.out w h.out; go_simp; (try with_reducible rfl))
      try simp only [pt]
      refine' tk (i := 2) rfl (by kernel_rfl) (fun _ _ _ h => h) ?ya2 hHeld ?za2
      case ya2 => (refine .inl ⟨by rfl, fun w h => ?_⟩; have F := HC.out w h.out; go_simp; (try with_reducible rfl))
      try simp only [pt]
      refine' tk (i := 3) rfl (by kernel_rfl) (fun _ _ _ h => h) ?ya3 hHeld ?za3
      case ya3 => (refine .inl ⟨by rfl, fun w h => ?_⟩; have F := HC.out w h.out; go_simp; (try with_reducible rfl))
      try simp only [pt]
      refine' tk (i := 4) rfl (by kernel_rfl) (fun _ _ _ h => h) ?ya4 hHeld ?za4
      case ya4 => (refine .inl ⟨by rfl, fun w h => ?_⟩; have F := HC.out w h.out; go_simp; (try with_reducible rfl))
      try simp only [pt]
      refine' tk (i := 5) rfl (by kernel_rfl) (fun _ _ _ h => h) ?ya5 hHeld ?za5
      case ya5 => (refine .inl ⟨by rfl, fun w h => ?_⟩; have F := HC.out w h.out; go_simp; (try with_reducible rfl))
      try simp only [pt]
      refine' tk (i := 6) rfl (by kernel_rfl) (fun _ _ _ h => h) ?ya6 hHeld ?za6
      case ya6 => (refine .inl ⟨by rfl, fun w h => ?_⟩; have F := HC.out w h.out; go_simp; (try with_reducible rfl))
      try simp only [pt]
      refine wpAnyH_ready (rs := [7]) (by kernel_rfl) (by simp) ?_
      refine AllReadyH.cons (o := ?oi_a7) ?hi_a7 (fun K hK => ?kk_a7) AllReadyH.nil
      case hi_a7 => (simp only [List.getElem?_toArray, List.getElem?_cons_succ, List.getElem?_cons_zero]; rfl)
      go_simp
      refine (Ika.out _ (Lka.out.below hHeld.out)).mono ?_
      rintro e w7 ⟨rfl, hb2⟩
      have kA7 := blk_below kAd hb2
      have xA := (blk_cell kA7 0).trans rfl
      have fA := blk_frozen kA7 0
      refine hK.out _ _ ⟨hHeld.out.trans (hb2.mono hHeld.out.size)⟩ (fun hHeld => ?_)
      clear hK K
      try simp only [pt]
      refine' tk (i := 8) rfl (by kernel_rfl) (fun _ _ _ h => h) ?ya8 hHeld ?za8
      case ya8 => (refine .inl ⟨by rfl, fun w h => ?_⟩; have F := HC.out w h.out; go_simp; (try with_reducible rfl))
      try simp only [pt]
      refine wpAnyH_ready (rs := [9]) (by kernel_rfl) (by simp) ?_
      refine AllReadyH.cons (o := ?oi_a9) ?hi_a9 (fun K hK => ?kk_a9) AllReadyH.nil
      case hi_a9 => (simp only [List.getElem?_toArray, List.getElem?_cons_succ, List.getElem?_cons_zero]; rfl)
      go_simp
      have kA8 := blk_put kA7 0 (.int .i64 va) rfl
      refine hK.out _ _ ⟨hHeld.out.setCell (p := ⟨gA, 0, none⟩) HGA.out (.int .i64 va)⟩ (fun hHeld => ?_)
      clear hK K
      try simp only [pt]
      refine wpAnyH_done (by kernel_rfl) ?_ _
      go_wp2_with fail
      go_roundg (gk - 1)
      case measure => have := HI.out; omega
      case rel => exact ⟨1, by first | rfl | simp, ⟨by have := HI.out; omega⟩, ⟨hHeld.out⟩, ⟨by simpa using kA8⟩⟩
    · have kA : wr.heap[gA]? = some (.cells #[.int .i64 va, .int .i64 0, .int .i64 0] 40 (0, 0)) := by simpa using HKA.out
      obtain ⟨⟨⟨y0, y1, y2⟩, ⟨x0, x1, x2, x3⟩⟩, z0⟩ := HC.out wr HB.out
      have a0 := (blk_cell kA 0).trans rfl
      have a1 := (blk_cell kA 1).trans rfl
      have a2 := (blk_cell kA 2).trans rfl
      have BB := Lib.hid (B1.out.trans (HB.out.mono B1.out.size))
      clear HC HB HE HAR HI HGA HKA kA B1 Lka Ika HK z0 y0 y1 y2
      rcases HOP.out with rfl
      all_goals go_wp2
      all_goals
        go_ret
        refine ⟨?_, BB.out⟩
        have hf := HF.out
        have hop := HOP.out
        clear HF HOP BB x0 x1 x2 x3 a0 a1 a2
        first | (simp_all [oneS, fieldsS]; done) | (simp_all [oneS, fieldsS]; omega) | (rcases hop with rfl <;> simp_all [oneS, fieldsS]; done) | (rcases hop with rfl <;> simp_all [oneS, fieldsS] <;> omega)
set_option maxHeartbeats 16000000 in
set_option maxRecDepth 100000 in
theorem rs_node1_9 (hop : op = 9) (hf : fieldsS rw rc rl op n m = true) {ka : Cr} {va : Int} (hl : Lies w (.node op n m at_ cap [ka])) (ika : SortR rw rc rl ka va) :
    Calls Tryd.prog 11 #[.agg #[.int .i64 rw, .int .i64 rc, .int .i64 rl], .agg #[.int .i64 op, .int .i64 n, .int .i64 m, .slice at_ 1 cap]] w fun e w' => e = .returned (.int .i64 (oneS rl op n m va)) ∧ Below w.heap.size w w' := by
  obtain ⟨p, rfl⟩ : ∃ p, at_ = some p := by
    obtain ⟨b, hb, -⟩ := hl.kids.cells (i := 0) (k := ka) rfl
    exact ⟨b, hb⟩
  obtain ⟨w1, e1, b1, k2, k3, s1⟩ := box2 w (.cells #[.int .i64 rw, .int .i64 rc, .int .i64 rl] 42) (.cells #[.int .i64 op, .int .i64 n, .int .i64 m, .slice (some p) 1 cap] 24)
  have HE := Lib.hid e1
  have B1 := Lib.hid b1
  obtain ⟨y0, y1, y2⟩ := room2_cells k2
  obtain ⟨x0, x1, x2, x3⟩ := core_cells k3
  have HK := Lib.hid (hl.below b1).kids
  simp only [Cr.at_, Cr.kids] at HK
  have HC := Lib.hid fun (w' : World) (hb : Below w1.heap.size w1 w') => (show ((w'.cell? ⟨w.heap.size, 0, none⟩ = some (.int .i64 rw) ∧ w'.cell? ⟨w.heap.size, 1, none⟩ = some (.int .i64 rc) ∧ w'.cell? ⟨w.heap.size, 2, none⟩ = some (.int .i64 rl)) ∧ (w'.cell? ⟨w.heap.size + 1, 0, none⟩ = some (.int .i64 op) ∧ w'.cell? ⟨w.heap.size + 1, 1, none⟩ = some (.int .i64 n) ∧ w'.cell? ⟨w.heap.size + 1, 2, none⟩ = some (.int .i64 m) ∧ w'.cell? ⟨w.heap.size + 1, 3, none⟩ = some (.slice (some p) 1 cap))) ∧ (w'.cell? p = some (.int .i64 ka.op) ∧ w'.cell? ⟨p.block, p.off + 1, none⟩ = some (.int .i64 ka.n) ∧ w'.cell? ⟨p.block, p.off + 2, none⟩ = some (.int .i64 ka.m) ∧ w'.cell? ⟨p.block, p.off + 3, none⟩ = some (.slice ka.at_ ka.kids.length ka.cap)) from ⟨⟨room2_cells (blk_below k2 hb), core_cells (blk_below k3 hb)⟩, HK.out.lit0 hb rfl⟩)
  have Lka := Lib.hid (LiesL.lies HK.out (k := ka) (by simp))
  have Ika := Lib.hid ika
  have HAR := Lib.hid (show arityS op = 1 by rcases hop with rfl <;> rfl)
  have HF := Lib.hid hf
  have HOP := Lib.hid hop
  clear hop hf k2 k3 e1 b1 s1 hl ika
  go_enter Tryd.func11, Tryd.ntmps11
  go_wp2_with fail
  rw [HE.out]
  go_wp2_with fail
  refine (arity_calls op _).mono ?_
  rintro e w9 ⟨rfl, hw9⟩
  rw [hw9, HAR.out]
  clear hw9 w9
  go_wp2_with fail
  refine (fields_calls rw rc rl op n m (some p) 1 cap _).mono ?_
  rintro e w2 ⟨rfl, hb2⟩
  rw [HF.out]
  obtain ⟨⟨⟨y0, y1, y2⟩, ⟨x0, x1, x2, x3⟩⟩, z0⟩ := HC.out w2 hb2
  go_wp2_with fail
  obtain ⟨gA, hgA⟩ : ∃ g, w2.heap.size = g := ⟨_, rfl⟩
  have HGA := Lib.hid (show w1.heap.size ≤ gA by rw [← hgA]; exact hb2.size)
  obtain ⟨wA, eA, bA, kA, sA⟩ := box1 w2 (.cells #[.int .i64 0, .int .i64 0, .int .i64 0] 40)
  rw [eA, hgA]
  rw [hgA] at kA
  have HBA := Lib.hid (hb2.trans (bA.mono hb2.size))
  have HKA := Lib.hid kA
  clear eA bA kA sA hgA hb2 y0 y1 y2 x0 x1 x2 x3 z0
  go_loopg [7] 1 (fun gg v7 wr => ∃ i : Nat, v7 = .int .i64 i ∧ Aside0 (i ≤ 1 ∧ 1 - i ≤ gg) ∧ Aside0 (Below w1.heap.size w1 wr) ∧ Aside0 (wr.heap[gA]? = some (.cells #[.int .i64 (if 0 < i then va else 0), .int .i64 0, .int .i64 0] 40 (0, 0))))
  case atStart => exact ⟨0, rfl, ⟨by omega⟩, ⟨HBA.out⟩, ⟨by simpa using HKA.out⟩⟩
  case round =>
    clear HKA HBA
    obtain ⟨i, rfl, hi, BW, hKA⟩ := hrel
    have HI := Lib.hid hi.out
    have HB := Lib.hid BW.out
    have HKA := Lib.hid hKA.out
    clear hi BW hKA
    rcases (show i = 0 ∨ i = 1 by have := HI.out; omega) with rfl | rfl
    · have kA : wr.heap[gA]? = some (.cells #[.int .i64 0, .int .i64 0, .int .i64 0] 40 (0, 0)) := by simpa using HKA.out
      have kAd : wr.drew.heap[gA]? = some (.cells #[.int .i64 0, .int .i64 0, .int .i64 0] 40 (0, 0)) := kA
      clear HKA kA
      go_wp2_with fail
      refine wp_region_held_drew (S := fun w' => Aside0 (Below w1.heap.size w1 w')) (by kernel_rfl) ?_ (fun hHeld => ?_)
      · exact ⟨HB.out.drew⟩
      generalize World.drew _ = wDa at hHeld kAd ⊢
      refine' tk (i := 0) rfl (by kernel_rfl) (fun _ _ _ h => h) ?ya0 hHeld ?za0
      case ya0 => (refine .inl ⟨by rfl, fun w h => ?_⟩; have F := HC.out w h.out; go_simp; (try with_reducible rfl))
      try simp only [pt]
      refine' tk (i := 1) rfl (by kernel_rfl) (fun _ _ _ h => h) ?ya1 hHeld ?za1
      case ya1 => (refine .inl ⟨by rfl, fun w h => ?_⟩; have F := HC.out w h.out; go_simp; (try with_reducible rfl))
      try simp only [pt]
      refine' tk (i := 2) rfl (by kernel_rfl) (fun _ _ _ h => h) ?ya2 hHeld ?za2
      case ya2 => (refine .inl ⟨by rfl, fun w h => ?_⟩; have F := HC.out w h.out; go_simp; (try with_reducible rfl))
      try simp only [pt]
      refine' tk (i := 3) rfl (by kernel_rfl) (fun _ _ _ h => h) ?ya3 hHeld ?za3
      case ya3 => (refine .inl ⟨by rfl, fun w h => ?_⟩; have F := HC.out w h.out; go_simp; (try with_reducible rfl))
      try simp only [pt]
      refine' tk (i := 4) rfl (by kernel_rfl) (fun _ _ _ h => h) ?ya4 hHeld ?za4
      case ya4 => (refine .inl ⟨by rfl, fun w h => ?_⟩; have F := HC.out w h.out; go_simp; (try with_reducible rfl))
      try simp only [pt]
      refine' tk (i := 5) rfl (by kernel_rfl) (fun _ _ _ h => h) ?ya5 hHeld ?za5
      case ya5 => (refine .inl ⟨by rfl, fun w h => ?_⟩; have F := HC.out w h.out; go_simp; (try with_reducible rfl))
      try simp only [pt]
      refine' tk (i := 6) rfl (by kernel_rfl) (fun _ _ _ h => h) ?ya6 hHeld ?za6
      case ya6 => (refine .inl ⟨by rfl, fun w h => ?_⟩; have F := HC.out w h.out; go_simp; (try with_reducible rfl))
      try simp only [pt]
      refine wpAnyH_ready (rs := [7]) (by kernel_rfl) (by simp) ?_
      refine AllReadyH.cons (o := ?oi_a7) ?hi_a7 (fun K hK => ?kk_a7) AllReadyH.nil
      case hi_a7 => (simp only [List.getElem?_toArray, List.getElem?_cons_succ, List.getElem?_cons_zero]; rfl)
      go_simp
      refine (Ika.out _ (Lka.out.below hHeld.out)).mono ?_
      rintro e w7 ⟨rfl, hb2⟩
      have kA7 := blk_below kAd hb2
      have xA := (blk_cell kA7 0).trans rfl
      have fA := blk_frozen kA7 0
      refine hK.out _ _ ⟨hHeld.out.trans (hb2.mono hHeld.out.size)⟩ (fun hHeld => ?_)
      clear hK K
      try simp only [pt]
      refine' tk (i := 8) rfl (by kernel_rfl) (fun _ _ _ h => h) ?ya8 hHeld ?za8
      case ya8 => (refine .inl ⟨by rfl, fun w h => ?_⟩; have F := HC.out w h.out; go_simp; (try with_reducible rfl))
      try simp only [pt]
      refine wpAnyH_ready (rs := [9]) (by kernel_rfl) (by simp) ?_
      refine AllReadyH.cons (o := ?oi_a9) ?hi_a9 (fun K hK => ?kk_a9) AllReadyH.nil
      case hi_a9 => (simp only [List.getElem?_toArray, List.getElem?_cons_succ, List.getElem?_cons_zero]; rfl)
      go_simp
      have kA8 := blk_put kA7 0 (.int .i64 va) rfl
      refine hK.out _ _ ⟨hHeld.out.setCell (p := ⟨gA, 0, none⟩) HGA.out (.int .i64 va)⟩ (fun hHeld => ?_)
      clear hK K
      try simp only [pt]
      refine wpAnyH_done (by kernel_rfl) ?_ _
      go_wp2_with fail
      go_roundg (gk - 1)
      case measure => have := HI.out; omega
      case rel => exact ⟨1, by first | rfl | simp, ⟨by have := HI.out; omega⟩, ⟨hHeld.out⟩, ⟨by simpa using kA8⟩⟩
    · have kA : wr.heap[gA]? = some (.cells #[.int .i64 va, .int .i64 0, .int .i64 0] 40 (0, 0)) := by simpa using HKA.out
      obtain ⟨⟨⟨y0, y1, y2⟩, ⟨x0, x1, x2, x3⟩⟩, z0⟩ := HC.out wr HB.out
      have a0 := (blk_cell kA 0).trans rfl
      have a1 := (blk_cell kA 1).trans rfl
      have a2 := (blk_cell kA 2).trans rfl
      have BB := Lib.hid (B1.out.trans (HB.out.mono B1.out.size))
      clear HC HB HE HAR HI HGA HKA kA B1 Lka Ika HK z0 y0 y1 y2
      rcases HOP.out with rfl
      all_goals go_wp2
      all_goals
        go_ret
        refine ⟨?_, BB.out⟩
        have hf := HF.out
        have hop := HOP.out
        clear HF HOP BB x0 x1 x2 x3 a0 a1 a2
        first | (simp_all [oneS, fieldsS]; done) | (simp_all [oneS, fieldsS]; omega) | (rcases hop with rfl <;> simp_all [oneS, fieldsS]; done) | (rcases hop with rfl <;> simp_all [oneS, fieldsS] <;> omega)
set_option maxHeartbeats 16000000 in
set_option maxRecDepth 100000 in
theorem rs_node1_13 (hop : op = 13) (hf : fieldsS rw rc rl op n m = true) {ka : Cr} {va : Int} (hl : Lies w (.node op n m at_ cap [ka])) (ika : SortR rw rc rl ka va) :
    Calls Tryd.prog 11 #[.agg #[.int .i64 rw, .int .i64 rc, .int .i64 rl], .agg #[.int .i64 op, .int .i64 n, .int .i64 m, .slice at_ 1 cap]] w fun e w' => e = .returned (.int .i64 (oneS rl op n m va)) ∧ Below w.heap.size w w' := by
  obtain ⟨p, rfl⟩ : ∃ p, at_ = some p := by
    obtain ⟨b, hb, -⟩ := hl.kids.cells (i := 0) (k := ka) rfl
    exact ⟨b, hb⟩
  obtain ⟨w1, e1, b1, k2, k3, s1⟩ := box2 w (.cells #[.int .i64 rw, .int .i64 rc, .int .i64 rl] 42) (.cells #[.int .i64 op, .int .i64 n, .int .i64 m, .slice (some p) 1 cap] 24)
  have HE := Lib.hid e1
  have B1 := Lib.hid b1
  obtain ⟨y0, y1, y2⟩ := room2_cells k2
  obtain ⟨x0, x1, x2, x3⟩ := core_cells k3
  have HK := Lib.hid (hl.below b1).kids
  simp only [Cr.at_, Cr.kids] at HK
  have HC := Lib.hid fun (w' : World) (hb : Below w1.heap.size w1 w') => (show ((w'.cell? ⟨w.heap.size, 0, none⟩ = some (.int .i64 rw) ∧ w'.cell? ⟨w.heap.size, 1, none⟩ = some (.int .i64 rc) ∧ w'.cell? ⟨w.heap.size, 2, none⟩ = some (.int .i64 rl)) ∧ (w'.cell? ⟨w.heap.size + 1, 0, none⟩ = some (.int .i64 op) ∧ w'.cell? ⟨w.heap.size + 1, 1, none⟩ = some (.int .i64 n) ∧ w'.cell? ⟨w.heap.size + 1, 2, none⟩ = some (.int .i64 m) ∧ w'.cell? ⟨w.heap.size + 1, 3, none⟩ = some (.slice (some p) 1 cap))) ∧ (w'.cell? p = some (.int .i64 ka.op) ∧ w'.cell? ⟨p.block, p.off + 1, none⟩ = some (.int .i64 ka.n) ∧ w'.cell? ⟨p.block, p.off + 2, none⟩ = some (.int .i64 ka.m) ∧ w'.cell? ⟨p.block, p.off + 3, none⟩ = some (.slice ka.at_ ka.kids.length ka.cap)) from ⟨⟨room2_cells (blk_below k2 hb), core_cells (blk_below k3 hb)⟩, HK.out.lit0 hb rfl⟩)
  have Lka := Lib.hid (LiesL.lies HK.out (k := ka) (by simp))
  have Ika := Lib.hid ika
  have HAR := Lib.hid (show arityS op = 1 by rcases hop with rfl <;> rfl)
  have HF := Lib.hid hf
  have HOP := Lib.hid hop
  clear hop hf k2 k3 e1 b1 s1 hl ika
  go_enter Tryd.func11, Tryd.ntmps11
  go_wp2_with fail
  rw [HE.out]
  go_wp2_with fail
  refine (arity_calls op _).mono ?_
  rintro e w9 ⟨rfl, hw9⟩
  rw [hw9, HAR.out]
  clear hw9 w9
  go_wp2_with fail
  refine (fields_calls rw rc rl op n m (some p) 1 cap _).mono ?_
  rintro e w2 ⟨rfl, hb2⟩
  rw [HF.out]
  obtain ⟨⟨⟨y0, y1, y2⟩, ⟨x0, x1, x2, x3⟩⟩, z0⟩ := HC.out w2 hb2
  go_wp2_with fail
  obtain ⟨gA, hgA⟩ : ∃ g, w2.heap.size = g := ⟨_, rfl⟩
  have HGA := Lib.hid (show w1.heap.size ≤ gA by rw [← hgA]; exact hb2.size)
  obtain ⟨wA, eA, bA, kA, sA⟩ := box1 w2 (.cells #[.int .i64 0, .int .i64 0, .int .i64 0] 40)
  rw [eA, hgA]
  rw [hgA] at kA
  have HBA := Lib.hid (hb2.trans (bA.mono hb2.size))
  have HKA := Lib.hid kA
  clear eA bA kA sA hgA hb2 y0 y1 y2 x0 x1 x2 x3 z0
  go_loopg [7] 1 (fun gg v7 wr => ∃ i : Nat, v7 = .int .i64 i ∧ Aside0 (i ≤ 1 ∧ 1 - i ≤ gg) ∧ Aside0 (Below w1.heap.size w1 wr) ∧ Aside0 (wr.heap[gA]? = some (.cells #[.int .i64 (if 0 < i then va else 0), .int .i64 0, .int .i64 0] 40 (0, 0))))
  case atStart => exact ⟨0, rfl, ⟨by omega⟩, ⟨HBA.out⟩, ⟨by simpa using HKA.out⟩⟩
  case round =>
    clear HKA HBA
    obtain ⟨i, rfl, hi, BW, hKA⟩ := hrel
    have HI := Lib.hid hi.out
    have HB := Lib.hid BW.out
    have HKA := Lib.hid hKA.out
    clear hi BW hKA
    rcases (show i = 0 ∨ i = 1 by have := HI.out; omega) with rfl | rfl
    · have kA : wr.heap[gA]? = some (.cells #[.int .i64 0, .int .i64 0, .int .i64 0] 40 (0, 0)) := by simpa using HKA.out
      have kAd : wr.drew.heap[gA]? = some (.cells #[.int .i64 0, .int .i64 0, .int .i64 0] 40 (0, 0)) := kA
      clear HKA kA
      go_wp2_with fail
      refine wp_region_held_drew (S := fun w' => Aside0 (Below w1.heap.size w1 w')) (by kernel_rfl) ?_ (fun hHeld => ?_)
      · exact ⟨HB.out.drew⟩
      generalize World.drew _ = wDa at hHeld kAd ⊢
      refine' tk (i := 0) rfl (by kernel_rfl) (fun _ _ _ h => h) ?ya0 hHeld ?za0
      case ya0 => (refine .inl ⟨by rfl, fun w h => ?_⟩; have F := HC.out w h.out; go_simp; (try with_reducible rfl))
      try simp only [pt]
      refine' tk (i := 1) rfl (by kernel_rfl) (fun _ _ _ h => h) ?ya1 hHeld ?za1
      case ya1 => (refine .inl ⟨by rfl, fun w h => ?_⟩; have F := HC.out w h.out; go_simp; (try with_reducible rfl))
      try simp only [pt]
      refine' tk (i := 2) rfl (by kernel_rfl) (fun _ _ _ h => h) ?ya2 hHeld ?za2
      case ya2 => (refine .inl ⟨by rfl, fun w h => ?_⟩; have F := HC.out w h.out; go_simp; (try with_reducible rfl))
      try simp only [pt]
      refine' tk (i := 3) rfl (by kernel_rfl) (fun _ _ _ h => h) ?ya3 hHeld ?za3
      case ya3 => (refine .inl ⟨by rfl, fun w h => ?_⟩; have F := HC.out w h.out; go_simp; (try with_reducible rfl))
      try simp only [pt]
      refine' tk (i := 4) rfl (by kernel_rfl) (fun _ _ _ h => h) ?ya4 hHeld ?za4
      case ya4 => (refine .inl ⟨by rfl, fun w h => ?_⟩; have F := HC.out w h.out; go_simp; (try with_reducible rfl))
      try simp only [pt]
      refine' tk (i := 5) rfl (by kernel_rfl) (fun _ _ _ h => h) ?ya5 hHeld ?za5
      case ya5 => (refine .inl ⟨by rfl, fun w h => ?_⟩; have F := HC.out w h.out; go_simp; (try with_reducible rfl))
      try simp only [pt]
      refine' tk (i := 6) rfl (by kernel_rfl) (fun _ _ _ h => h) ?ya6 hHeld ?za6
      case ya6 => (refine .inl ⟨by rfl, fun w h => ?_⟩; have F := HC.out w h.out; go_simp; (try with_reducible rfl))
      try simp only [pt]
      refine wpAnyH_ready (rs := [7]) (by kernel_rfl) (by simp) ?_
      refine AllReadyH.cons (o := ?oi_a7) ?hi_a7 (fun K hK => ?kk_a7) AllReadyH.nil
      case hi_a7 => (simp only [List.getElem?_toArray, List.getElem?_cons_succ, List.getElem?_cons_zero]; rfl)
      go_simp
      refine (Ika.out _ (Lka.out.below hHeld.out)).mono ?_
      rintro e w7 ⟨rfl, hb2⟩
      have kA7 := blk_below kAd hb2
      have xA := (blk_cell kA7 0).trans rfl
      have fA := blk_frozen kA7 0
      refine hK.out _ _ ⟨hHeld.out.trans (hb2.mono hHeld.out.size)⟩ (fun hHeld => ?_)
      clear hK K
      try simp only [pt]
      refine' tk (i := 8) rfl (by kernel_rfl) (fun _ _ _ h => h) ?ya8 hHeld ?za8
      case ya8 => (refine .inl ⟨by rfl, fun w h => ?_⟩; have F := HC.out w h.out; go_simp; (try with_reducible rfl))
      try simp only [pt]
      refine wpAnyH_ready (rs := [9]) (by kernel_rfl) (by simp) ?_
      refine AllReadyH.cons (o := ?oi_a9) ?hi_a9 (fun K hK => ?kk_a9) AllReadyH.nil
      case hi_a9 => (simp only [List.getElem?_toArray, List.getElem?_cons_succ, List.getElem?_cons_zero]; rfl)
      go_simp
      have kA8 := blk_put kA7 0 (.int .i64 va) rfl
      refine hK.out _ _ ⟨hHeld.out.setCell (p := ⟨gA, 0, none⟩) HGA.out (.int .i64 va)⟩ (fun hHeld => ?_)
      clear hK K
      try simp only [pt]
      refine wpAnyH_done (by kernel_rfl) ?_ _
      go_wp2_with fail
      go_roundg (gk - 1)
      case measure => have := HI.out; omega
      case rel => exact ⟨1, by first | rfl | simp, ⟨by have := HI.out; omega⟩, ⟨hHeld.out⟩, ⟨by simpa using kA8⟩⟩
    · have kA : wr.heap[gA]? = some (.cells #[.int .i64 va, .int .i64 0, .int .i64 0] 40 (0, 0)) := by simpa using HKA.out
      obtain ⟨⟨⟨y0, y1, y2⟩, ⟨x0, x1, x2, x3⟩⟩, z0⟩ := HC.out wr HB.out
      have a0 := (blk_cell kA 0).trans rfl
      have a1 := (blk_cell kA 1).trans rfl
      have a2 := (blk_cell kA 2).trans rfl
      have BB := Lib.hid (B1.out.trans (HB.out.mono B1.out.size))
      clear HC HB HE HAR HI HGA HKA kA B1 Lka Ika HK z0 y0 y1 y2
      rcases HOP.out with rfl
      all_goals go_wp2
      all_goals
        go_ret
        refine ⟨?_, BB.out⟩
        have hf := HF.out
        have hop := HOP.out
        clear HF HOP BB x0 x1 x2 x3 a0 a1 a2
        first | (simp_all [oneS, fieldsS]; done) | (simp_all [oneS, fieldsS]; omega) | (rcases hop with rfl <;> simp_all [oneS, fieldsS]; done) | (rcases hop with rfl <;> simp_all [oneS, fieldsS] <;> omega)
set_option maxHeartbeats 16000000 in
set_option maxRecDepth 100000 in
theorem rs_node1_30 (hop : op = 30) (hf : fieldsS rw rc rl op n m = true) {ka : Cr} {va : Int} (hl : Lies w (.node op n m at_ cap [ka])) (ika : SortR rw rc rl ka va) :
    Calls Tryd.prog 11 #[.agg #[.int .i64 rw, .int .i64 rc, .int .i64 rl], .agg #[.int .i64 op, .int .i64 n, .int .i64 m, .slice at_ 1 cap]] w fun e w' => e = .returned (.int .i64 (oneS rl op n m va)) ∧ Below w.heap.size w w' := by
  obtain ⟨p, rfl⟩ : ∃ p, at_ = some p := by
    obtain ⟨b, hb, -⟩ := hl.kids.cells (i := 0) (k := ka) rfl
    exact ⟨b, hb⟩
  obtain ⟨w1, e1, b1, k2, k3, s1⟩ := box2 w (.cells #[.int .i64 rw, .int .i64 rc, .int .i64 rl] 42) (.cells #[.int .i64 op, .int .i64 n, .int .i64 m, .slice (some p) 1 cap] 24)
  have HE := Lib.hid e1
  have B1 := Lib.hid b1
  obtain ⟨y0, y1, y2⟩ := room2_cells k2
  obtain ⟨x0, x1, x2, x3⟩ := core_cells k3
  have HK := Lib.hid (hl.below b1).kids
  simp only [Cr.at_, Cr.kids] at HK
  have HC := Lib.hid fun (w' : World) (hb : Below w1.heap.size w1 w') => (show ((w'.cell? ⟨w.heap.size, 0, none⟩ = some (.int .i64 rw) ∧ w'.cell? ⟨w.heap.size, 1, none⟩ = some (.int .i64 rc) ∧ w'.cell? ⟨w.heap.size, 2, none⟩ = some (.int .i64 rl)) ∧ (w'.cell? ⟨w.heap.size + 1, 0, none⟩ = some (.int .i64 op) ∧ w'.cell? ⟨w.heap.size + 1, 1, none⟩ = some (.int .i64 n) ∧ w'.cell? ⟨w.heap.size + 1, 2, none⟩ = some (.int .i64 m) ∧ w'.cell? ⟨w.heap.size + 1, 3, none⟩ = some (.slice (some p) 1 cap))) ∧ (w'.cell? p = some (.int .i64 ka.op) ∧ w'.cell? ⟨p.block, p.off + 1, none⟩ = some (.int .i64 ka.n) ∧ w'.cell? ⟨p.block, p.off + 2, none⟩ = some (.int .i64 ka.m) ∧ w'.cell? ⟨p.block, p.off + 3, none⟩ = some (.slice ka.at_ ka.kids.length ka.cap)) from ⟨⟨room2_cells (blk_below k2 hb), core_cells (blk_below k3 hb)⟩, HK.out.lit0 hb rfl⟩)
  have Lka := Lib.hid (LiesL.lies HK.out (k := ka) (by simp))
  have Ika := Lib.hid ika
  have HAR := Lib.hid (show arityS op = 1 by rcases hop with rfl <;> rfl)
  have HF := Lib.hid hf
  have HOP := Lib.hid hop
  clear hop hf k2 k3 e1 b1 s1 hl ika
  go_enter Tryd.func11, Tryd.ntmps11
  go_wp2_with fail
  rw [HE.out]
  go_wp2_with fail
  refine (arity_calls op _).mono ?_
  rintro e w9 ⟨rfl, hw9⟩
  rw [hw9, HAR.out]
  clear hw9 w9
  go_wp2_with fail
  refine (fields_calls rw rc rl op n m (some p) 1 cap _).mono ?_
  rintro e w2 ⟨rfl, hb2⟩
  rw [HF.out]
  obtain ⟨⟨⟨y0, y1, y2⟩, ⟨x0, x1, x2, x3⟩⟩, z0⟩ := HC.out w2 hb2
  go_wp2_with fail
  obtain ⟨gA, hgA⟩ : ∃ g, w2.heap.size = g := ⟨_, rfl⟩
  have HGA := Lib.hid (show w1.heap.size ≤ gA by rw [← hgA]; exact hb2.size)
  obtain ⟨wA, eA, bA, kA, sA⟩ := box1 w2 (.cells #[.int .i64 0, .int .i64 0, .int .i64 0] 40)
  rw [eA, hgA]
  rw [hgA] at kA
  have HBA := Lib.hid (hb2.trans (bA.mono hb2.size))
  have HKA := Lib.hid kA
  clear eA bA kA sA hgA hb2 y0 y1 y2 x0 x1 x2 x3 z0
  go_loopg [7] 1 (fun gg v7 wr => ∃ i : Nat, v7 = .int .i64 i ∧ Aside0 (i ≤ 1 ∧ 1 - i ≤ gg) ∧ Aside0 (Below w1.heap.size w1 wr) ∧ Aside0 (wr.heap[gA]? = some (.cells #[.int .i64 (if 0 < i then va else 0), .int .i64 0, .int .i64 0] 40 (0, 0))))
  case atStart => exact ⟨0, rfl, ⟨by omega⟩, ⟨HBA.out⟩, ⟨by simpa using HKA.out⟩⟩
  case round =>
    clear HKA HBA
    obtain ⟨i, rfl, hi, BW, hKA⟩ := hrel
    have HI := Lib.hid hi.out
    have HB := Lib.hid BW.out
    have HKA := Lib.hid hKA.out
    clear hi BW hKA
    rcases (show i = 0 ∨ i = 1 by have := HI.out; omega) with rfl | rfl
    · have kA : wr.heap[gA]? = some (.cells #[.int .i64 0, .int .i64 0, .int .i64 0] 40 (0, 0)) := by simpa using HKA.out
      have kAd : wr.drew.heap[gA]? = some (.cells #[.int .i64 0, .int .i64 0, .int .i64 0] 40 (0, 0)) := kA
      clear HKA kA
      go_wp2_with fail
      refine wp_region_held_drew (S := fun w' => Aside0 (Below w1.heap.size w1 w')) (by kernel_rfl) ?_ (fun hHeld => ?_)
      · exact ⟨HB.out.drew⟩
      generalize World.drew _ = wDa at hHeld kAd ⊢
      refine' tk (i := 0) rfl (by kernel_rfl) (fun _ _ _ h => h) ?ya0 hHeld ?za0
      case ya0 => (refine .inl ⟨by rfl, fun w h => ?_⟩; have F := HC.out w h.out; go_simp; (try with_reducible rfl))
      try simp only [pt]
      refine' tk (i := 1) rfl (by kernel_rfl) (fun _ _ _ h => h) ?ya1 hHeld ?za1
      case ya1 => (refine .inl ⟨by rfl, fun w h => ?_⟩; have F := HC.out w h.out; go_simp; (try with_reducible rfl))
      try simp only [pt]
      refine' tk (i := 2) rfl (by kernel_rfl) (fun _ _ _ h => h) ?ya2 hHeld ?za2
      case ya2 => (refine .inl ⟨by rfl, fun w h => ?_⟩; have F := HC.out w h.out; go_simp; (try with_reducible rfl))
      try simp only [pt]
      refine' tk (i := 3) rfl (by kernel_rfl) (fun _ _ _ h => h) ?ya3 hHeld ?za3
      case ya3 => (refine .inl ⟨by rfl, fun w h => ?_⟩; have F := HC.out w h.out; go_simp; (try with_reducible rfl))
      try simp only [pt]
      refine' tk (i := 4) rfl (by kernel_rfl) (fun _ _ _ h => h) ?ya4 hHeld ?za4
      case ya4 => (refine .inl ⟨by rfl, fun w h => ?_⟩; have F := HC.out w h.out; go_simp; (try with_reducible rfl))
      try simp only [pt]
      refine' tk (i := 5) rfl (by kernel_rfl) (fun _ _ _ h => h) ?ya5 hHeld ?za5
      case ya5 => (refine .inl ⟨by rfl, fun w h => ?_⟩; have F := HC.out w h.out; go_simp; (try with_reducible rfl))
      try simp only [pt]
      refine' tk (i := 6) rfl (by kernel_rfl) (fun _ _ _ h => h) ?ya6 hHeld ?za6
      case ya6 => (refine .inl ⟨by rfl, fun w h => ?_⟩; have F := HC.out w h.out; go_simp; (try with_reducible rfl))
      try simp only [pt]
      refine wpAnyH_ready (rs := [7]) (by kernel_rfl) (by simp) ?_
      refine AllReadyH.cons (o := ?oi_a7) ?hi_a7 (fun K hK => ?kk_a7) AllReadyH.nil
      case hi_a7 => (simp only [List.getElem?_toArray, List.getElem?_cons_succ, List.getElem?_cons_zero]; rfl)
      go_simp
      refine (Ika.out _ (Lka.out.below hHeld.out)).mono ?_
      rintro e w7 ⟨rfl, hb2⟩
      have kA7 := blk_below kAd hb2
      have xA := (blk_cell kA7 0).trans rfl
      have fA := blk_frozen kA7 0
      refine hK.out _ _ ⟨hHeld.out.trans (hb2.mono hHeld.out.size)⟩ (fun hHeld => ?_)
      clear hK K
      try simp only [pt]
      refine' tk (i := 8) rfl (by kernel_rfl) (fun _ _ _ h => h) ?ya8 hHeld ?za8
      case ya8 => (refine .inl ⟨by rfl, fun w h => ?_⟩; have F := HC.out w h.out; go_simp; (try with_reducible rfl))
      try simp only [pt]
      refine wpAnyH_ready (rs := [9]) (by kernel_rfl) (by simp) ?_
      refine AllReadyH.cons (o := ?oi_a9) ?hi_a9 (fun K hK => ?kk_a9) AllReadyH.nil
      case hi_a9 => (simp only [List.getElem?_toArray, List.getElem?_cons_succ, List.getElem?_cons_zero]; rfl)
      go_simp
      have kA8 := blk_put kA7 0 (.int .i64 va) rfl
      refine hK.out _ _ ⟨hHeld.out.setCell (p := ⟨gA, 0, none⟩) HGA.out (.int .i64 va)⟩ (fun hHeld => ?_)
      clear hK K
      try simp only [pt]
      refine wpAnyH_done (by kernel_rfl) ?_ _
      go_wp2_with fail
      go_roundg (gk - 1)
      case measure => have := HI.out; omega
      case rel => exact ⟨1, by first | rfl | simp, ⟨by have := HI.out; omega⟩, ⟨hHeld.out⟩, ⟨by simpa using kA8⟩⟩
    · have kA : wr.heap[gA]? = some (.cells #[.int .i64 va, .int .i64 0, .int .i64 0] 40 (0, 0)) := by simpa using HKA.out
      obtain ⟨⟨⟨y0, y1, y2⟩, ⟨x0, x1, x2, x3⟩⟩, z0⟩ := HC.out wr HB.out
      have a0 := (blk_cell kA 0).trans rfl
      have a1 := (blk_cell kA 1).trans rfl
      have a2 := (blk_cell kA 2).trans rfl
      have BB := Lib.hid (B1.out.trans (HB.out.mono B1.out.size))
      clear HC HB HE HAR HI HGA HKA kA B1 Lka Ika HK z0 y0 y1 y2
      rcases HOP.out with rfl
      all_goals go_wp2
      all_goals
        go_ret
        refine ⟨?_, BB.out⟩
        have hf := HF.out
        have hop := HOP.out
        clear HF HOP BB x0 x1 x2 x3 a0 a1 a2
        first | (simp_all [oneS, fieldsS]; done) | (simp_all [oneS, fieldsS]; omega) | (rcases hop with rfl <;> simp_all [oneS, fieldsS]; done) | (rcases hop with rfl <;> simp_all [oneS, fieldsS] <;> omega)
set_option maxHeartbeats 16000000 in
set_option maxRecDepth 100000 in
theorem rs_node1_31 (hop : op = 31) (hf : fieldsS rw rc rl op n m = true) {ka : Cr} {va : Int} (hl : Lies w (.node op n m at_ cap [ka])) (ika : SortR rw rc rl ka va) :
    Calls Tryd.prog 11 #[.agg #[.int .i64 rw, .int .i64 rc, .int .i64 rl], .agg #[.int .i64 op, .int .i64 n, .int .i64 m, .slice at_ 1 cap]] w fun e w' => e = .returned (.int .i64 (oneS rl op n m va)) ∧ Below w.heap.size w w' := by
  obtain ⟨p, rfl⟩ : ∃ p, at_ = some p := by
    obtain ⟨b, hb, -⟩ := hl.kids.cells (i := 0) (k := ka) rfl
    exact ⟨b, hb⟩
  obtain ⟨w1, e1, b1, k2, k3, s1⟩ := box2 w (.cells #[.int .i64 rw, .int .i64 rc, .int .i64 rl] 42) (.cells #[.int .i64 op, .int .i64 n, .int .i64 m, .slice (some p) 1 cap] 24)
  have HE := Lib.hid e1
  have B1 := Lib.hid b1
  obtain ⟨y0, y1, y2⟩ := room2_cells k2
  obtain ⟨x0, x1, x2, x3⟩ := core_cells k3
  have HK := Lib.hid (hl.below b1).kids
  simp only [Cr.at_, Cr.kids] at HK
  have HC := Lib.hid fun (w' : World) (hb : Below w1.heap.size w1 w') => (show ((w'.cell? ⟨w.heap.size, 0, none⟩ = some (.int .i64 rw) ∧ w'.cell? ⟨w.heap.size, 1, none⟩ = some (.int .i64 rc) ∧ w'.cell? ⟨w.heap.size, 2, none⟩ = some (.int .i64 rl)) ∧ (w'.cell? ⟨w.heap.size + 1, 0, none⟩ = some (.int .i64 op) ∧ w'.cell? ⟨w.heap.size + 1, 1, none⟩ = some (.int .i64 n) ∧ w'.cell? ⟨w.heap.size + 1, 2, none⟩ = some (.int .i64 m) ∧ w'.cell? ⟨w.heap.size + 1, 3, none⟩ = some (.slice (some p) 1 cap))) ∧ (w'.cell? p = some (.int .i64 ka.op) ∧ w'.cell? ⟨p.block, p.off + 1, none⟩ = some (.int .i64 ka.n) ∧ w'.cell? ⟨p.block, p.off + 2, none⟩ = some (.int .i64 ka.m) ∧ w'.cell? ⟨p.block, p.off + 3, none⟩ = some (.slice ka.at_ ka.kids.length ka.cap)) from ⟨⟨room2_cells (blk_below k2 hb), core_cells (blk_below k3 hb)⟩, HK.out.lit0 hb rfl⟩)
  have Lka := Lib.hid (LiesL.lies HK.out (k := ka) (by simp))
  have Ika := Lib.hid ika
  have HAR := Lib.hid (show arityS op = 1 by rcases hop with rfl <;> rfl)
  have HF := Lib.hid hf
  have HOP := Lib.hid hop
  clear hop hf k2 k3 e1 b1 s1 hl ika
  go_enter Tryd.func11, Tryd.ntmps11
  go_wp2_with fail
  rw [HE.out]
  go_wp2_with fail
  refine (arity_calls op _).mono ?_
  rintro e w9 ⟨rfl, hw9⟩
  rw [hw9, HAR.out]
  clear hw9 w9
  go_wp2_with fail
  refine (fields_calls rw rc rl op n m (some p) 1 cap _).mono ?_
  rintro e w2 ⟨rfl, hb2⟩
  rw [HF.out]
  obtain ⟨⟨⟨y0, y1, y2⟩, ⟨x0, x1, x2, x3⟩⟩, z0⟩ := HC.out w2 hb2
  go_wp2_with fail
  obtain ⟨gA, hgA⟩ : ∃ g, w2.heap.size = g := ⟨_, rfl⟩
  have HGA := Lib.hid (show w1.heap.size ≤ gA by rw [← hgA]; exact hb2.size)
  obtain ⟨wA, eA, bA, kA, sA⟩ := box1 w2 (.cells #[.int .i64 0, .int .i64 0, .int .i64 0] 40)
  rw [eA, hgA]
  rw [hgA] at kA
  have HBA := Lib.hid (hb2.trans (bA.mono hb2.size))
  have HKA := Lib.hid kA
  clear eA bA kA sA hgA hb2 y0 y1 y2 x0 x1 x2 x3 z0
  go_loopg [7] 1 (fun gg v7 wr => ∃ i : Nat, v7 = .int .i64 i ∧ Aside0 (i ≤ 1 ∧ 1 - i ≤ gg) ∧ Aside0 (Below w1.heap.size w1 wr) ∧ Aside0 (wr.heap[gA]? = some (.cells #[.int .i64 (if 0 < i then va else 0), .int .i64 0, .int .i64 0] 40 (0, 0))))
  case atStart => exact ⟨0, rfl, ⟨by omega⟩, ⟨HBA.out⟩, ⟨by simpa using HKA.out⟩⟩
  case round =>
    clear HKA HBA
    obtain ⟨i, rfl, hi, BW, hKA⟩ := hrel
    have HI := Lib.hid hi.out
    have HB := Lib.hid BW.out
    have HKA := Lib.hid hKA.out
    clear hi BW hKA
    rcases (show i = 0 ∨ i = 1 by have := HI.out; omega) with rfl | rfl
    · have kA : wr.heap[gA]? = some (.cells #[.int .i64 0, .int .i64 0, .int .i64 0] 40 (0, 0)) := by simpa using HKA.out
      have kAd : wr.drew.heap[gA]? = some (.cells #[.int .i64 0, .int .i64 0, .int .i64 0] 40 (0, 0)) := kA
      clear HKA kA
      go_wp2_with fail
      refine wp_region_held_drew (S := fun w' => Aside0 (Below w1.heap.size w1 w')) (by kernel_rfl) ?_ (fun hHeld => ?_)
      · exact ⟨HB.out.drew⟩
      generalize World.drew _ = wDa at hHeld kAd ⊢
      refine' tk (i := 0) rfl (by kernel_rfl) (fun _ _ _ h => h) ?ya0 hHeld ?za0
      case ya0 => (refine .inl ⟨by rfl, fun w h => ?_⟩; have F := HC.out w h.out; go_simp; (try with_reducible rfl))
      try simp only [pt]
      refine' tk (i := 1) rfl (by kernel_rfl) (fun _ _ _ h => h) ?ya1 hHeld ?za1
      case ya1 => (refine .inl ⟨by rfl, fun w h => ?_⟩; have F := HC.out w h.out; go_simp; (try with_reducible rfl))
      try simp only [pt]
      refine' tk (i := 2) rfl (by kernel_rfl) (fun _ _ _ h => h) ?ya2 hHeld ?za2
      case ya2 => (refine .inl ⟨by rfl, fun w h => ?_⟩; have F := HC.out w h.out; go_simp; (try with_reducible rfl))
      try simp only [pt]
      refine' tk (i := 3) rfl (by kernel_rfl) (fun _ _ _ h => h) ?ya3 hHeld ?za3
      case ya3 => (refine .inl ⟨by rfl, fun w h => ?_⟩; have F := HC.out w h.out; go_simp; (try with_reducible rfl))
      try simp only [pt]
      refine' tk (i := 4) rfl (by kernel_rfl) (fun _ _ _ h => h) ?ya4 hHeld ?za4
      case ya4 => (refine .inl ⟨by rfl, fun w h => ?_⟩; have F := HC.out w h.out; go_simp; (try with_reducible rfl))
      try simp only [pt]
      refine' tk (i := 5) rfl (by kernel_rfl) (fun _ _ _ h => h) ?ya5 hHeld ?za5
      case ya5 => (refine .inl ⟨by rfl, fun w h => ?_⟩; have F := HC.out w h.out; go_simp; (try with_reducible rfl))
      try simp only [pt]
      refine' tk (i := 6) rfl (by kernel_rfl) (fun _ _ _ h => h) ?ya6 hHeld ?za6
      case ya6 => (refine .inl ⟨by rfl, fun w h => ?_⟩; have F := HC.out w h.out; go_simp; (try with_reducible rfl))
      try simp only [pt]
      refine wpAnyH_ready (rs := [7]) (by kernel_rfl) (by simp) ?_
      refine AllReadyH.cons (o := ?oi_a7) ?hi_a7 (fun K hK => ?kk_a7) AllReadyH.nil
      case hi_a7 => (simp only [List.getElem?_toArray, List.getElem?_cons_succ, List.getElem?_cons_zero]; rfl)
      go_simp
      refine (Ika.out _ (Lka.out.below hHeld.out)).mono ?_
      rintro e w7 ⟨rfl, hb2⟩
      have kA7 := blk_below kAd hb2
      have xA := (blk_cell kA7 0).trans rfl
      have fA := blk_frozen kA7 0
      refine hK.out _ _ ⟨hHeld.out.trans (hb2.mono hHeld.out.size)⟩ (fun hHeld => ?_)
      clear hK K
      try simp only [pt]
      refine' tk (i := 8) rfl (by kernel_rfl) (fun _ _ _ h => h) ?ya8 hHeld ?za8
      case ya8 => (refine .inl ⟨by rfl, fun w h => ?_⟩; have F := HC.out w h.out; go_simp; (try with_reducible rfl))
      try simp only [pt]
      refine wpAnyH_ready (rs := [9]) (by kernel_rfl) (by simp) ?_
      refine AllReadyH.cons (o := ?oi_a9) ?hi_a9 (fun K hK => ?kk_a9) AllReadyH.nil
      case hi_a9 => (simp only [List.getElem?_toArray, List.getElem?_cons_succ, List.getElem?_cons_zero]; rfl)
      go_simp
      have kA8 := blk_put kA7 0 (.int .i64 va) rfl
      refine hK.out _ _ ⟨hHeld.out.setCell (p := ⟨gA, 0, none⟩) HGA.out (.int .i64 va)⟩ (fun hHeld => ?_)
      clear hK K
      try simp only [pt]
      refine wpAnyH_done (by kernel_rfl) ?_ _
      go_wp2_with fail
      go_roundg (gk - 1)
      case measure => have := HI.out; omega
      case rel => exact ⟨1, by first | rfl | simp, ⟨by have := HI.out; omega⟩, ⟨hHeld.out⟩, ⟨by simpa using kA8⟩⟩
    · have kA : wr.heap[gA]? = some (.cells #[.int .i64 va, .int .i64 0, .int .i64 0] 40 (0, 0)) := by simpa using HKA.out
      obtain ⟨⟨⟨y0, y1, y2⟩, ⟨x0, x1, x2, x3⟩⟩, z0⟩ := HC.out wr HB.out
      have a0 := (blk_cell kA 0).trans rfl
      have a1 := (blk_cell kA 1).trans rfl
      have a2 := (blk_cell kA 2).trans rfl
      have BB := Lib.hid (B1.out.trans (HB.out.mono B1.out.size))
      clear HC HB HE HAR HI HGA HKA kA B1 Lka Ika HK z0 y0 y1 y2
      rcases HOP.out with rfl
      all_goals go_wp2
      all_goals
        go_ret
        refine ⟨?_, BB.out⟩
        have hf := HF.out
        have hop := HOP.out
        clear HF HOP BB x0 x1 x2 x3 a0 a1 a2
        first | (simp_all [oneS, fieldsS]; done) | (simp_all [oneS, fieldsS]; omega) | (rcases hop with rfl <;> simp_all [oneS, fieldsS]; done) | (rcases hop with rfl <;> simp_all [oneS, fieldsS] <;> omega)
set_option maxHeartbeats 16000000 in
set_option maxRecDepth 100000 in
theorem rs_node1_x (hop : op = 10 ∨ op = 11 ∨ op = 12) (hf : fieldsS rw rc rl op n m = true) {ka : Cr} {va : Int} (hl : Lies w (.node op n m at_ cap [ka])) (ika : SortR rw rc rl ka va) :
    Calls Tryd.prog 11 #[.agg #[.int .i64 rw, .int .i64 rc, .int .i64 rl], .agg #[.int .i64 op, .int .i64 n, .int .i64 m, .slice at_ 1 cap]] w fun e w' => e = .returned (.int .i64 (oneS rl op n m va)) ∧ Below w.heap.size w w' := by
  obtain ⟨p, rfl⟩ : ∃ p, at_ = some p := by
    obtain ⟨b, hb, -⟩ := hl.kids.cells (i := 0) (k := ka) rfl
    exact ⟨b, hb⟩
  obtain ⟨w1, e1, b1, k2, k3, s1⟩ := box2 w (.cells #[.int .i64 rw, .int .i64 rc, .int .i64 rl] 42) (.cells #[.int .i64 op, .int .i64 n, .int .i64 m, .slice (some p) 1 cap] 24)
  have HE := Lib.hid e1
  have B1 := Lib.hid b1
  obtain ⟨y0, y1, y2⟩ := room2_cells k2
  obtain ⟨x0, x1, x2, x3⟩ := core_cells k3
  have HK := Lib.hid (hl.below b1).kids
  simp only [Cr.at_, Cr.kids] at HK
  have HC := Lib.hid fun (w' : World) (hb : Below w1.heap.size w1 w') => (show ((w'.cell? ⟨w.heap.size, 0, none⟩ = some (.int .i64 rw) ∧ w'.cell? ⟨w.heap.size, 1, none⟩ = some (.int .i64 rc) ∧ w'.cell? ⟨w.heap.size, 2, none⟩ = some (.int .i64 rl)) ∧ (w'.cell? ⟨w.heap.size + 1, 0, none⟩ = some (.int .i64 op) ∧ w'.cell? ⟨w.heap.size + 1, 1, none⟩ = some (.int .i64 n) ∧ w'.cell? ⟨w.heap.size + 1, 2, none⟩ = some (.int .i64 m) ∧ w'.cell? ⟨w.heap.size + 1, 3, none⟩ = some (.slice (some p) 1 cap))) ∧ (w'.cell? p = some (.int .i64 ka.op) ∧ w'.cell? ⟨p.block, p.off + 1, none⟩ = some (.int .i64 ka.n) ∧ w'.cell? ⟨p.block, p.off + 2, none⟩ = some (.int .i64 ka.m) ∧ w'.cell? ⟨p.block, p.off + 3, none⟩ = some (.slice ka.at_ ka.kids.length ka.cap)) from ⟨⟨room2_cells (blk_below k2 hb), core_cells (blk_below k3 hb)⟩, HK.out.lit0 hb rfl⟩)
  have Lka := Lib.hid (LiesL.lies HK.out (k := ka) (by simp))
  have Ika := Lib.hid ika
  have HAR := Lib.hid (show arityS op = 1 by rcases hop with rfl | rfl | rfl <;> rfl)
  have HF := Lib.hid hf
  have HOP := Lib.hid hop
  have p1 : (op == 1) = false := by simp; omega
  have p2 : (op == 2) = false := by simp; omega
  have p3 : (op == 3) = false := by simp; omega
  have p4 : (op == 4) = false := by simp; omega
  have p5 : (op == 5) = false := by simp; omega
  have p6 : (op == 6) = false := by simp; omega
  have p7 : (op == 7) = false := by simp; omega
  have p9 : (op == 9) = false := by simp; omega
  have p23 : (op == 23) = false := by simp; omega
  have p24 : (op == 24) = false := by simp; omega
  have p25 : (op == 25) = false := by simp; omega
  have p26 : (op == 26) = false := by simp; omega
  have p27 : (op == 27) = false := by simp; omega
  have p28 : (op == 28) = false := by simp; omega
  have p29 : (op == 29) = false := by simp; omega
  have p30 : (op == 30) = false := by simp; omega
  have p31 : (op == 31) = false := by simp; omega
  have p90 : (op != 9) = true := by simp; omega
  have r1 : (18 ≤ op) = False := eq_false (by omega)
  have r2 : (8 ≤ op) = True := eq_true (by omega)
  have r3 : (op ≤ 17) = True := eq_true (by omega)
  clear hop hf k2 k3 e1 b1 s1 hl ika
  go_enter Tryd.func11, Tryd.ntmps11
  go_wp2_with fail
  rw [HE.out]
  go_wp2_with fail
  refine (arity_calls op _).mono ?_
  rintro e w9 ⟨rfl, hw9⟩
  rw [hw9, HAR.out]
  clear hw9 w9
  go_wp2_with fail
  refine (fields_calls rw rc rl op n m (some p) 1 cap _).mono ?_
  rintro e w2 ⟨rfl, hb2⟩
  rw [HF.out]
  obtain ⟨⟨⟨y0, y1, y2⟩, ⟨x0, x1, x2, x3⟩⟩, z0⟩ := HC.out w2 hb2
  go_wp2_with fail
  obtain ⟨gA, hgA⟩ : ∃ g, w2.heap.size = g := ⟨_, rfl⟩
  have HGA := Lib.hid (show w1.heap.size ≤ gA by rw [← hgA]; exact hb2.size)
  obtain ⟨wA, eA, bA, kA, sA⟩ := box1 w2 (.cells #[.int .i64 0, .int .i64 0, .int .i64 0] 40)
  rw [eA, hgA]
  rw [hgA] at kA
  have HBA := Lib.hid (hb2.trans (bA.mono hb2.size))
  have HKA := Lib.hid kA
  clear eA bA kA sA hgA hb2 y0 y1 y2 x0 x1 x2 x3 z0
  go_loopg [7] 1 (fun gg v7 wr => ∃ i : Nat, v7 = .int .i64 i ∧ Aside0 (i ≤ 1 ∧ 1 - i ≤ gg) ∧ Aside0 (Below w1.heap.size w1 wr) ∧ Aside0 (wr.heap[gA]? = some (.cells #[.int .i64 (if 0 < i then va else 0), .int .i64 0, .int .i64 0] 40 (0, 0))))
  case atStart => exact ⟨0, rfl, ⟨by omega⟩, ⟨HBA.out⟩, ⟨by simpa using HKA.out⟩⟩
  case round =>
    clear HKA HBA
    obtain ⟨i, rfl, hi, BW, hKA⟩ := hrel
    have HI := Lib.hid hi.out
    have HB := Lib.hid BW.out
    have HKA := Lib.hid hKA.out
    clear hi BW hKA
    rcases (show i = 0 ∨ i = 1 by have := HI.out; omega) with rfl | rfl
    · have kA : wr.heap[gA]? = some (.cells #[.int .i64 0, .int .i64 0, .int .i64 0] 40 (0, 0)) := by simpa using HKA.out
      have kAd : wr.drew.heap[gA]? = some (.cells #[.int .i64 0, .int .i64 0, .int .i64 0] 40 (0, 0)) := kA
      clear HKA kA
      go_wp2_with fail
      refine wp_region_held_drew (S := fun w' => Aside0 (Below w1.heap.size w1 w')) (by kernel_rfl) ?_ (fun hHeld => ?_)
      · exact ⟨HB.out.drew⟩
      generalize World.drew _ = wDa at hHeld kAd ⊢
      refine' tk (i := 0) rfl (by kernel_rfl) (fun _ _ _ h => h) ?ya0 hHeld ?za0
      case ya0 => (refine .inl ⟨by rfl, fun w h => ?_⟩; have F := HC.out w h.out; go_simp; (try with_reducible rfl))
      try simp only [pt]
      refine' tk (i := 1) rfl (by kernel_rfl) (fun _ _ _ h => h) ?ya1 hHeld ?za1
      case ya1 => (refine .inl ⟨by rfl, fun w h => ?_⟩; have F := HC.out w h.out; go_simp; (try with_reducible rfl))
      try simp only [pt]
      refine' tk (i := 2) rfl (by kernel_rfl) (fun _ _ _ h => h) ?ya2 hHeld ?za2
      case ya2 => (refine .inl ⟨by rfl, fun w h => ?_⟩; have F := HC.out w h.out; go_simp; (try with_reducible rfl))
      try simp only [pt]
      refine' tk (i := 3) rfl (by kernel_rfl) (fun _ _ _ h => h) ?ya3 hHeld ?za3
      case ya3 => (refine .inl ⟨by rfl, fun w h => ?_⟩; have F := HC.out w h.out; go_simp; (try with_reducible rfl))
      try simp only [pt]
      refine' tk (i := 4) rfl (by kernel_rfl) (fun _ _ _ h => h) ?ya4 hHeld ?za4
      case ya4 => (refine .inl ⟨by rfl, fun w h => ?_⟩; have F := HC.out w h.out; go_simp; (try with_reducible rfl))
      try simp only [pt]
      refine' tk (i := 5) rfl (by kernel_rfl) (fun _ _ _ h => h) ?ya5 hHeld ?za5
      case ya5 => (refine .inl ⟨by rfl, fun w h => ?_⟩; have F := HC.out w h.out; go_simp; (try with_reducible rfl))
      try simp only [pt]
      refine' tk (i := 6) rfl (by kernel_rfl) (fun _ _ _ h => h) ?ya6 hHeld ?za6
      case ya6 => (refine .inl ⟨by rfl, fun w h => ?_⟩; have F := HC.out w h.out; go_simp; (try with_reducible rfl))
      try simp only [pt]
      refine wpAnyH_ready (rs := [7]) (by kernel_rfl) (by simp) ?_
      refine AllReadyH.cons (o := ?oi_a7) ?hi_a7 (fun K hK => ?kk_a7) AllReadyH.nil
      case hi_a7 => (simp only [List.getElem?_toArray, List.getElem?_cons_succ, List.getElem?_cons_zero]; rfl)
      go_simp
      refine (Ika.out _ (Lka.out.below hHeld.out)).mono ?_
      rintro e w7 ⟨rfl, hb2⟩
      have kA7 := blk_below kAd hb2
      have xA := (blk_cell kA7 0).trans rfl
      have fA := blk_frozen kA7 0
      refine hK.out _ _ ⟨hHeld.out.trans (hb2.mono hHeld.out.size)⟩ (fun hHeld => ?_)
      clear hK K
      try simp only [pt]
      refine' tk (i := 8) rfl (by kernel_rfl) (fun _ _ _ h => h) ?ya8 hHeld ?za8
      case ya8 => (refine .inl ⟨by rfl, fun w h => ?_⟩; have F := HC.out w h.out; go_simp; (try with_reducible rfl))
      try simp only [pt]
      refine wpAnyH_ready (rs := [9]) (by kernel_rfl) (by simp) ?_
      refine AllReadyH.cons (o := ?oi_a9) ?hi_a9 (fun K hK => ?kk_a9) AllReadyH.nil
      case hi_a9 => (simp only [List.getElem?_toArray, List.getElem?_cons_succ, List.getElem?_cons_zero]; rfl)
      go_simp
      have kA8 := blk_put kA7 0 (.int .i64 va) rfl
      refine hK.out _ _ ⟨hHeld.out.setCell (p := ⟨gA, 0, none⟩) HGA.out (.int .i64 va)⟩ (fun hHeld => ?_)
      clear hK K
      try simp only [pt]
      refine wpAnyH_done (by kernel_rfl) ?_ _
      go_wp2_with fail
      go_roundg (gk - 1)
      case measure => have := HI.out; omega
      case rel => exact ⟨1, by first | rfl | simp, ⟨by have := HI.out; omega⟩, ⟨hHeld.out⟩, ⟨by simpa using kA8⟩⟩
    · have kA : wr.heap[gA]? = some (.cells #[.int .i64 va, .int .i64 0, .int .i64 0] 40 (0, 0)) := by simpa using HKA.out
      obtain ⟨⟨⟨y0, y1, y2⟩, ⟨x0, x1, x2, x3⟩⟩, z0⟩ := HC.out wr HB.out
      have a0 := (blk_cell kA 0).trans rfl
      have a1 := (blk_cell kA 1).trans rfl
      have a2 := (blk_cell kA 2).trans rfl
      have BB := Lib.hid (B1.out.trans (HB.out.mono B1.out.size))
      clear HC HB HE HAR HI HGA HKA kA B1 Lka Ika HK z0 y0 y1 y2
      all_goals go_wp2
      all_goals
        go_ret
        refine ⟨?_, BB.out⟩
        have hf := HF.out
        have hop := HOP.out
        clear HF HOP BB x0 x1 x2 x3 a0 a1 a2
        first | (simp_all [oneS, fieldsS]; done) | (simp_all [oneS, fieldsS]; omega) | (rcases hop with rfl | rfl | rfl <;> simp_all [oneS, fieldsS]; done) | (rcases hop with rfl | rfl | rfl <;> simp_all [oneS, fieldsS] <;> omega)
end
end Go.Proofs.YtpljkcakijkklaaDoor

end
section
namespace Go.Proofs.YtpljkcakijkklaaDoor
set_option linter.unusedVariables false
set_option linter.unusedSimpArgs false
open Go.RowKit Go.Proofs.YtpljkcakijkklaaDoorW.PrintWords Go.Proofs.YtpljkcakijkklaaDoorW.PrintLast Go.Proofs.YtpljkcakijkklaaDoorW.PrintMore

section
variable {rw rc rl op n m : Int} {at_ : Option Addr} {cap : Nat} {w : World}
set_option maxHeartbeats 16000000 in
set_option maxRecDepth 100000 in
theorem rs_node2_a (hop : op = 14 ∨ op = 15 ∨ op = 16 ∨ op = 17) (hf : fieldsS rw rc rl op n m = true) {ka kb : Cr} {va vb : Int} (hl : Lies w (.node op n m at_ cap [ka, kb])) (ika : SortR rw rc rl ka va) (ikb : SortR rw rc rl kb vb) {s : Cr → Int} (eka : s ka = va) (ekb : s kb = vb) :
    Calls Tryd.prog 11 #[.agg #[.int .i64 rw, .int .i64 rc, .int .i64 rl], .agg #[.int .i64 op, .int .i64 n, .int .i64 m, .slice at_ 2 cap]] w fun e w' => e = .returned (.int .i64 (moreS s op n m [ka, kb])) ∧ Below w.heap.size w w' := by
  obtain ⟨p, rfl⟩ : ∃ p, at_ = some p := by
    obtain ⟨b, hb, -⟩ := hl.kids.cells (i := 0) (k := ka) rfl
    exact ⟨b, hb⟩
  obtain ⟨w1, e1, b1, k2, k3, s1⟩ := box2 w (.cells #[.int .i64 rw, .int .i64 rc, .int .i64 rl] 42) (.cells #[.int .i64 op, .int .i64 n, .int .i64 m, .slice (some p) 2 cap] 24)
  have HE := Lib.hid e1
  have B1 := Lib.hid b1
  obtain ⟨y0, y1, y2⟩ := room2_cells k2
  obtain ⟨x0, x1, x2, x3⟩ := core_cells k3
  have HK := Lib.hid (hl.below b1).kids
  simp only [Cr.at_, Cr.kids] at HK
  have HC := Lib.hid fun (w' : World) (hb : Below w1.heap.size w1 w') => (show ((w'.cell? ⟨w.heap.size, 0, none⟩ = some (.int .i64 rw) ∧ w'.cell? ⟨w.heap.size, 1, none⟩ = some (.int .i64 rc) ∧ w'.cell? ⟨w.heap.size, 2, none⟩ = some (.int .i64 rl)) ∧ (w'.cell? ⟨w.heap.size + 1, 0, none⟩ = some (.int .i64 op) ∧ w'.cell? ⟨w.heap.size + 1, 1, none⟩ = some (.int .i64 n) ∧ w'.cell? ⟨w.heap.size + 1, 2, none⟩ = some (.int .i64 m) ∧ w'.cell? ⟨w.heap.size + 1, 3, none⟩ = some (.slice (some p) 2 cap))) ∧ (w'.cell? p = some (.int .i64 ka.op) ∧ w'.cell? ⟨p.block, p.off + 1, none⟩ = some (.int .i64 ka.n) ∧ w'.cell? ⟨p.block, p.off + 2, none⟩ = some (.int .i64 ka.m) ∧ w'.cell? ⟨p.block, p.off + 3, none⟩ = some (.slice ka.at_ ka.kids.length ka.cap)) ∧ (w'.cell? ⟨p.block, p.off + 4, none⟩ = some (.int .i64 kb.op) ∧ w'.cell? ⟨p.block, p.off + 4 + 1, none⟩ = some (.int .i64 kb.n) ∧ w'.cell? ⟨p.block, p.off + 4 + 2, none⟩ = some (.int .i64 kb.m) ∧ w'.cell? ⟨p.block, p.off + 4 + 3, none⟩ = some (.slice kb.at_ kb.kids.length kb.cap)) from ⟨⟨room2_cells (blk_below k2 hb), core_cells (blk_below k3 hb)⟩, HK.out.lit0 hb rfl, HK.out.lit hb 0 rfl⟩)
  have Lka := Lib.hid (LiesL.lies HK.out (k := ka) (by simp))
  have Ika := Lib.hid ika
  have Lkb := Lib.hid (LiesL.lies HK.out (k := kb) (by simp))
  have Ikb := Lib.hid ikb
  have HAR := Lib.hid (show arityS op = 2 by rcases hop with rfl | rfl | rfl | rfl <;> rfl)
  have HF := Lib.hid hf
  have HOP := Lib.hid hop
  have p1 : (op == 1) = false := by simp; omega
  have p2 : (op == 2) = false := by simp; omega
  have p3 : (op == 3) = false := by simp; omega
  have p4 : (op == 4) = false := by simp; omega
  have p5 : (op == 5) = false := by simp; omega
  have p6 : (op == 6) = false := by simp; omega
  have p7 : (op == 7) = false := by simp; omega
  have p9 : (op == 9) = false := by simp; omega
  have p23 : (op == 23) = false := by simp; omega
  have p24 : (op == 24) = false := by simp; omega
  have p25 : (op == 25) = false := by simp; omega
  have p26 : (op == 26) = false := by simp; omega
  have p27 : (op == 27) = false := by simp; omega
  have p28 : (op == 28) = false := by simp; omega
  have p29 : (op == 29) = false := by simp; omega
  have p30 : (op == 30) = false := by simp; omega
  have p31 : (op == 31) = false := by simp; omega
  have p90 : (op != 9) = true := by simp; omega
  have r1 : (18 ≤ op) = False := eq_false (by omega)
  have r2 : (8 ≤ op) = True := eq_true (by omega)
  have r3 : (op ≤ 17) = True := eq_true (by omega)
  have Eka := Lib.hid eka
  have Ekb := Lib.hid ekb
  clear eka ekb
  clear hop hf k2 k3 e1 b1 s1 hl ika ikb
  go_enter Tryd.func11, Tryd.ntmps11
  go_wp2_with fail
  rw [HE.out]
  go_wp2_with fail
  refine (arity_calls op _).mono ?_
  rintro e w9 ⟨rfl, hw9⟩
  rw [hw9, HAR.out]
  clear hw9 w9
  go_wp2_with fail
  refine (fields_calls rw rc rl op n m (some p) 2 cap _).mono ?_
  rintro e w2 ⟨rfl, hb2⟩
  rw [HF.out]
  obtain ⟨⟨⟨y0, y1, y2⟩, ⟨x0, x1, x2, x3⟩⟩, z0, z1⟩ := HC.out w2 hb2
  go_wp2_with fail
  obtain ⟨gA, hgA⟩ : ∃ g, w2.heap.size = g := ⟨_, rfl⟩
  have HGA := Lib.hid (show w1.heap.size ≤ gA by rw [← hgA]; exact hb2.size)
  obtain ⟨wA, eA, bA, kA, sA⟩ := box1 w2 (.cells #[.int .i64 0, .int .i64 0, .int .i64 0] 40)
  rw [eA, hgA]
  rw [hgA] at kA
  have HBA := Lib.hid (hb2.trans (bA.mono hb2.size))
  have HKA := Lib.hid kA
  clear eA bA kA sA hgA hb2 y0 y1 y2 x0 x1 x2 x3 z0 z1
  go_loopg [7] 2 (fun gg v7 wr => ∃ i : Nat, v7 = .int .i64 i ∧ Aside0 (i ≤ 2 ∧ 2 - i ≤ gg) ∧ Aside0 (Below w1.heap.size w1 wr) ∧ Aside0 (wr.heap[gA]? = some (.cells #[.int .i64 (if 0 < i then va else 0), .int .i64 (if 1 < i then vb else 0), .int .i64 0] 40 (0, 0))))
  case atStart => exact ⟨0, rfl, ⟨by omega⟩, ⟨HBA.out⟩, ⟨by simpa using HKA.out⟩⟩
  case round =>
    clear HKA HBA
    obtain ⟨i, rfl, hi, BW, hKA⟩ := hrel
    have HI := Lib.hid hi.out
    have HB := Lib.hid BW.out
    have HKA := Lib.hid hKA.out
    clear hi BW hKA
    rcases (show i = 0 ∨ i = 1 ∨ i = 2 by have := HI.out; omega) with rfl | rfl | rfl
    · have kA : wr.heap[gA]? = some (.cells #[.int .i64 0, .int .i64 0, .int .i64 0] 40 (0, 0)) := by simpa using HKA.out
      have kAd : wr.drew.heap[gA]? = some (.cells #[.int .i64 0, .int .i64 0, .int .i64 0] 40 (0, 0)) := kA
      clear HKA kA
      go_wp2_with fail
      refine wp_region_held_drew (S := fun w' => Aside0 (Below w1.heap.size w1 w')) (by kernel_rfl) ?_ (fun hHeld => ?_)
      · exact ⟨HB.out.drew⟩
      generalize World.drew _ = wDa at hHeld kAd ⊢
      refine' tk (i := 0) rfl (by kernel_rfl) (fun _ _ _ h => h) ?ya0 hHeld ?za0
      case ya0 => (refine .inl ⟨by rfl, fun w h => ?_⟩; have F := HC.out w h.out; go_simp; (try with_reducible rfl))
      try simp only [pt]
      refine' tk (i := 1) rfl (by kernel_rfl) (fun _ _ _ h => h) ?ya1 hHeld ?za1
      case ya1 => (refine .inl ⟨by rfl, fun w h => ?_⟩; have F := HC.out w h.out; go_simp; (try with_reducible rfl))
      try simp only [pt]
      refine' tk (i := 2) rfl (by kernel_rfl) (fun _ _ _ h => h) ?ya2 hHeld ?za2
      case ya2 => (refine .inl ⟨by rfl, fun w h => ?_⟩; have F := HC.out w h.out; go_simp; (try with_reducible rfl))
      try simp only [pt]
      refine' tk (i := 3) rfl (by kernel_rfl) (fun _ _ _ h => h) ?ya3 hHeld ?za3
      case ya3 => (refine .inl ⟨by rfl, fun w h => ?_⟩; have F := HC.out w h.out; go_simp; (try with_reducible rfl))
      try simp only [pt]
      refine' tk (i := 4) rfl (by kernel_rfl) (fun _ _ _ h => h) ?ya4 hHeld ?za4
      case ya4 => (refine .inl ⟨by rfl, fun w h => ?_⟩; have F := HC.out w h.out; go_simp; (try with_reducible rfl))
      try simp only [pt]
      refine' tk (i := 5) rfl (by kernel_rfl) (fun _ _ _ h => h) ?ya5 hHeld ?za5
      case ya5 => (refine .inl ⟨by rfl, fun w h => ?_⟩; have F := HC.out w h.out; go_simp; (try with_reducible rfl))
      try simp only [pt]
      refine' tk (i := 6) rfl (by kernel_rfl) (fun _ _ _ h => h) ?ya6 hHeld ?za6
      case ya6 => (refine .inl ⟨by rfl, fun w h => ?_⟩; have F := HC.out w h.out; go_simp; (try with_reducible rfl))
      try simp only [pt]
      refine wpAnyH_ready (rs := [7]) (by kernel_rfl) (by simp) ?_
      refine AllReadyH.cons (o := ?oi_a7) ?hi_a7 (fun K hK => ?kk_a7) AllReadyH.nil
      case hi_a7 => (simp only [List.getElem?_toArray, List.getElem?_cons_succ, List.getElem?_cons_zero]; rfl)
      go_simp
      refine (Ika.out _ (Lka.out.below hHeld.out)).mono ?_
      rintro e w7 ⟨rfl, hb2⟩
      have kA7 := blk_below kAd hb2
      have xA := (blk_cell kA7 0).trans rfl
      have fA := blk_frozen kA7 0
      refine hK.out _ _ ⟨hHeld.out.trans (hb2.mono hHeld.out.size)⟩ (fun hHeld => ?_)
      clear hK K
      try simp only [pt]
      refine' tk (i := 8) rfl (by kernel_rfl) (fun _ _ _ h => h) ?ya8 hHeld ?za8
      case ya8 => (refine .inl ⟨by rfl, fun w h => ?_⟩; have F := HC.out w h.out; go_simp; (try with_reducible rfl))
      try simp only [pt]
      refine wpAnyH_ready (rs := [9]) (by kernel_rfl) (by simp) ?_
      refine AllReadyH.cons (o := ?oi_a9) ?hi_a9 (fun K hK => ?kk_a9) AllReadyH.nil
      case hi_a9 => (simp only [List.getElem?_toArray, List.getElem?_cons_succ, List.getElem?_cons_zero]; rfl)
      go_simp
      have kA8 := blk_put kA7 0 (.int .i64 va) rfl
      refine hK.out _ _ ⟨hHeld.out.setCell (p := ⟨gA, 0, none⟩) HGA.out (.int .i64 va)⟩ (fun hHeld => ?_)
      clear hK K
      try simp only [pt]
      refine wpAnyH_done (by kernel_rfl) ?_ _
      go_wp2_with fail
      go_roundg (gk - 1)
      case measure => have := HI.out; omega
      case rel => exact ⟨1, by first | rfl | simp, ⟨by have := HI.out; omega⟩, ⟨hHeld.out⟩, ⟨by simpa using kA8⟩⟩
    · have kA : wr.heap[gA]? = some (.cells #[.int .i64 va, .int .i64 0, .int .i64 0] 40 (0, 0)) := by simpa using HKA.out
      have kAd : wr.drew.heap[gA]? = some (.cells #[.int .i64 va, .int .i64 0, .int .i64 0] 40 (0, 0)) := kA
      clear HKA kA
      go_wp2_with fail
      refine wp_region_held_drew (S := fun w' => Aside0 (Below w1.heap.size w1 w')) (by kernel_rfl) ?_ (fun hHeld => ?_)
      · exact ⟨HB.out.drew⟩
      generalize World.drew _ = wDb at hHeld kAd ⊢
      refine' tk (i := 0) rfl (by kernel_rfl) (fun _ _ _ h => h) ?yb0 hHeld ?zb0
      case yb0 => (refine .inl ⟨by rfl, fun w h => ?_⟩; have F := HC.out w h.out; go_simp; (try with_reducible rfl))
      try simp only [pt]
      refine' tk (i := 1) rfl (by kernel_rfl) (fun _ _ _ h => h) ?yb1 hHeld ?zb1
      case yb1 => (refine .inl ⟨by rfl, fun w h => ?_⟩; have F := HC.out w h.out; go_simp; (try with_reducible rfl))
      try simp only [pt]
      refine' tk (i := 2) rfl (by kernel_rfl) (fun _ _ _ h => h) ?yb2 hHeld ?zb2
      case yb2 => (refine .inl ⟨by rfl, fun w h => ?_⟩; have F := HC.out w h.out; go_simp; (try with_reducible rfl))
      try simp only [pt]
      refine' tk (i := 3) rfl (by kernel_rfl) (fun _ _ _ h => h) ?yb3 hHeld ?zb3
      case yb3 => (refine .inl ⟨by rfl, fun w h => ?_⟩; have F := HC.out w h.out; go_simp; (try with_reducible rfl))
      try simp only [pt]
      refine' tk (i := 4) rfl (by kernel_rfl) (fun _ _ _ h => h) ?yb4 hHeld ?zb4
      case yb4 => (refine .inl ⟨by rfl, fun w h => ?_⟩; have F := HC.out w h.out; go_simp; (try with_reducible rfl))
      try simp only [pt]
      refine' tk (i := 5) rfl (by kernel_rfl) (fun _ _ _ h => h) ?yb5 hHeld ?zb5
      case yb5 => (refine .inl ⟨by rfl, fun w h => ?_⟩; have F := HC.out w h.out; go_simp; (try with_reducible rfl))
      try simp only [pt]
      refine' tk (i := 6) rfl (by kernel_rfl) (fun _ _ _ h => h) ?yb6 hHeld ?zb6
      case yb6 => (refine .inl ⟨by rfl, fun w h => ?_⟩; have F := HC.out w h.out; go_simp; (try with_reducible rfl))
      try simp only [pt]
      refine wpAnyH_ready (rs := [7]) (by kernel_rfl) (by simp) ?_
      refine AllReadyH.cons (o := ?oi_b7) ?hi_b7 (fun K hK => ?kk_b7) AllReadyH.nil
      case hi_b7 => (simp only [List.getElem?_toArray, List.getElem?_cons_succ, List.getElem?_cons_zero]; rfl)
      go_simp
      refine (Ikb.out _ (Lkb.out.below hHeld.out)).mono ?_
      rintro e w7 ⟨rfl, hb2⟩
      have kA7 := blk_below kAd hb2
      have xA := (blk_cell kA7 1).trans rfl
      have fA := blk_frozen kA7 1
      refine hK.out _ _ ⟨hHeld.out.trans (hb2.mono hHeld.out.size)⟩ (fun hHeld => ?_)
      clear hK K
      try simp only [pt]
      refine' tk (i := 8) rfl (by kernel_rfl) (fun _ _ _ h => h) ?yb8 hHeld ?zb8
      case yb8 => (refine .inl ⟨by rfl, fun w h => ?_⟩; have F := HC.out w h.out; go_simp; (try with_reducible rfl))
      try simp only [pt]
      refine wpAnyH_ready (rs := [9]) (by kernel_rfl) (by simp) ?_
      refine AllReadyH.cons (o := ?oi_b9) ?hi_b9 (fun K hK => ?kk_b9) AllReadyH.nil
      case hi_b9 => (simp only [List.getElem?_toArray, List.getElem?_cons_succ, List.getElem?_cons_zero]; rfl)
      go_simp
      have kA8 := blk_put kA7 1 (.int .i64 vb) rfl
      refine hK.out _ _ ⟨hHeld.out.setCell (p := ⟨gA, 1, none⟩) HGA.out (.int .i64 vb)⟩ (fun hHeld => ?_)
      clear hK K
      try simp only [pt]
      refine wpAnyH_done (by kernel_rfl) ?_ _
      go_wp2_with fail
      go_roundg (gk - 1)
      case measure => have := HI.out; omega
      case rel => exact ⟨2, by first | rfl | simp, ⟨by have := HI.out; omega⟩, ⟨hHeld.out⟩, ⟨by simpa using kA8⟩⟩
    · have kA : wr.heap[gA]? = some (.cells #[.int .i64 va, .int .i64 vb, .int .i64 0] 40 (0, 0)) := by simpa using HKA.out
      obtain ⟨⟨⟨y0, y1, y2⟩, ⟨x0, x1, x2, x3⟩⟩, z0, z1⟩ := HC.out wr HB.out
      have a0 := (blk_cell kA 0).trans rfl
      have a1 := (blk_cell kA 1).trans rfl
      have a2 := (blk_cell kA 2).trans rfl
      have BB := Lib.hid (B1.out.trans (HB.out.mono B1.out.size))
      clear HC HB HE HAR HI HGA HKA kA B1 Lka Ika Lkb Ikb HK z0 z1 y0 y1 y2
      all_goals go_wp2
      all_goals
        go_ret
        refine ⟨?_, BB.out⟩
        have hf := HF.out
        have hop := HOP.out
        have eka := Eka.out
        have ekb := Ekb.out
        clear HF HOP BB x0 x1 x2 x3 a0 a1 a2
        first | (simp_all [moreS, twoS, fieldsS]; done) | (simp_all [moreS, twoS, fieldsS]; omega) | (rcases hop with rfl | rfl | rfl | rfl <;> simp_all [moreS, twoS, fieldsS]; done) | (rcases hop with rfl | rfl | rfl | rfl <;> simp_all [moreS, twoS, fieldsS] <;> omega)
set_option maxHeartbeats 16000000 in
set_option maxRecDepth 100000 in
theorem rs_node2_b (hop : op = 18 ∨ op = 19 ∨ op = 20 ∨ op = 21 ∨ op = 22) (hf : fieldsS rw rc rl op n m = true) {ka kb : Cr} {va vb : Int} (hl : Lies w (.node op n m at_ cap [ka, kb])) (ika : SortR rw rc rl ka va) (ikb : SortR rw rc rl kb vb) {s : Cr → Int} (eka : s ka = va) (ekb : s kb = vb) :
    Calls Tryd.prog 11 #[.agg #[.int .i64 rw, .int .i64 rc, .int .i64 rl], .agg #[.int .i64 op, .int .i64 n, .int .i64 m, .slice at_ 2 cap]] w fun e w' => e = .returned (.int .i64 (moreS s op n m [ka, kb])) ∧ Below w.heap.size w w' := by
  obtain ⟨p, rfl⟩ : ∃ p, at_ = some p := by
    obtain ⟨b, hb, -⟩ := hl.kids.cells (i := 0) (k := ka) rfl
    exact ⟨b, hb⟩
  obtain ⟨w1, e1, b1, k2, k3, s1⟩ := box2 w (.cells #[.int .i64 rw, .int .i64 rc, .int .i64 rl] 42) (.cells #[.int .i64 op, .int .i64 n, .int .i64 m, .slice (some p) 2 cap] 24)
  have HE := Lib.hid e1
  have B1 := Lib.hid b1
  obtain ⟨y0, y1, y2⟩ := room2_cells k2
  obtain ⟨x0, x1, x2, x3⟩ := core_cells k3
  have HK := Lib.hid (hl.below b1).kids
  simp only [Cr.at_, Cr.kids] at HK
  have HC := Lib.hid fun (w' : World) (hb : Below w1.heap.size w1 w') => (show ((w'.cell? ⟨w.heap.size, 0, none⟩ = some (.int .i64 rw) ∧ w'.cell? ⟨w.heap.size, 1, none⟩ = some (.int .i64 rc) ∧ w'.cell? ⟨w.heap.size, 2, none⟩ = some (.int .i64 rl)) ∧ (w'.cell? ⟨w.heap.size + 1, 0, none⟩ = some (.int .i64 op) ∧ w'.cell? ⟨w.heap.size + 1, 1, none⟩ = some (.int .i64 n) ∧ w'.cell? ⟨w.heap.size + 1, 2, none⟩ = some (.int .i64 m) ∧ w'.cell? ⟨w.heap.size + 1, 3, none⟩ = some (.slice (some p) 2 cap))) ∧ (w'.cell? p = some (.int .i64 ka.op) ∧ w'.cell? ⟨p.block, p.off + 1, none⟩ = some (.int .i64 ka.n) ∧ w'.cell? ⟨p.block, p.off + 2, none⟩ = some (.int .i64 ka.m) ∧ w'.cell? ⟨p.block, p.off + 3, none⟩ = some (.slice ka.at_ ka.kids.length ka.cap)) ∧ (w'.cell? ⟨p.block, p.off + 4, none⟩ = some (.int .i64 kb.op) ∧ w'.cell? ⟨p.block, p.off + 4 + 1, none⟩ = some (.int .i64 kb.n) ∧ w'.cell? ⟨p.block, p.off + 4 + 2, none⟩ = some (.int .i64 kb.m) ∧ w'.cell? ⟨p.block, p.off + 4 + 3, none⟩ = some (.slice kb.at_ kb.kids.length kb.cap)) from ⟨⟨room2_cells (blk_below k2 hb), core_cells (blk_below k3 hb)⟩, HK.out.lit0 hb rfl, HK.out.lit hb 0 rfl⟩)
  have Lka := Lib.hid (LiesL.lies HK.out (k := ka) (by simp))
  have Ika := Lib.hid ika
  have Lkb := Lib.hid (LiesL.lies HK.out (k := kb) (by simp))
  have Ikb := Lib.hid ikb
  have HAR := Lib.hid (show arityS op = 2 by rcases hop with rfl | rfl | rfl | rfl | rfl <;> rfl)
  have HF := Lib.hid hf
  have HOP := Lib.hid hop
  have p1 : (op == 1) = false := by simp; omega
  have p2 : (op == 2) = false := by simp; omega
  have p3 : (op == 3) = false := by simp; omega
  have p4 : (op == 4) = false := by simp; omega
  have p5 : (op == 5) = false := by simp; omega
  have p6 : (op == 6) = false := by simp; omega
  have p7 : (op == 7) = false := by simp; omega
  have p9 : (op == 9) = false := by simp; omega
  have p23 : (op == 23) = false := by simp; omega
  have p24 : (op == 24) = false := by simp; omega
  have p25 : (op == 25) = false := by simp; omega
  have p26 : (op == 26) = false := by simp; omega
  have p27 : (op == 27) = false := by simp; omega
  have p28 : (op == 28) = false := by simp; omega
  have p29 : (op == 29) = false := by simp; omega
  have p30 : (op == 30) = false := by simp; omega
  have p31 : (op == 31) = false := by simp; omega
  have p90 : (op != 9) = true := by simp; omega
  have r1 : (18 ≤ op) = True := eq_true (by omega)
  have r2 : (8 ≤ op) = True := eq_true (by omega)
  have r3 : (op ≤ 17) = False := eq_false (by omega)
  have r4 : (op ≤ 22) = True := eq_true (by omega)
  have Eka := Lib.hid eka
  have Ekb := Lib.hid ekb
  clear eka ekb
  clear hop hf k2 k3 e1 b1 s1 hl ika ikb
  go_enter Tryd.func11, Tryd.ntmps11
  go_wp2_with fail
  rw [HE.out]
  go_wp2_with fail
  refine (arity_calls op _).mono ?_
  rintro e w9 ⟨rfl, hw9⟩
  rw [hw9, HAR.out]
  clear hw9 w9
  go_wp2_with fail
  refine (fields_calls rw rc rl op n m (some p) 2 cap _).mono ?_
  rintro e w2 ⟨rfl, hb2⟩
  rw [HF.out]
  obtain ⟨⟨⟨y0, y1, y2⟩, ⟨x0, x1, x2, x3⟩⟩, z0, z1⟩ := HC.out w2 hb2
  go_wp2_with fail
  obtain ⟨gA, hgA⟩ : ∃ g, w2.heap.size = g := ⟨_, rfl⟩
  have HGA := Lib.hid (show w1.heap.size ≤ gA by rw [← hgA]; exact hb2.size)
  obtain ⟨wA, eA, bA, kA, sA⟩ := box1 w2 (.cells #[.int .i64 0, .int .i64 0, .int .i64 0] 40)
  rw [eA, hgA]
  rw [hgA] at kA
  have HBA := Lib.hid (hb2.trans (bA.mono hb2.size))
  have HKA := Lib.hid kA
  clear eA bA kA sA hgA hb2 y0 y1 y2 x0 x1 x2 x3 z0 z1
  go_loopg [7] 2 (fun gg v7 wr => ∃ i : Nat, v7 = .int .i64 i ∧ Aside0 (i ≤ 2 ∧ 2 - i ≤ gg) ∧ Aside0 (Below w1.heap.size w1 wr) ∧ Aside0 (wr.heap[gA]? = some (.cells #[.int .i64 (if 0 < i then va else 0), .int .i64 (if 1 < i then vb else 0), .int .i64 0] 40 (0, 0))))
  case atStart => exact ⟨0, rfl, ⟨by omega⟩, ⟨HBA.out⟩, ⟨by simpa using HKA.out⟩⟩
  case round =>
    clear HKA HBA
    obtain ⟨i, rfl, hi, BW, hKA⟩ := hrel
    have HI := Lib.hid hi.out
    have HB := Lib.hid BW.out
    have HKA := Lib.hid hKA.out
    clear hi BW hKA
    rcases (show i = 0 ∨ i = 1 ∨ i = 2 by have := HI.out; omega) with rfl | rfl | rfl
    · have kA : wr.heap[gA]? = some (.cells #[.int .i64 0, .int .i64 0, .int .i64 0] 40 (0, 0)) := by simpa using HKA.out
      have kAd : wr.drew.heap[gA]? = some (.cells #[.int .i64 0, .int .i64 0, .int .i64 0] 40 (0, 0)) := kA
      clear HKA kA
      go_wp2_with fail
      refine wp_region_held_drew (S := fun w' => Aside0 (Below w1.heap.size w1 w')) (by kernel_rfl) ?_ (fun hHeld => ?_)
      · exact ⟨HB.out.drew⟩
      generalize World.drew _ = wDa at hHeld kAd ⊢
      refine' tk (i := 0) rfl (by kernel_rfl) (fun _ _ _ h => h) ?ya0 hHeld ?za0
      case ya0 => (refine .inl ⟨by rfl, fun w h => ?_⟩; have F := HC.out w h.out; go_simp; (try with_reducible rfl))
      try simp only [pt]
      refine' tk (i := 1) rfl (by kernel_rfl) (fun _ _ _ h => h) ?ya1 hHeld ?za1
      case ya1 => (refine .inl ⟨by rfl, fun w h => ?_⟩; have F := HC.out w h.out; go_simp; (try with_reducible rfl))
      try simp only [pt]
      refine' tk (i := 2) rfl (by kernel_rfl) (fun _ _ _ h => h) ?ya2 hHeld ?za2
      case ya2 => (refine .inl ⟨by rfl, fun w h => ?_⟩; have F := HC.out w h.out; go_simp; (try with_reducible rfl))
      try simp only [pt]
      refine' tk (i := 3) rfl (by kernel_rfl) (fun _ _ _ h => h) ?ya3 hHeld ?za3
      case ya3 => (refine .inl ⟨by rfl, fun w h => ?_⟩; have F := HC.out w h.out; go_simp; (try with_reducible rfl))
      try simp only [pt]
      refine' tk (i := 4) rfl (by kernel_rfl) (fun _ _ _ h => h) ?ya4 hHeld ?za4
      case ya4 => (refine .inl ⟨by rfl, fun w h => ?_⟩; have F := HC.out w h.out; go_simp; (try with_reducible rfl))
      try simp only [pt]
      refine' tk (i := 5) rfl (by kernel_rfl) (fun _ _ _ h => h) ?ya5 hHeld ?za5
      case ya5 => (refine .inl ⟨by rfl, fun w h => ?_⟩; have F := HC.out w h.out; go_simp; (try with_reducible rfl))
      try simp only [pt]
      refine' tk (i := 6) rfl (by kernel_rfl) (fun _ _ _ h => h) ?ya6 hHeld ?za6
      case ya6 => (refine .inl ⟨by rfl, fun w h => ?_⟩; have F := HC.out w h.out; go_simp; (try with_reducible rfl))
      try simp only [pt]
      refine wpAnyH_ready (rs := [7]) (by kernel_rfl) (by simp) ?_
      refine AllReadyH.cons (o := ?oi_a7) ?hi_a7 (fun K hK => ?kk_a7) AllReadyH.nil
      case hi_a7 => (simp only [List.getElem?_toArray, List.getElem?_cons_succ, List.getElem?_cons_zero]; rfl)
      go_simp
      refine (Ika.out _ (Lka.out.below hHeld.out)).mono ?_
      rintro e w7 ⟨rfl, hb2⟩
      have kA7 := blk_below kAd hb2
      have xA := (blk_cell kA7 0).trans rfl
      have fA := blk_frozen kA7 0
      refine hK.out _ _ ⟨hHeld.out.trans (hb2.mono hHeld.out.size)⟩ (fun hHeld => ?_)
      clear hK K
      try simp only [pt]
      refine' tk (i := 8) rfl (by kernel_rfl) (fun _ _ _ h => h) ?ya8 hHeld ?za8
      case ya8 => (refine .inl ⟨by rfl, fun w h => ?_⟩; have F := HC.out w h.out; go_simp; (try with_reducible rfl))
      try simp only [pt]
      refine wpAnyH_ready (rs := [9]) (by kernel_rfl) (by simp) ?_
      refine AllReadyH.cons (o := ?oi_a9) ?hi_a9 (fun K hK => ?kk_a9) AllReadyH.nil
      case hi_a9 => (simp only [List.getElem?_toArray, List.getElem?_cons_succ, List.getElem?_cons_zero]; rfl)
      go_simp
      have kA8 := blk_put kA7 0 (.int .i64 va) rfl
      refine hK.out _ _ ⟨hHeld.out.setCell (p := ⟨gA, 0, none⟩) HGA.out (.int .i64 va)⟩ (fun hHeld => ?_)
      clear hK K
      try simp only [pt]
      refine wpAnyH_done (by kernel_rfl) ?_ _
      go_wp2_with fail
      go_roundg (gk - 1)
      case measure => have := HI.out; omega
      case rel => exact ⟨1, by first | rfl | simp, ⟨by have := HI.out; omega⟩, ⟨hHeld.out⟩, ⟨by simpa using kA8⟩⟩
    · have kA : wr.heap[gA]? = some (.cells #[.int .i64 va, .int .i64 0, .int .i64 0] 40 (0, 0)) := by simpa using HKA.out
      have kAd : wr.drew.heap[gA]? = some (.cells #[.int .i64 va, .int .i64 0, .int .i64 0] 40 (0, 0)) := kA
      clear HKA kA
      go_wp2_with fail
      refine wp_region_held_drew (S := fun w' => Aside0 (Below w1.heap.size w1 w')) (by kernel_rfl) ?_ (fun hHeld => ?_)
      · exact ⟨HB.out.drew⟩
      generalize World.drew _ = wDb at hHeld kAd ⊢
      refine' tk (i := 0) rfl (by kernel_rfl) (fun _ _ _ h => h) ?yb0 hHeld ?zb0
      case yb0 => (refine .inl ⟨by rfl, fun w h => ?_⟩; have F := HC.out w h.out; go_simp; (try with_reducible rfl))
      try simp only [pt]
      refine' tk (i := 1) rfl (by kernel_rfl) (fun _ _ _ h => h) ?yb1 hHeld ?zb1
      case yb1 => (refine .inl ⟨by rfl, fun w h => ?_⟩; have F := HC.out w h.out; go_simp; (try with_reducible rfl))
      try simp only [pt]
      refine' tk (i := 2) rfl (by kernel_rfl) (fun _ _ _ h => h) ?yb2 hHeld ?zb2
      case yb2 => (refine .inl ⟨by rfl, fun w h => ?_⟩; have F := HC.out w h.out; go_simp; (try with_reducible rfl))
      try simp only [pt]
      refine' tk (i := 3) rfl (by kernel_rfl) (fun _ _ _ h => h) ?yb3 hHeld ?zb3
      case yb3 => (refine .inl ⟨by rfl, fun w h => ?_⟩; have F := HC.out w h.out; go_simp; (try with_reducible rfl))
      try simp only [pt]
      refine' tk (i := 4) rfl (by kernel_rfl) (fun _ _ _ h => h) ?yb4 hHeld ?zb4
      case yb4 => (refine .inl ⟨by rfl, fun w h => ?_⟩; have F := HC.out w h.out; go_simp; (try with_reducible rfl))
      try simp only [pt]
      refine' tk (i := 5) rfl (by kernel_rfl) (fun _ _ _ h => h) ?yb5 hHeld ?zb5
      case yb5 => (refine .inl ⟨by rfl, fun w h => ?_⟩; have F := HC.out w h.out; go_simp; (try with_reducible rfl))
      try simp only [pt]
      refine' tk (i := 6) rfl (by kernel_rfl) (fun _ _ _ h => h) ?yb6 hHeld ?zb6
      case yb6 => (refine .inl ⟨by rfl, fun w h => ?_⟩; have F := HC.out w h.out; go_simp; (try with_reducible rfl))
      try simp only [pt]
      refine wpAnyH_ready (rs := [7]) (by kernel_rfl) (by simp) ?_
      refine AllReadyH.cons (o := ?oi_b7) ?hi_b7 (fun K hK => ?kk_b7) AllReadyH.nil
      case hi_b7 => (simp only [List.getElem?_toArray, List.getElem?_cons_succ, List.getElem?_cons_zero]; rfl)
      go_simp
      refine (Ikb.out _ (Lkb.out.below hHeld.out)).mono ?_
      rintro e w7 ⟨rfl, hb2⟩
      have kA7 := blk_below kAd hb2
      have xA := (blk_cell kA7 1).trans rfl
      have fA := blk_frozen kA7 1
      refine hK.out _ _ ⟨hHeld.out.trans (hb2.mono hHeld.out.size)⟩ (fun hHeld => ?_)
      clear hK K
      try simp only [pt]
      refine' tk (i := 8) rfl (by kernel_rfl) (fun _ _ _ h => h) ?yb8 hHeld ?zb8
      case yb8 => (refine .inl ⟨by rfl, fun w h => ?_⟩; have F := HC.out w h.out; go_simp; (try with_reducible rfl))
      try simp only [pt]
      refine wpAnyH_ready (rs := [9]) (by kernel_rfl) (by simp) ?_
      refine AllReadyH.cons (o := ?oi_b9) ?hi_b9 (fun K hK => ?kk_b9) AllReadyH.nil
      case hi_b9 => (simp only [List.getElem?_toArray, List.getElem?_cons_succ, List.getElem?_cons_zero]; rfl)
      go_simp
      have kA8 := blk_put kA7 1 (.int .i64 vb) rfl
      refine hK.out _ _ ⟨hHeld.out.setCell (p := ⟨gA, 1, none⟩) HGA.out (.int .i64 vb)⟩ (fun hHeld => ?_)
      clear hK K
      try simp only [pt]
      refine wpAnyH_done (by kernel_rfl) ?_ _
      go_wp2_with fail
      go_roundg (gk - 1)
      case measure => have := HI.out; omega
      case rel => exact ⟨2, by first | rfl | simp, ⟨by have := HI.out; omega⟩, ⟨hHeld.out⟩, ⟨by simpa using kA8⟩⟩
    · have kA : wr.heap[gA]? = some (.cells #[.int .i64 va, .int .i64 vb, .int .i64 0] 40 (0, 0)) := by simpa using HKA.out
      obtain ⟨⟨⟨y0, y1, y2⟩, ⟨x0, x1, x2, x3⟩⟩, z0, z1⟩ := HC.out wr HB.out
      have a0 := (blk_cell kA 0).trans rfl
      have a1 := (blk_cell kA 1).trans rfl
      have a2 := (blk_cell kA 2).trans rfl
      have BB := Lib.hid (B1.out.trans (HB.out.mono B1.out.size))
      clear HC HB HE HAR HI HGA HKA kA B1 Lka Ika Lkb Ikb HK z0 z1 y0 y1 y2
      all_goals go_wp2
      all_goals
        go_ret
        refine ⟨?_, BB.out⟩
        have hf := HF.out
        have hop := HOP.out
        have eka := Eka.out
        have ekb := Ekb.out
        clear HF HOP BB x0 x1 x2 x3 a0 a1 a2
        first | (simp_all [moreS, twoS, fieldsS]; done) | (simp_all [moreS, twoS, fieldsS]; omega) | (rcases hop with rfl | rfl | rfl | rfl | rfl <;> simp_all [moreS, twoS, fieldsS]; done) | (rcases hop with rfl | rfl | rfl | rfl | rfl <;> simp_all [moreS, twoS, fieldsS] <;> omega)
set_option maxHeartbeats 16000000 in
set_option maxRecDepth 100000 in
theorem rs_node2_23 (hop : op = 23) (hf : fieldsS rw rc rl op n m = true) {ka kb : Cr} {va vb : Int} (hl : Lies w (.node op n m at_ cap [ka, kb])) (ika : SortR rw rc rl ka va) (ikb : SortR rw rc rl kb vb) {s : Cr → Int} (eka : s ka = va) (ekb : s kb = vb) :
    Calls Tryd.prog 11 #[.agg #[.int .i64 rw, .int .i64 rc, .int .i64 rl], .agg #[.int .i64 op, .int .i64 n, .int .i64 m, .slice at_ 2 cap]] w fun e w' => e = .returned (.int .i64 (moreS s op n m [ka, kb])) ∧ Below w.heap.size w w' := by
  obtain ⟨p, rfl⟩ : ∃ p, at_ = some p := by
    obtain ⟨b, hb, -⟩ := hl.kids.cells (i := 0) (k := ka) rfl
    exact ⟨b, hb⟩
  obtain ⟨w1, e1, b1, k2, k3, s1⟩ := box2 w (.cells #[.int .i64 rw, .int .i64 rc, .int .i64 rl] 42) (.cells #[.int .i64 op, .int .i64 n, .int .i64 m, .slice (some p) 2 cap] 24)
  have HE := Lib.hid e1
  have B1 := Lib.hid b1
  obtain ⟨y0, y1, y2⟩ := room2_cells k2
  obtain ⟨x0, x1, x2, x3⟩ := core_cells k3
  have HK := Lib.hid (hl.below b1).kids
  simp only [Cr.at_, Cr.kids] at HK
  have HC := Lib.hid fun (w' : World) (hb : Below w1.heap.size w1 w') => (show ((w'.cell? ⟨w.heap.size, 0, none⟩ = some (.int .i64 rw) ∧ w'.cell? ⟨w.heap.size, 1, none⟩ = some (.int .i64 rc) ∧ w'.cell? ⟨w.heap.size, 2, none⟩ = some (.int .i64 rl)) ∧ (w'.cell? ⟨w.heap.size + 1, 0, none⟩ = some (.int .i64 op) ∧ w'.cell? ⟨w.heap.size + 1, 1, none⟩ = some (.int .i64 n) ∧ w'.cell? ⟨w.heap.size + 1, 2, none⟩ = some (.int .i64 m) ∧ w'.cell? ⟨w.heap.size + 1, 3, none⟩ = some (.slice (some p) 2 cap))) ∧ (w'.cell? p = some (.int .i64 ka.op) ∧ w'.cell? ⟨p.block, p.off + 1, none⟩ = some (.int .i64 ka.n) ∧ w'.cell? ⟨p.block, p.off + 2, none⟩ = some (.int .i64 ka.m) ∧ w'.cell? ⟨p.block, p.off + 3, none⟩ = some (.slice ka.at_ ka.kids.length ka.cap)) ∧ (w'.cell? ⟨p.block, p.off + 4, none⟩ = some (.int .i64 kb.op) ∧ w'.cell? ⟨p.block, p.off + 4 + 1, none⟩ = some (.int .i64 kb.n) ∧ w'.cell? ⟨p.block, p.off + 4 + 2, none⟩ = some (.int .i64 kb.m) ∧ w'.cell? ⟨p.block, p.off + 4 + 3, none⟩ = some (.slice kb.at_ kb.kids.length kb.cap)) from ⟨⟨room2_cells (blk_below k2 hb), core_cells (blk_below k3 hb)⟩, HK.out.lit0 hb rfl, HK.out.lit hb 0 rfl⟩)
  have Lka := Lib.hid (LiesL.lies HK.out (k := ka) (by simp))
  have Ika := Lib.hid ika
  have Lkb := Lib.hid (LiesL.lies HK.out (k := kb) (by simp))
  have Ikb := Lib.hid ikb
  have HAR := Lib.hid (show arityS op = 2 by rcases hop with rfl <;> rfl)
  have HF := Lib.hid hf
  have HOP := Lib.hid hop
  have Eka := Lib.hid eka
  have Ekb := Lib.hid ekb
  clear eka ekb
  clear hop hf k2 k3 e1 b1 s1 hl ika ikb
  go_enter Tryd.func11, Tryd.ntmps11
  go_wp2_with fail
  rw [HE.out]
  go_wp2_with fail
  refine (arity_calls op _).mono ?_
  rintro e w9 ⟨rfl, hw9⟩
  rw [hw9, HAR.out]
  clear hw9 w9
  go_wp2_with fail
  refine (fields_calls rw rc rl op n m (some p) 2 cap _).mono ?_
  rintro e w2 ⟨rfl, hb2⟩
  rw [HF.out]
  obtain ⟨⟨⟨y0, y1, y2⟩, ⟨x0, x1, x2, x3⟩⟩, z0, z1⟩ := HC.out w2 hb2
  go_wp2_with fail
  obtain ⟨gA, hgA⟩ : ∃ g, w2.heap.size = g := ⟨_, rfl⟩
  have HGA := Lib.hid (show w1.heap.size ≤ gA by rw [← hgA]; exact hb2.size)
  obtain ⟨wA, eA, bA, kA, sA⟩ := box1 w2 (.cells #[.int .i64 0, .int .i64 0, .int .i64 0] 40)
  rw [eA, hgA]
  rw [hgA] at kA
  have HBA := Lib.hid (hb2.trans (bA.mono hb2.size))
  have HKA := Lib.hid kA
  clear eA bA kA sA hgA hb2 y0 y1 y2 x0 x1 x2 x3 z0 z1
  go_loopg [7] 2 (fun gg v7 wr => ∃ i : Nat, v7 = .int .i64 i ∧ Aside0 (i ≤ 2 ∧ 2 - i ≤ gg) ∧ Aside0 (Below w1.heap.size w1 wr) ∧ Aside0 (wr.heap[gA]? = some (.cells #[.int .i64 (if 0 < i then va else 0), .int .i64 (if 1 < i then vb else 0), .int .i64 0] 40 (0, 0))))
  case atStart => exact ⟨0, rfl, ⟨by omega⟩, ⟨HBA.out⟩, ⟨by simpa using HKA.out⟩⟩
  case round =>
    clear HKA HBA
    obtain ⟨i, rfl, hi, BW, hKA⟩ := hrel
    have HI := Lib.hid hi.out
    have HB := Lib.hid BW.out
    have HKA := Lib.hid hKA.out
    clear hi BW hKA
    rcases (show i = 0 ∨ i = 1 ∨ i = 2 by have := HI.out; omega) with rfl | rfl | rfl
    · have kA : wr.heap[gA]? = some (.cells #[.int .i64 0, .int .i64 0, .int .i64 0] 40 (0, 0)) := by simpa using HKA.out
      have kAd : wr.drew.heap[gA]? = some (.cells #[.int .i64 0, .int .i64 0, .int .i64 0] 40 (0, 0)) := kA
      clear HKA kA
      go_wp2_with fail
      refine wp_region_held_drew (S := fun w' => Aside0 (Below w1.heap.size w1 w')) (by kernel_rfl) ?_ (fun hHeld => ?_)
      · exact ⟨HB.out.drew⟩
      generalize World.drew _ = wDa at hHeld kAd ⊢
      refine' tk (i := 0) rfl (by kernel_rfl) (fun _ _ _ h => h) ?ya0 hHeld ?za0
      case ya0 => (refine .inl ⟨by rfl, fun w h => ?_⟩; have F := HC.out w h.out; go_simp; (try with_reducible rfl))
      try simp only [pt]
      refine' tk (i := 1) rfl (by kernel_rfl) (fun _ _ _ h => h) ?ya1 hHeld ?za1
      case ya1 => (refine .inl ⟨by rfl, fun w h => ?_⟩; have F := HC.out w h.out; go_simp; (try with_reducible rfl))
      try simp only [pt]
      refine' tk (i := 2) rfl (by kernel_rfl) (fun _ _ _ h => h) ?ya2 hHeld ?za2
      case ya2 => (refine .inl ⟨by rfl, fun w h => ?_⟩; have F := HC.out w h.out; go_simp; (try with_reducible rfl))
      try simp only [pt]
      refine' tk (i := 3) rfl (by kernel_rfl) (fun _ _ _ h => h) ?ya3 hHeld ?za3
      case ya3 => (refine .inl ⟨by rfl, fun w h => ?_⟩; have F := HC.out w h.out; go_simp; (try with_reducible rfl))
      try simp only [pt]
      refine' tk (i := 4) rfl (by kernel_rfl) (fun _ _ _ h => h) ?ya4 hHeld ?za4
      case ya4 => (refine .inl ⟨by rfl, fun w h => ?_⟩; have F := HC.out w h.out; go_simp; (try with_reducible rfl))
      try simp only [pt]
      refine' tk (i := 5) rfl (by kernel_rfl) (fun _ _ _ h => h) ?ya5 hHeld ?za5
      case ya5 => (refine .inl ⟨by rfl, fun w h => ?_⟩; have F := HC.out w h.out; go_simp; (try with_reducible rfl))
      try simp only [pt]
      refine' tk (i := 6) rfl (by kernel_rfl) (fun _ _ _ h => h) ?ya6 hHeld ?za6
      case ya6 => (refine .inl ⟨by rfl, fun w h => ?_⟩; have F := HC.out w h.out; go_simp; (try with_reducible rfl))
      try simp only [pt]
      refine wpAnyH_ready (rs := [7]) (by kernel_rfl) (by simp) ?_
      refine AllReadyH.cons (o := ?oi_a7) ?hi_a7 (fun K hK => ?kk_a7) AllReadyH.nil
      case hi_a7 => (simp only [List.getElem?_toArray, List.getElem?_cons_succ, List.getElem?_cons_zero]; rfl)
      go_simp
      refine (Ika.out _ (Lka.out.below hHeld.out)).mono ?_
      rintro e w7 ⟨rfl, hb2⟩
      have kA7 := blk_below kAd hb2
      have xA := (blk_cell kA7 0).trans rfl
      have fA := blk_frozen kA7 0
      refine hK.out _ _ ⟨hHeld.out.trans (hb2.mono hHeld.out.size)⟩ (fun hHeld => ?_)
      clear hK K
      try simp only [pt]
      refine' tk (i := 8) rfl (by kernel_rfl) (fun _ _ _ h => h) ?ya8 hHeld ?za8
      case ya8 => (refine .inl ⟨by rfl, fun w h => ?_⟩; have F := HC.out w h.out; go_simp; (try with_reducible rfl))
      try simp only [pt]
      refine wpAnyH_ready (rs := [9]) (by kernel_rfl) (by simp) ?_
      refine AllReadyH.cons (o := ?oi_a9) ?hi_a9 (fun K hK => ?kk_a9) AllReadyH.nil
      case hi_a9 => (simp only [List.getElem?_toArray, List.getElem?_cons_succ, List.getElem?_cons_zero]; rfl)
      go_simp
      have kA8 := blk_put kA7 0 (.int .i64 va) rfl
      refine hK.out _ _ ⟨hHeld.out.setCell (p := ⟨gA, 0, none⟩) HGA.out (.int .i64 va)⟩ (fun hHeld => ?_)
      clear hK K
      try simp only [pt]
      refine wpAnyH_done (by kernel_rfl) ?_ _
      go_wp2_with fail
      go_roundg (gk - 1)
      case measure => have := HI.out; omega
      case rel => exact ⟨1, by first | rfl | simp, ⟨by have := HI.out; omega⟩, ⟨hHeld.out⟩, ⟨by simpa using kA8⟩⟩
    · have kA : wr.heap[gA]? = some (.cells #[.int .i64 va, .int .i64 0, .int .i64 0] 40 (0, 0)) := by simpa using HKA.out
      have kAd : wr.drew.heap[gA]? = some (.cells #[.int .i64 va, .int .i64 0, .int .i64 0] 40 (0, 0)) := kA
      clear HKA kA
      go_wp2_with fail
      refine wp_region_held_drew (S := fun w' => Aside0 (Below w1.heap.size w1 w')) (by kernel_rfl) ?_ (fun hHeld => ?_)
      · exact ⟨HB.out.drew⟩
      generalize World.drew _ = wDb at hHeld kAd ⊢
      refine' tk (i := 0) rfl (by kernel_rfl) (fun _ _ _ h => h) ?yb0 hHeld ?zb0
      case yb0 => (refine .inl ⟨by rfl, fun w h => ?_⟩; have F := HC.out w h.out; go_simp; (try with_reducible rfl))
      try simp only [pt]
      refine' tk (i := 1) rfl (by kernel_rfl) (fun _ _ _ h => h) ?yb1 hHeld ?zb1
      case yb1 => (refine .inl ⟨by rfl, fun w h => ?_⟩; have F := HC.out w h.out; go_simp; (try with_reducible rfl))
      try simp only [pt]
      refine' tk (i := 2) rfl (by kernel_rfl) (fun _ _ _ h => h) ?yb2 hHeld ?zb2
      case yb2 => (refine .inl ⟨by rfl, fun w h => ?_⟩; have F := HC.out w h.out; go_simp; (try with_reducible rfl))
      try simp only [pt]
      refine' tk (i := 3) rfl (by kernel_rfl) (fun _ _ _ h => h) ?yb3 hHeld ?zb3
      case yb3 => (refine .inl ⟨by rfl, fun w h => ?_⟩; have F := HC.out w h.out; go_simp; (try with_reducible rfl))
      try simp only [pt]
      refine' tk (i := 4) rfl (by kernel_rfl) (fun _ _ _ h => h) ?yb4 hHeld ?zb4
      case yb4 => (refine .inl ⟨by rfl, fun w h => ?_⟩; have F := HC.out w h.out; go_simp; (try with_reducible rfl))
      try simp only [pt]
      refine' tk (i := 5) rfl (by kernel_rfl) (fun _ _ _ h => h) ?yb5 hHeld ?zb5
      case yb5 => (refine .inl ⟨by rfl, fun w h => ?_⟩; have F := HC.out w h.out; go_simp; (try with_reducible rfl))
      try simp only [pt]
      refine' tk (i := 6) rfl (by kernel_rfl) (fun _ _ _ h => h) ?yb6 hHeld ?zb6
      case yb6 => (refine .inl ⟨by rfl, fun w h => ?_⟩; have F := HC.out w h.out; go_simp; (try with_reducible rfl))
      try simp only [pt]
      refine wpAnyH_ready (rs := [7]) (by kernel_rfl) (by simp) ?_
      refine AllReadyH.cons (o := ?oi_b7) ?hi_b7 (fun K hK => ?kk_b7) AllReadyH.nil
      case hi_b7 => (simp only [List.getElem?_toArray, List.getElem?_cons_succ, List.getElem?_cons_zero]; rfl)
      go_simp
      refine (Ikb.out _ (Lkb.out.below hHeld.out)).mono ?_
      rintro e w7 ⟨rfl, hb2⟩
      have kA7 := blk_below kAd hb2
      have xA := (blk_cell kA7 1).trans rfl
      have fA := blk_frozen kA7 1
      refine hK.out _ _ ⟨hHeld.out.trans (hb2.mono hHeld.out.size)⟩ (fun hHeld => ?_)
      clear hK K
      try simp only [pt]
      refine' tk (i := 8) rfl (by kernel_rfl) (fun _ _ _ h => h) ?yb8 hHeld ?zb8
      case yb8 => (refine .inl ⟨by rfl, fun w h => ?_⟩; have F := HC.out w h.out; go_simp; (try with_reducible rfl))
      try simp only [pt]
      refine wpAnyH_ready (rs := [9]) (by kernel_rfl) (by simp) ?_
      refine AllReadyH.cons (o := ?oi_b9) ?hi_b9 (fun K hK => ?kk_b9) AllReadyH.nil
      case hi_b9 => (simp only [List.getElem?_toArray, List.getElem?_cons_succ, List.getElem?_cons_zero]; rfl)
      go_simp
      have kA8 := blk_put kA7 1 (.int .i64 vb) rfl
      refine hK.out _ _ ⟨hHeld.out.setCell (p := ⟨gA, 1, none⟩) HGA.out (.int .i64 vb)⟩ (fun hHeld => ?_)
      clear hK K
      try simp only [pt]
      refine wpAnyH_done (by kernel_rfl) ?_ _
      go_wp2_with fail
      go_roundg (gk - 1)
      case measure => have := HI.out; omega
      case rel => exact ⟨2, by first | rfl | simp, ⟨by have := HI.out; omega⟩, ⟨hHeld.out⟩, ⟨by simpa using kA8⟩⟩
    · have kA : wr.heap[gA]? = some (.cells #[.int .i64 va, .int .i64 vb, .int .i64 0] 40 (0, 0)) := by simpa using HKA.out
      obtain ⟨⟨⟨y0, y1, y2⟩, ⟨x0, x1, x2, x3⟩⟩, z0, z1⟩ := HC.out wr HB.out
      have a0 := (blk_cell kA 0).trans rfl
      have a1 := (blk_cell kA 1).trans rfl
      have a2 := (blk_cell kA 2).trans rfl
      have BB := Lib.hid (B1.out.trans (HB.out.mono B1.out.size))
      clear HC HB HE HAR HI HGA HKA kA B1 Lka Ika Lkb Ikb HK z0 z1 y0 y1 y2
      rcases HOP.out with rfl
      all_goals go_wp2
      all_goals
        go_ret
        refine ⟨?_, BB.out⟩
        have hf := HF.out
        have hop := HOP.out
        have eka := Eka.out
        have ekb := Ekb.out
        clear HF HOP BB x0 x1 x2 x3 a0 a1 a2
        first | (simp_all [moreS, twoS, fieldsS]; done) | (simp_all [moreS, twoS, fieldsS]; omega) | (rcases hop with rfl <;> simp_all [moreS, twoS, fieldsS]; done) | (rcases hop with rfl <;> simp_all [moreS, twoS, fieldsS] <;> omega)
set_option maxHeartbeats 16000000 in
set_option maxRecDepth 100000 in
theorem rs_node2_24 (hop : op = 24) (hf : fieldsS rw rc rl op n m = true) {ka kb : Cr} {va vb : Int} (hl : Lies w (.node op n m at_ cap [ka, kb])) (ika : SortR rw rc rl ka va) (ikb : SortR rw rc rl kb vb) {s : Cr → Int} (eka : s ka = va) (ekb : s kb = vb) :
    Calls Tryd.prog 11 #[.agg #[.int .i64 rw, .int .i64 rc, .int .i64 rl], .agg #[.int .i64 op, .int .i64 n, .int .i64 m, .slice at_ 2 cap]] w fun e w' => e = .returned (.int .i64 (moreS s op n m [ka, kb])) ∧ Below w.heap.size w w' := by
  obtain ⟨p, rfl⟩ : ∃ p, at_ = some p := by
    obtain ⟨b, hb, -⟩ := hl.kids.cells (i := 0) (k := ka) rfl
    exact ⟨b, hb⟩
  obtain ⟨w1, e1, b1, k2, k3, s1⟩ := box2 w (.cells #[.int .i64 rw, .int .i64 rc, .int .i64 rl] 42) (.cells #[.int .i64 op, .int .i64 n, .int .i64 m, .slice (some p) 2 cap] 24)
  have HE := Lib.hid e1
  have B1 := Lib.hid b1
  obtain ⟨y0, y1, y2⟩ := room2_cells k2
  obtain ⟨x0, x1, x2, x3⟩ := core_cells k3
  have HK := Lib.hid (hl.below b1).kids
  simp only [Cr.at_, Cr.kids] at HK
  have HC := Lib.hid fun (w' : World) (hb : Below w1.heap.size w1 w') => (show ((w'.cell? ⟨w.heap.size, 0, none⟩ = some (.int .i64 rw) ∧ w'.cell? ⟨w.heap.size, 1, none⟩ = some (.int .i64 rc) ∧ w'.cell? ⟨w.heap.size, 2, none⟩ = some (.int .i64 rl)) ∧ (w'.cell? ⟨w.heap.size + 1, 0, none⟩ = some (.int .i64 op) ∧ w'.cell? ⟨w.heap.size + 1, 1, none⟩ = some (.int .i64 n) ∧ w'.cell? ⟨w.heap.size + 1, 2, none⟩ = some (.int .i64 m) ∧ w'.cell? ⟨w.heap.size + 1, 3, none⟩ = some (.slice (some p) 2 cap))) ∧ (w'.cell? p = some (.int .i64 ka.op) ∧ w'.cell? ⟨p.block, p.off + 1, none⟩ = some (.int .i64 ka.n) ∧ w'.cell? ⟨p.block, p.off + 2, none⟩ = some (.int .i64 ka.m) ∧ w'.cell? ⟨p.block, p.off + 3, none⟩ = some (.slice ka.at_ ka.kids.length ka.cap)) ∧ (w'.cell? ⟨p.block, p.off + 4, none⟩ = some (.int .i64 kb.op) ∧ w'.cell? ⟨p.block, p.off + 4 + 1, none⟩ = some (.int .i64 kb.n) ∧ w'.cell? ⟨p.block, p.off + 4 + 2, none⟩ = some (.int .i64 kb.m) ∧ w'.cell? ⟨p.block, p.off + 4 + 3, none⟩ = some (.slice kb.at_ kb.kids.length kb.cap)) from ⟨⟨room2_cells (blk_below k2 hb), core_cells (blk_below k3 hb)⟩, HK.out.lit0 hb rfl, HK.out.lit hb 0 rfl⟩)
  have Lka := Lib.hid (LiesL.lies HK.out (k := ka) (by simp))
  have Ika := Lib.hid ika
  have Lkb := Lib.hid (LiesL.lies HK.out (k := kb) (by simp))
  have Ikb := Lib.hid ikb
  have HAR := Lib.hid (show arityS op = 2 by rcases hop with rfl <;> rfl)
  have HF := Lib.hid hf
  have HOP := Lib.hid hop
  have Eka := Lib.hid eka
  have Ekb := Lib.hid ekb
  clear eka ekb
  clear hop hf k2 k3 e1 b1 s1 hl ika ikb
  go_enter Tryd.func11, Tryd.ntmps11
  go_wp2_with fail
  rw [HE.out]
  go_wp2_with fail
  refine (arity_calls op _).mono ?_
  rintro e w9 ⟨rfl, hw9⟩
  rw [hw9, HAR.out]
  clear hw9 w9
  go_wp2_with fail
  refine (fields_calls rw rc rl op n m (some p) 2 cap _).mono ?_
  rintro e w2 ⟨rfl, hb2⟩
  rw [HF.out]
  obtain ⟨⟨⟨y0, y1, y2⟩, ⟨x0, x1, x2, x3⟩⟩, z0, z1⟩ := HC.out w2 hb2
  go_wp2_with fail
  obtain ⟨gA, hgA⟩ : ∃ g, w2.heap.size = g := ⟨_, rfl⟩
  have HGA := Lib.hid (show w1.heap.size ≤ gA by rw [← hgA]; exact hb2.size)
  obtain ⟨wA, eA, bA, kA, sA⟩ := box1 w2 (.cells #[.int .i64 0, .int .i64 0, .int .i64 0] 40)
  rw [eA, hgA]
  rw [hgA] at kA
  have HBA := Lib.hid (hb2.trans (bA.mono hb2.size))
  have HKA := Lib.hid kA
  clear eA bA kA sA hgA hb2 y0 y1 y2 x0 x1 x2 x3 z0 z1
  go_loopg [7] 2 (fun gg v7 wr => ∃ i : Nat, v7 = .int .i64 i ∧ Aside0 (i ≤ 2 ∧ 2 - i ≤ gg) ∧ Aside0 (Below w1.heap.size w1 wr) ∧ Aside0 (wr.heap[gA]? = some (.cells #[.int .i64 (if 0 < i then va else 0), .int .i64 (if 1 < i then vb else 0), .int .i64 0] 40 (0, 0))))
  case atStart => exact ⟨0, rfl, ⟨by omega⟩, ⟨HBA.out⟩, ⟨by simpa using HKA.out⟩⟩
  case round =>
    clear HKA HBA
    obtain ⟨i, rfl, hi, BW, hKA⟩ := hrel
    have HI := Lib.hid hi.out
    have HB := Lib.hid BW.out
    have HKA := Lib.hid hKA.out
    clear hi BW hKA
    rcases (show i = 0 ∨ i = 1 ∨ i = 2 by have := HI.out; omega) with rfl | rfl | rfl
    · have kA : wr.heap[gA]? = some (.cells #[.int .i64 0, .int .i64 0, .int .i64 0] 40 (0, 0)) := by simpa using HKA.out
      have kAd : wr.drew.heap[gA]? = some (.cells #[.int .i64 0, .int .i64 0, .int .i64 0] 40 (0, 0)) := kA
      clear HKA kA
      go_wp2_with fail
      refine wp_region_held_drew (S := fun w' => Aside0 (Below w1.heap.size w1 w')) (by kernel_rfl) ?_ (fun hHeld => ?_)
      · exact ⟨HB.out.drew⟩
      generalize World.drew _ = wDa at hHeld kAd ⊢
      refine' tk (i := 0) rfl (by kernel_rfl) (fun _ _ _ h => h) ?ya0 hHeld ?za0
      case ya0 => (refine .inl ⟨by rfl, fun w h => ?_⟩; have F := HC.out w h.out; go_simp; (try with_reducible rfl))
      try simp only [pt]
      refine' tk (i := 1) rfl (by kernel_rfl) (fun _ _ _ h => h) ?ya1 hHeld ?za1
      case ya1 => (refine .inl ⟨by rfl, fun w h => ?_⟩; have F := HC.out w h.out; go_simp; (try with_reducible rfl))
      try simp only [pt]
      refine' tk (i := 2) rfl (by kernel_rfl) (fun _ _ _ h => h) ?ya2 hHeld ?za2
      case ya2 => (refine .inl ⟨by rfl, fun w h => ?_⟩; have F := HC.out w h.out; go_simp; (try with_reducible rfl))
      try simp only [pt]
      refine' tk (i := 3) rfl (by kernel_rfl) (fun _ _ _ h => h) ?ya3 hHeld ?za3
      case ya3 => (refine .inl ⟨by rfl, fun w h => ?_⟩; have F := HC.out w h.out; go_simp; (try with_reducible rfl))
      try simp only [pt]
      refine' tk (i := 4) rfl (by kernel_rfl) (fun _ _ _ h => h) ?ya4 hHeld ?za4
      case ya4 => (refine .inl ⟨by rfl, fun w h => ?_⟩; have F := HC.out w h.out; go_simp; (try with_reducible rfl))
      try simp only [pt]
      refine' tk (i := 5) rfl (by kernel_rfl) (fun _ _ _ h => h) ?ya5 hHeld ?za5
      case ya5 => (refine .inl ⟨by rfl, fun w h => ?_⟩; have F := HC.out w h.out; go_simp; (try with_reducible rfl))
      try simp only [pt]
      refine' tk (i := 6) rfl (by kernel_rfl) (fun _ _ _ h => h) ?ya6 hHeld ?za6
      case ya6 => (refine .inl ⟨by rfl, fun w h => ?_⟩; have F := HC.out w h.out; go_simp; (try with_reducible rfl))
      try simp only [pt]
      refine wpAnyH_ready (rs := [7]) (by kernel_rfl) (by simp) ?_
      refine AllReadyH.cons (o := ?oi_a7) ?hi_a7 (fun K hK => ?kk_a7) AllReadyH.nil
      case hi_a7 => (simp only [List.getElem?_toArray, List.getElem?_cons_succ, List.getElem?_cons_zero]; rfl)
      go_simp
      refine (Ika.out _ (Lka.out.below hHeld.out)).mono ?_
      rintro e w7 ⟨rfl, hb2⟩
      have kA7 := blk_below kAd hb2
      have xA := (blk_cell kA7 0).trans rfl
      have fA := blk_frozen kA7 0
      refine hK.out _ _ ⟨hHeld.out.trans (hb2.mono hHeld.out.size)⟩ (fun hHeld => ?_)
      clear hK K
      try simp only [pt]
      refine' tk (i := 8) rfl (by kernel_rfl) (fun _ _ _ h => h) ?ya8 hHeld ?za8
      case ya8 => (refine .inl ⟨by rfl, fun w h => ?_⟩; have F := HC.out w h.out; go_simp; (try with_reducible rfl))
      try simp only [pt]
      refine wpAnyH_ready (rs := [9]) (by kernel_rfl) (by simp) ?_
      refine AllReadyH.cons (o := ?oi_a9) ?hi_a9 (fun K hK => ?kk_a9) AllReadyH.nil
      case hi_a9 => (simp only [List.getElem?_toArray, List.getElem?_cons_succ, List.getElem?_cons_zero]; rfl)
      go_simp
      have kA8 := blk_put kA7 0 (.int .i64 va) rfl
      refine hK.out _ _ ⟨hHeld.out.setCell (p := ⟨gA, 0, none⟩) HGA.out (.int .i64 va)⟩ (fun hHeld => ?_)
      clear hK K
      try simp only [pt]
      refine wpAnyH_done (by kernel_rfl) ?_ _
      go_wp2_with fail
      go_roundg (gk - 1)
      case measure => have := HI.out; omega
      case rel => exact ⟨1, by first | rfl | simp, ⟨by have := HI.out; omega⟩, ⟨hHeld.out⟩, ⟨by simpa using kA8⟩⟩
    · have kA : wr.heap[gA]? = some (.cells #[.int .i64 va, .int .i64 0, .int .i64 0] 40 (0, 0)) := by simpa using HKA.out
      have kAd : wr.drew.heap[gA]? = some (.cells #[.int .i64 va, .int .i64 0, .int .i64 0] 40 (0, 0)) := kA
      clear HKA kA
      go_wp2_with fail
      refine wp_region_held_drew (S := fun w' => Aside0 (Below w1.heap.size w1 w')) (by kernel_rfl) ?_ (fun hHeld => ?_)
      · exact ⟨HB.out.drew⟩
      generalize World.drew _ = wDb at hHeld kAd ⊢
      refine' tk (i := 0) rfl (by kernel_rfl) (fun _ _ _ h => h) ?yb0 hHeld ?zb0
      case yb0 => (refine .inl ⟨by rfl, fun w h => ?_⟩; have F := HC.out w h.out; go_simp; (try with_reducible rfl))
      try simp only [pt]
      refine' tk (i := 1) rfl (by kernel_rfl) (fun _ _ _ h => h) ?yb1 hHeld ?zb1
      case yb1 => (refine .inl ⟨by rfl, fun w h => ?_⟩; have F := HC.out w h.out; go_simp; (try with_reducible rfl))
      try simp only [pt]
      refine' tk (i := 2) rfl (by kernel_rfl) (fun _ _ _ h => h) ?yb2 hHeld ?zb2
      case yb2 => (refine .inl ⟨by rfl, fun w h => ?_⟩; have F := HC.out w h.out; go_simp; (try with_reducible rfl))
      try simp only [pt]
      refine' tk (i := 3) rfl (by kernel_rfl) (fun _ _ _ h => h) ?yb3 hHeld ?zb3
      case yb3 => (refine .inl ⟨by rfl, fun w h => ?_⟩; have F := HC.out w h.out; go_simp; (try with_reducible rfl))
      try simp only [pt]
      refine' tk (i := 4) rfl (by kernel_rfl) (fun _ _ _ h => h) ?yb4 hHeld ?zb4
      case yb4 => (refine .inl ⟨by rfl, fun w h => ?_⟩; have F := HC.out w h.out; go_simp; (try with_reducible rfl))
      try simp only [pt]
      refine' tk (i := 5) rfl (by kernel_rfl) (fun _ _ _ h => h) ?yb5 hHeld ?zb5
      case yb5 => (refine .inl ⟨by rfl, fun w h => ?_⟩; have F := HC.out w h.out; go_simp; (try with_reducible rfl))
      try simp only [pt]
      refine' tk (i := 6) rfl (by kernel_rfl) (fun _ _ _ h => h) ?yb6 hHeld ?zb6
      case yb6 => (refine .inl ⟨by rfl, fun w h => ?_⟩; have F := HC.out w h.out; go_simp; (try with_reducible rfl))
      try simp only [pt]
      refine wpAnyH_ready (rs := [7]) (by kernel_rfl) (by simp) ?_
      refine AllReadyH.cons (o := ?oi_b7) ?hi_b7 (fun K hK => ?kk_b7) AllReadyH.nil
      case hi_b7 => (simp only [List.getElem?_toArray, List.getElem?_cons_succ, List.getElem?_cons_zero]; rfl)
      go_simp
      refine (Ikb.out _ (Lkb.out.below hHeld.out)).mono ?_
      rintro e w7 ⟨rfl, hb2⟩
      have kA7 := blk_below kAd hb2
      have xA := (blk_cell kA7 1).trans rfl
      have fA := blk_frozen kA7 1
      refine hK.out _ _ ⟨hHeld.out.trans (hb2.mono hHeld.out.size)⟩ (fun hHeld => ?_)
      clear hK K
      try simp only [pt]
      refine' tk (i := 8) rfl (by kernel_rfl) (fun _ _ _ h => h) ?yb8 hHeld ?zb8
      case yb8 => (refine .inl ⟨by rfl, fun w h => ?_⟩; have F := HC.out w h.out; go_simp; (try with_reducible rfl))
      try simp only [pt]
      refine wpAnyH_ready (rs := [9]) (by kernel_rfl) (by simp) ?_
      refine AllReadyH.cons (o := ?oi_b9) ?hi_b9 (fun K hK => ?kk_b9) AllReadyH.nil
      case hi_b9 => (simp only [List.getElem?_toArray, List.getElem?_cons_succ, List.getElem?_cons_zero]; rfl)
      go_simp
      have kA8 := blk_put kA7 1 (.int .i64 vb) rfl
      refine hK.out _ _ ⟨hHeld.out.setCell (p := ⟨gA, 1, none⟩) HGA.out (.int .i64 vb)⟩ (fun hHeld => ?_)
      clear hK K
      try simp only [pt]
      refine wpAnyH_done (by kernel_rfl) ?_ _
      go_wp2_with fail
      go_roundg (gk - 1)
      case measure => have := HI.out; omega
      case rel => exact ⟨2, by first | rfl | simp, ⟨by have := HI.out; omega⟩, ⟨hHeld.out⟩, ⟨by simpa using kA8⟩⟩
    · have kA : wr.heap[gA]? = some (.cells #[.int .i64 va, .int .i64 vb, .int .i64 0] 40 (0, 0)) := by simpa using HKA.out
      obtain ⟨⟨⟨y0, y1, y2⟩, ⟨x0, x1, x2, x3⟩⟩, z0, z1⟩ := HC.out wr HB.out
      have a0 := (blk_cell kA 0).trans rfl
      have a1 := (blk_cell kA 1).trans rfl
      have a2 := (blk_cell kA 2).trans rfl
      have BB := Lib.hid (B1.out.trans (HB.out.mono B1.out.size))
      clear HC HB HE HAR HI HGA HKA kA B1 Lka Ika Lkb Ikb HK z0 z1 y0 y1 y2
      rcases HOP.out with rfl
      all_goals go_wp2
      all_goals
        go_ret
        refine ⟨?_, BB.out⟩
        have hf := HF.out
        have hop := HOP.out
        have eka := Eka.out
        have ekb := Ekb.out
        clear HF HOP BB x0 x1 x2 x3 a0 a1 a2
        first | (simp_all [moreS, twoS, fieldsS]; done) | (simp_all [moreS, twoS, fieldsS]; omega) | (rcases hop with rfl <;> simp_all [moreS, twoS, fieldsS]; done) | (rcases hop with rfl <;> simp_all [moreS, twoS, fieldsS] <;> omega)
end
end Go.Proofs.YtpljkcakijkklaaDoor

end
section
namespace Go.Proofs.YtpljkcakijkklaaDoor
set_option linter.unusedVariables false
set_option linter.unusedSimpArgs false
open Go.RowKit Go.Proofs.YtpljkcakijkklaaDoorW.PrintWords Go.Proofs.YtpljkcakijkklaaDoorW.PrintLast Go.Proofs.YtpljkcakijkklaaDoorW.PrintMore

section
variable {rw rc rl op n m : Int} {at_ : Option Addr} {cap : Nat} {w : World}
set_option maxHeartbeats 16000000 in
set_option maxRecDepth 100000 in
theorem rs_node2_25 (hop : op = 25) (hf : fieldsS rw rc rl op n m = true) {ka kb : Cr} {va vb : Int} (hl : Lies w (.node op n m at_ cap [ka, kb])) (ika : SortR rw rc rl ka va) (ikb : SortR rw rc rl kb vb) {s : Cr → Int} (eka : s ka = va) (ekb : s kb = vb) :
    Calls Tryd.prog 11 #[.agg #[.int .i64 rw, .int .i64 rc, .int .i64 rl], .agg #[.int .i64 op, .int .i64 n, .int .i64 m, .slice at_ 2 cap]] w fun e w' => e = .returned (.int .i64 (moreS s op n m [ka, kb])) ∧ Below w.heap.size w w' := by
  obtain ⟨p, rfl⟩ : ∃ p, at_ = some p := by
    obtain ⟨b, hb, -⟩ := hl.kids.cells (i := 0) (k := ka) rfl
    exact ⟨b, hb⟩
  obtain ⟨w1, e1, b1, k2, k3, s1⟩ := box2 w (.cells #[.int .i64 rw, .int .i64 rc, .int .i64 rl] 42) (.cells #[.int .i64 op, .int .i64 n, .int .i64 m, .slice (some p) 2 cap] 24)
  have HE := Lib.hid e1
  have B1 := Lib.hid b1
  obtain ⟨y0, y1, y2⟩ := room2_cells k2
  obtain ⟨x0, x1, x2, x3⟩ := core_cells k3
  have HK := Lib.hid (hl.below b1).kids
  simp only [Cr.at_, Cr.kids] at HK
  have HC := Lib.hid fun (w' : World) (hb : Below w1.heap.size w1 w') => (show ((w'.cell? ⟨w.heap.size, 0, none⟩ = some (.int .i64 rw) ∧ w'.cell? ⟨w.heap.size, 1, none⟩ = some (.int .i64 rc) ∧ w'.cell? ⟨w.heap.size, 2, none⟩ = some (.int .i64 rl)) ∧ (w'.cell? ⟨w.heap.size + 1, 0, none⟩ = some (.int .i64 op) ∧ w'.cell? ⟨w.heap.size + 1, 1, none⟩ = some (.int .i64 n) ∧ w'.cell? ⟨w.heap.size + 1, 2, none⟩ = some (.int .i64 m) ∧ w'.cell? ⟨w.heap.size + 1, 3, none⟩ = some (.slice (some p) 2 cap))) ∧ (w'.cell? p = some (.int .i64 ka.op) ∧ w'.cell? ⟨p.block, p.off + 1, none⟩ = some (.int .i64 ka.n) ∧ w'.cell? ⟨p.block, p.off + 2, none⟩ = some (.int .i64 ka.m) ∧ w'.cell? ⟨p.block, p.off + 3, none⟩ = some (.slice ka.at_ ka.kids.length ka.cap)) ∧ (w'.cell? ⟨p.block, p.off + 4, none⟩ = some (.int .i64 kb.op) ∧ w'.cell? ⟨p.block, p.off + 4 + 1, none⟩ = some (.int .i64 kb.n) ∧ w'.cell? ⟨p.block, p.off + 4 + 2, none⟩ = some (.int .i64 kb.m) ∧ w'.cell? ⟨p.block, p.off + 4 + 3, none⟩ = some (.slice kb.at_ kb.kids.length kb.cap)) from ⟨⟨room2_cells (blk_below k2 hb), core_cells (blk_below k3 hb)⟩, HK.out.lit0 hb rfl, HK.out.lit hb 0 rfl⟩)
  have Lka := Lib.hid (LiesL.lies HK.out (k := ka) (by simp))
  have Ika := Lib.hid ika
  have Lkb := Lib.hid (LiesL.lies HK.out (k := kb) (by simp))
  have Ikb := Lib.hid ikb
  have HAR := Lib.hid (show arityS op = 2 by rcases hop with rfl <;> rfl)
  have HF := Lib.hid hf
  have HOP := Lib.hid hop
  have Eka := Lib.hid eka
  have Ekb := Lib.hid ekb
  clear eka ekb
  clear hop hf k2 k3 e1 b1 s1 hl ika ikb
  go_enter Tryd.func11, Tryd.ntmps11
  go_wp2_with fail
  rw [HE.out]
  go_wp2_with fail
  refine (arity_calls op _).mono ?_
  rintro e w9 ⟨rfl, hw9⟩
  rw [hw9, HAR.out]
  clear hw9 w9
  go_wp2_with fail
  refine (fields_calls rw rc rl op n m (some p) 2 cap _).mono ?_
  rintro e w2 ⟨rfl, hb2⟩
  rw [HF.out]
  obtain ⟨⟨⟨y0, y1, y2⟩, ⟨x0, x1, x2, x3⟩⟩, z0, z1⟩ := HC.out w2 hb2
  go_wp2_with fail
  obtain ⟨gA, hgA⟩ : ∃ g, w2.heap.size = g := ⟨_, rfl⟩
  have HGA := Lib.hid (show w1.heap.size ≤ gA by rw [← hgA]; exact hb2.size)
  obtain ⟨wA, eA, bA, kA, sA⟩ := box1 w2 (.cells #[.int .i64 0, .int .i64 0, .int .i64 0] 40)
  rw [eA, hgA]
  rw [hgA] at kA
  have HBA := Lib.hid (hb2.trans (bA.mono hb2.size))
  have HKA := Lib.hid kA
  clear eA bA kA sA hgA hb2 y0 y1 y2 x0 x1 x2 x3 z0 z1
  go_loopg [7] 2 (fun gg v7 wr => ∃ i : Nat, v7 = .int .i64 i ∧ Aside0 (i ≤ 2 ∧ 2 - i ≤ gg) ∧ Aside0 (Below w1.heap.size w1 wr) ∧ Aside0 (wr.heap[gA]? = some (.cells #[.int .i64 (if 0 < i then va else 0), .int .i64 (if 1 < i then vb else 0), .int .i64 0] 40 (0, 0))))
  case atStart => exact ⟨0, rfl, ⟨by omega⟩, ⟨HBA.out⟩, ⟨by simpa using HKA.out⟩⟩
  case round =>
    clear HKA HBA
    obtain ⟨i, rfl, hi, BW, hKA⟩ := hrel
    have HI := Lib.hid hi.out
    have HB := Lib.hid BW.out
    have HKA := Lib.hid hKA.out
    clear hi BW hKA
    rcases (show i = 0 ∨ i = 1 ∨ i = 2 by have := HI.out; omega) with rfl | rfl | rfl
    · have kA : wr.heap[gA]? = some (.cells #[.int .i64 0, .int .i64 0, .int .i64 0] 40 (0, 0)) := by simpa using HKA.out
      have kAd : wr.drew.heap[gA]? = some (.cells #[.int .i64 0, .int .i64 0, .int .i64 0] 40 (0, 0)) := kA
      clear HKA kA
      go_wp2_with fail
      refine wp_region_held_drew (S := fun w' => Aside0 (Below w1.heap.size w1 w')) (by kernel_rfl) ?_ (fun hHeld => ?_)
      · exact ⟨HB.out.drew⟩
      generalize World.drew _ = wDa at hHeld kAd ⊢
      refine' tk (i := 0) rfl (by kernel_rfl) (fun _ _ _ h => h) ?ya0 hHeld ?za0
      case ya0 => (refine .inl ⟨by rfl, fun w h => ?_⟩; have F := HC.out w h.out; go_simp; (try with_reducible rfl))
      try simp only [pt]
      refine' tk (i := 1) rfl (by kernel_rfl) (fun _ _ _ h => h) ?ya1 hHeld ?za1
      case ya1 => (refine .inl ⟨by rfl, fun w h => ?_⟩; have F := HC.out w h.out; go_simp; (try with_reducible rfl))
      try simp only [pt]
      refine' tk (i := 2) rfl (by kernel_rfl) (fun _ _ _ h => h) ?ya2 hHeld ?za2
      case ya2 => (refine .inl ⟨by rfl, fun w h => ?_⟩; have F := HC.out w h.out; go_simp; (try with_reducible rfl))
      try simp only [pt]
      refine' tk (i := 3) rfl (by kernel_rfl) (fun _ _ _ h => h) ?ya3 hHeld ?za3
      case ya3 => (refine .inl ⟨by rfl, fun w h => ?_⟩; have F := HC.out w h.out; go_simp; (try with_reducible rfl))
      try simp only [pt]
      refine' tk (i := 4) rfl (by kernel_rfl) (fun _ _ _ h => h) ?ya4 hHeld ?za4
      case ya4 => (refine .inl ⟨by rfl, fun w h => ?_⟩; have F := HC.out w h.out; go_simp; (try with_reducible rfl))
      try simp only [pt]
      refine' tk (i := 5) rfl (by kernel_rfl) (fun _ _ _ h => h) ?ya5 hHeld ?za5
      case ya5 => (refine .inl ⟨by rfl, fun w h => ?_⟩; have F := HC.out w h.out; go_simp; (try with_reducible rfl))
      try simp only [pt]
      refine' tk (i := 6) rfl (by kernel_rfl) (fun _ _ _ h => h) ?ya6 hHeld ?za6
      case ya6 => (refine .inl ⟨by rfl, fun w h => ?_⟩; have F := HC.out w h.out; go_simp; (try with_reducible rfl))
      try simp only [pt]
      refine wpAnyH_ready (rs := [7]) (by kernel_rfl) (by simp) ?_
      refine AllReadyH.cons (o := ?oi_a7) ?hi_a7 (fun K hK => ?kk_a7) AllReadyH.nil
      case hi_a7 => (simp only [List.getElem?_toArray, List.getElem?_cons_succ, List.getElem?_cons_zero]; rfl)
      go_simp
      refine (Ika.out _ (Lka.out.below hHeld.out)).mono ?_
      rintro e w7 ⟨rfl, hb2⟩
      have kA7 := blk_below kAd hb2
      have xA := (blk_cell kA7 0).trans rfl
      have fA := blk_frozen kA7 0
      refine hK.out _ _ ⟨hHeld.out.trans (hb2.mono hHeld.out.size)⟩ (fun hHeld => ?_)
      clear hK K
      try simp only [pt]
      refine' tk (i := 8) rfl (by kernel_rfl) (fun _ _ _ h => h) ?ya8 hHeld ?za8
      case ya8 => (refine .inl ⟨by rfl, fun w h => ?_⟩; have F := HC.out w h.out; go_simp; (try with_reducible rfl))
      try simp only [pt]
      refine wpAnyH_ready (rs := [9]) (by kernel_rfl) (by simp) ?_
      refine AllReadyH.cons (o := ?oi_a9) ?hi_a9 (fun K hK => ?kk_a9) AllReadyH.nil
      case hi_a9 => (simp only [List.getElem?_toArray, List.getElem?_cons_succ, List.getElem?_cons_zero]; rfl)
      go_simp
      have kA8 := blk_put kA7 0 (.int .i64 va) rfl
      refine hK.out _ _ ⟨hHeld.out.setCell (p := ⟨gA, 0, none⟩) HGA.out (.int .i64 va)⟩ (fun hHeld => ?_)
      clear hK K
      try simp only [pt]
      refine wpAnyH_done (by kernel_rfl) ?_ _
      go_wp2_with fail
      go_roundg (gk - 1)
      case measure => have := HI.out; omega
      case rel => exact ⟨1, by first | rfl | simp, ⟨by have := HI.out; omega⟩, ⟨hHeld.out⟩, ⟨by simpa using kA8⟩⟩
    · have kA : wr.heap[gA]? = some (.cells #[.int .i64 va, .int .i64 0, .int .i64 0] 40 (0, 0)) := by simpa using HKA.out
      have kAd : wr.drew.heap[gA]? = some (.cells #[.int .i64 va, .int .i64 0, .int .i64 0] 40 (0, 0)) := kA
      clear HKA kA
      go_wp2_with fail
      refine wp_region_held_drew (S := fun w' => Aside0 (Below w1.heap.size w1 w')) (by kernel_rfl) ?_ (fun hHeld => ?_)
      · exact ⟨HB.out.drew⟩
      generalize World.drew _ = wDb at hHeld kAd ⊢
      refine' tk (i := 0) rfl (by kernel_rfl) (fun _ _ _ h => h) ?yb0 hHeld ?zb0
      case yb0 => (refine .inl ⟨by rfl, fun w h => ?_⟩; have F := HC.out w h.out; go_simp; (try with_reducible rfl))
      try simp only [pt]
      refine' tk (i := 1) rfl (by kernel_rfl) (fun _ _ _ h => h) ?yb1 hHeld ?zb1
      case yb1 => (refine .inl ⟨by rfl, fun w h => ?_⟩; have F := HC.out w h.out; go_simp; (try with_reducible rfl))
      try simp only [pt]
      refine' tk (i := 2) rfl (by kernel_rfl) (fun _ _ _ h => h) ?yb2 hHeld ?zb2
      case yb2 => (refine .inl ⟨by rfl, fun w h => ?_⟩; have F := HC.out w h.out; go_simp; (try with_reducible rfl))
      try simp only [pt]
      refine' tk (i := 3) rfl (by kernel_rfl) (fun _ _ _ h => h) ?yb3 hHeld ?zb3
      case yb3 => (refine .inl ⟨by rfl, fun w h => ?_⟩; have F := HC.out w h.out; go_simp; (try with_reducible rfl))
      try simp only [pt]
      refine' tk (i := 4) rfl (by kernel_rfl) (fun _ _ _ h => h) ?yb4 hHeld ?zb4
      case yb4 => (refine .inl ⟨by rfl, fun w h => ?_⟩; have F := HC.out w h.out; go_simp; (try with_reducible rfl))
      try simp only [pt]
      refine' tk (i := 5) rfl (by kernel_rfl) (fun _ _ _ h => h) ?yb5 hHeld ?zb5
      case yb5 => (refine .inl ⟨by rfl, fun w h => ?_⟩; have F := HC.out w h.out; go_simp; (try with_reducible rfl))
      try simp only [pt]
      refine' tk (i := 6) rfl (by kernel_rfl) (fun _ _ _ h => h) ?yb6 hHeld ?zb6
      case yb6 => (refine .inl ⟨by rfl, fun w h => ?_⟩; have F := HC.out w h.out; go_simp; (try with_reducible rfl))
      try simp only [pt]
      refine wpAnyH_ready (rs := [7]) (by kernel_rfl) (by simp) ?_
      refine AllReadyH.cons (o := ?oi_b7) ?hi_b7 (fun K hK => ?kk_b7) AllReadyH.nil
      case hi_b7 => (simp only [List.getElem?_toArray, List.getElem?_cons_succ, List.getElem?_cons_zero]; rfl)
      go_simp
      refine (Ikb.out _ (Lkb.out.below hHeld.out)).mono ?_
      rintro e w7 ⟨rfl, hb2⟩
      have kA7 := blk_below kAd hb2
      have xA := (blk_cell kA7 1).trans rfl
      have fA := blk_frozen kA7 1
      refine hK.out _ _ ⟨hHeld.out.trans (hb2.mono hHeld.out.size)⟩ (fun hHeld => ?_)
      clear hK K
      try simp only [pt]
      refine' tk (i := 8) rfl (by kernel_rfl) (fun _ _ _ h => h) ?yb8 hHeld ?zb8
      case yb8 => (refine .inl ⟨by rfl, fun w h => ?_⟩; have F := HC.out w h.out; go_simp; (try with_reducible rfl))
      try simp only [pt]
      refine wpAnyH_ready (rs := [9]) (by kernel_rfl) (by simp) ?_
      refine AllReadyH.cons (o := ?oi_b9) ?hi_b9 (fun K hK => ?kk_b9) AllReadyH.nil
      case hi_b9 => (simp only [List.getElem?_toArray, List.getElem?_cons_succ, List.getElem?_cons_zero]; rfl)
      go_simp
      have kA8 := blk_put kA7 1 (.int .i64 vb) rfl
      refine hK.out _ _ ⟨hHeld.out.setCell (p := ⟨gA, 1, none⟩) HGA.out (.int .i64 vb)⟩ (fun hHeld => ?_)
      clear hK K
      try simp only [pt]
      refine wpAnyH_done (by kernel_rfl) ?_ _
      go_wp2_with fail
      go_roundg (gk - 1)
      case measure => have := HI.out; omega
      case rel => exact ⟨2, by first | rfl | simp, ⟨by have := HI.out; omega⟩, ⟨hHeld.out⟩, ⟨by simpa using kA8⟩⟩
    · have kA : wr.heap[gA]? = some (.cells #[.int .i64 va, .int .i64 vb, .int .i64 0] 40 (0, 0)) := by simpa using HKA.out
      obtain ⟨⟨⟨y0, y1, y2⟩, ⟨x0, x1, x2, x3⟩⟩, z0, z1⟩ := HC.out wr HB.out
      have a0 := (blk_cell kA 0).trans rfl
      have a1 := (blk_cell kA 1).trans rfl
      have a2 := (blk_cell kA 2).trans rfl
      have BB := Lib.hid (B1.out.trans (HB.out.mono B1.out.size))
      clear HC HB HE HAR HI HGA HKA kA B1 Lka Ika Lkb Ikb HK z0 z1 y0 y1 y2
      rcases HOP.out with rfl
      all_goals go_wp2
      all_goals
        go_ret
        refine ⟨?_, BB.out⟩
        have hf := HF.out
        have hop := HOP.out
        have eka := Eka.out
        have ekb := Ekb.out
        clear HF HOP BB x0 x1 x2 x3 a0 a1 a2
        first | (simp_all [moreS, twoS, fieldsS]; done) | (simp_all [moreS, twoS, fieldsS]; omega) | (rcases hop with rfl <;> simp_all [moreS, twoS, fieldsS]; done) | (rcases hop with rfl <;> simp_all [moreS, twoS, fieldsS] <;> omega)
set_option maxHeartbeats 16000000 in
set_option maxRecDepth 100000 in
theorem rs_node2_26 (hop : op = 26) (hf : fieldsS rw rc rl op n m = true) {ka kb : Cr} {va vb : Int} (hl : Lies w (.node op n m at_ cap [ka, kb])) (ika : SortR rw rc rl ka va) (ikb : SortR rw rc rl kb vb) {s : Cr → Int} (eka : s ka = va) (ekb : s kb = vb) :
    Calls Tryd.prog 11 #[.agg #[.int .i64 rw, .int .i64 rc, .int .i64 rl], .agg #[.int .i64 op, .int .i64 n, .int .i64 m, .slice at_ 2 cap]] w fun e w' => e = .returned (.int .i64 (moreS s op n m [ka, kb])) ∧ Below w.heap.size w w' := by
  obtain ⟨p, rfl⟩ : ∃ p, at_ = some p := by
    obtain ⟨b, hb, -⟩ := hl.kids.cells (i := 0) (k := ka) rfl
    exact ⟨b, hb⟩
  obtain ⟨w1, e1, b1, k2, k3, s1⟩ := box2 w (.cells #[.int .i64 rw, .int .i64 rc, .int .i64 rl] 42) (.cells #[.int .i64 op, .int .i64 n, .int .i64 m, .slice (some p) 2 cap] 24)
  have HE := Lib.hid e1
  have B1 := Lib.hid b1
  obtain ⟨y0, y1, y2⟩ := room2_cells k2
  obtain ⟨x0, x1, x2, x3⟩ := core_cells k3
  have HK := Lib.hid (hl.below b1).kids
  simp only [Cr.at_, Cr.kids] at HK
  have HC := Lib.hid fun (w' : World) (hb : Below w1.heap.size w1 w') => (show ((w'.cell? ⟨w.heap.size, 0, none⟩ = some (.int .i64 rw) ∧ w'.cell? ⟨w.heap.size, 1, none⟩ = some (.int .i64 rc) ∧ w'.cell? ⟨w.heap.size, 2, none⟩ = some (.int .i64 rl)) ∧ (w'.cell? ⟨w.heap.size + 1, 0, none⟩ = some (.int .i64 op) ∧ w'.cell? ⟨w.heap.size + 1, 1, none⟩ = some (.int .i64 n) ∧ w'.cell? ⟨w.heap.size + 1, 2, none⟩ = some (.int .i64 m) ∧ w'.cell? ⟨w.heap.size + 1, 3, none⟩ = some (.slice (some p) 2 cap))) ∧ (w'.cell? p = some (.int .i64 ka.op) ∧ w'.cell? ⟨p.block, p.off + 1, none⟩ = some (.int .i64 ka.n) ∧ w'.cell? ⟨p.block, p.off + 2, none⟩ = some (.int .i64 ka.m) ∧ w'.cell? ⟨p.block, p.off + 3, none⟩ = some (.slice ka.at_ ka.kids.length ka.cap)) ∧ (w'.cell? ⟨p.block, p.off + 4, none⟩ = some (.int .i64 kb.op) ∧ w'.cell? ⟨p.block, p.off + 4 + 1, none⟩ = some (.int .i64 kb.n) ∧ w'.cell? ⟨p.block, p.off + 4 + 2, none⟩ = some (.int .i64 kb.m) ∧ w'.cell? ⟨p.block, p.off + 4 + 3, none⟩ = some (.slice kb.at_ kb.kids.length kb.cap)) from ⟨⟨room2_cells (blk_below k2 hb), core_cells (blk_below k3 hb)⟩, HK.out.lit0 hb rfl, HK.out.lit hb 0 rfl⟩)
  have Lka := Lib.hid (LiesL.lies HK.out (k := ka) (by simp))
  have Ika := Lib.hid ika
  have Lkb := Lib.hid (LiesL.lies HK.out (k := kb) (by simp))
  have Ikb := Lib.hid ikb
  have HAR := Lib.hid (show arityS op = 2 by rcases hop with rfl <;> rfl)
  have HF := Lib.hid hf
  have HOP := Lib.hid hop
  have Eka := Lib.hid eka
  have Ekb := Lib.hid ekb
  clear eka ekb
  clear hop hf k2 k3 e1 b1 s1 hl ika ikb
  go_enter Tryd.func11, Tryd.ntmps11
  go_wp2_with fail
  rw [HE.out]
  go_wp2_with fail
  refine (arity_calls op _).mono ?_
  rintro e w9 ⟨rfl, hw9⟩
  rw [hw9, HAR.out]
  clear hw9 w9
  go_wp2_with fail
  refine (fields_calls rw rc rl op n m (some p) 2 cap _).mono ?_
  rintro e w2 ⟨rfl, hb2⟩
  rw [HF.out]
  obtain ⟨⟨⟨y0, y1, y2⟩, ⟨x0, x1, x2, x3⟩⟩, z0, z1⟩ := HC.out w2 hb2
  go_wp2_with fail
  obtain ⟨gA, hgA⟩ : ∃ g, w2.heap.size = g := ⟨_, rfl⟩
  have HGA := Lib.hid (show w1.heap.size ≤ gA by rw [← hgA]; exact hb2.size)
  obtain ⟨wA, eA, bA, kA, sA⟩ := box1 w2 (.cells #[.int .i64 0, .int .i64 0, .int .i64 0] 40)
  rw [eA, hgA]
  rw [hgA] at kA
  have HBA := Lib.hid (hb2.trans (bA.mono hb2.size))
  have HKA := Lib.hid kA
  clear eA bA kA sA hgA hb2 y0 y1 y2 x0 x1 x2 x3 z0 z1
  go_loopg [7] 2 (fun gg v7 wr => ∃ i : Nat, v7 = .int .i64 i ∧ Aside0 (i ≤ 2 ∧ 2 - i ≤ gg) ∧ Aside0 (Below w1.heap.size w1 wr) ∧ Aside0 (wr.heap[gA]? = some (.cells #[.int .i64 (if 0 < i then va else 0), .int .i64 (if 1 < i then vb else 0), .int .i64 0] 40 (0, 0))))
  case atStart => exact ⟨0, rfl, ⟨by omega⟩, ⟨HBA.out⟩, ⟨by simpa using HKA.out⟩⟩
  case round =>
    clear HKA HBA
    obtain ⟨i, rfl, hi, BW, hKA⟩ := hrel
    have HI := Lib.hid hi.out
    have HB := Lib.hid BW.out
    have HKA := Lib.hid hKA.out
    clear hi BW hKA
    rcases (show i = 0 ∨ i = 1 ∨ i = 2 by have := HI.out; omega) with rfl | rfl | rfl
    · have kA : wr.heap[gA]? = some (.cells #[.int .i64 0, .int .i64 0, .int .i64 0] 40 (0, 0)) := by simpa using HKA.out
      have kAd : wr.drew.heap[gA]? = some (.cells #[.int .i64 0, .int .i64 0, .int .i64 0] 40 (0, 0)) := kA
      clear HKA kA
      go_wp2_with fail
      refine wp_region_held_drew (S := fun w' => Aside0 (Below w1.heap.size w1 w')) (by kernel_rfl) ?_ (fun hHeld => ?_)
      · exact ⟨HB.out.drew⟩
      generalize World.drew _ = wDa at hHeld kAd ⊢
      refine' tk (i := 0) rfl (by kernel_rfl) (fun _ _ _ h => h) ?ya0 hHeld ?za0
      case ya0 => (refine .inl ⟨by rfl, fun w h => ?_⟩; have F := HC.out w h.out; go_simp; (try with_reducible rfl))
      try simp only [pt]
      refine' tk (i := 1) rfl (by kernel_rfl) (fun _ _ _ h => h) ?ya1 hHeld ?za1
      case ya1 => (refine .inl ⟨by rfl, fun w h => ?_⟩; have F := HC.out w h.out; go_simp; (try with_reducible rfl))
      try simp only [pt]
      refine' tk (i := 2) rfl (by kernel_rfl) (fun _ _ _ h => h) ?ya2 hHeld ?za2
      case ya2 => (refine .inl ⟨by rfl, fun w h => ?_⟩; have F := HC.out w h.out; go_simp; (try with_reducible rfl))
      try simp only [pt]
      refine' tk (i := 3) rfl (by kernel_rfl) (fun _ _ _ h => h) ?ya3 hHeld ?za3
      case ya3 => (refine .inl ⟨by rfl, fun w h => ?_⟩; have F := HC.out w h.out; go_simp; (try with_reducible rfl))
      try simp only [pt]
      refine' tk (i := 4) rfl (by kernel_rfl) (fun _ _ _ h => h) ?ya4 hHeld ?za4
      case ya4 => (refine .inl ⟨by rfl, fun w h => ?_⟩; have F := HC.out w h.out; go_simp; (try with_reducible rfl))
      try simp only [pt]
      refine' tk (i := 5) rfl (by kernel_rfl) (fun _ _ _ h => h) ?ya5 hHeld ?za5
      case ya5 => (refine .inl ⟨by rfl, fun w h => ?_⟩; have F := HC.out w h.out; go_simp; (try with_reducible rfl))
      try simp only [pt]
      refine' tk (i := 6) rfl (by kernel_rfl) (fun _ _ _ h => h) ?ya6 hHeld ?za6
      case ya6 => (refine .inl ⟨by rfl, fun w h => ?_⟩; have F := HC.out w h.out; go_simp; (try with_reducible rfl))
      try simp only [pt]
      refine wpAnyH_ready (rs := [7]) (by kernel_rfl) (by simp) ?_
      refine AllReadyH.cons (o := ?oi_a7) ?hi_a7 (fun K hK => ?kk_a7) AllReadyH.nil
      case hi_a7 => (simp only [List.getElem?_toArray, List.getElem?_cons_succ, List.getElem?_cons_zero]; rfl)
      go_simp
      refine (Ika.out _ (Lka.out.below hHeld.out)).mono ?_
      rintro e w7 ⟨rfl, hb2⟩
      have kA7 := blk_below kAd hb2
      have xA := (blk_cell kA7 0).trans rfl
      have fA := blk_frozen kA7 0
      refine hK.out _ _ ⟨hHeld.out.trans (hb2.mono hHeld.out.size)⟩ (fun hHeld => ?_)
      clear hK K
      try simp only [pt]
      refine' tk (i := 8) rfl (by kernel_rfl) (fun _ _ _ h => h) ?ya8 hHeld ?za8
      case ya8 => (refine .inl ⟨by rfl, fun w h => ?_⟩; have F := HC.out w h.out; go_simp; (try with_reducible rfl))
      try simp only [pt]
      refine wpAnyH_ready (rs := [9]) (by kernel_rfl) (by simp) ?_
      refine AllReadyH.cons (o := ?oi_a9) ?hi_a9 (fun K hK => ?kk_a9) AllReadyH.nil
      case hi_a9 => (simp only [List.getElem?_toArray, List.getElem?_cons_succ, List.getElem?_cons_zero]; rfl)
      go_simp
      have kA8 := blk_put kA7 0 (.int .i64 va) rfl
      refine hK.out _ _ ⟨hHeld.out.setCell (p := ⟨gA, 0, none⟩) HGA.out (.int .i64 va)⟩ (fun hHeld => ?_)
      clear hK K
      try simp only [pt]
      refine wpAnyH_done (by kernel_rfl) ?_ _
      go_wp2_with fail
      go_roundg (gk - 1)
      case measure => have := HI.out; omega
      case rel => exact ⟨1, by first | rfl | simp, ⟨by have := HI.out; omega⟩, ⟨hHeld.out⟩, ⟨by simpa using kA8⟩⟩
    · have kA : wr.heap[gA]? = some (.cells #[.int .i64 va, .int .i64 0, .int .i64 0] 40 (0, 0)) := by simpa using HKA.out
      have kAd : wr.drew.heap[gA]? = some (.cells #[.int .i64 va, .int .i64 0, .int .i64 0] 40 (0, 0)) := kA
      clear HKA kA
      go_wp2_with fail
      refine wp_region_held_drew (S := fun w' => Aside0 (Below w1.heap.size w1 w')) (by kernel_rfl) ?_ (fun hHeld => ?_)
      · exact ⟨HB.out.drew⟩
      generalize World.drew _ = wDb at hHeld kAd ⊢
      refine' tk (i := 0) rfl (by kernel_rfl) (fun _ _ _ h => h) ?yb0 hHeld ?zb0
      case yb0 => (refine .inl ⟨by rfl, fun w h => ?_⟩; have F := HC.out w h.out; go_simp; (try with_reducible rfl))
      try simp only [pt]
      refine' tk (i := 1) rfl (by kernel_rfl) (fun _ _ _ h => h) ?yb1 hHeld ?zb1
      case yb1 => (refine .inl ⟨by rfl, fun w h => ?_⟩; have F := HC.out w h.out; go_simp; (try with_reducible rfl))
      try simp only [pt]
      refine' tk (i := 2) rfl (by kernel_rfl) (fun _ _ _ h => h) ?yb2 hHeld ?zb2
      case yb2 => (refine .inl ⟨by rfl, fun w h => ?_⟩; have F := HC.out w h.out; go_simp; (try with_reducible rfl))
      try simp only [pt]
      refine' tk (i := 3) rfl (by kernel_rfl) (fun _ _ _ h => h) ?yb3 hHeld ?zb3
      case yb3 => (refine .inl ⟨by rfl, fun w h => ?_⟩; have F := HC.out w h.out; go_simp; (try with_reducible rfl))
      try simp only [pt]
      refine' tk (i := 4) rfl (by kernel_rfl) (fun _ _ _ h => h) ?yb4 hHeld ?zb4
      case yb4 => (refine .inl ⟨by rfl, fun w h => ?_⟩; have F := HC.out w h.out; go_simp; (try with_reducible rfl))
      try simp only [pt]
      refine' tk (i := 5) rfl (by kernel_rfl) (fun _ _ _ h => h) ?yb5 hHeld ?zb5
      case yb5 => (refine .inl ⟨by rfl, fun w h => ?_⟩; have F := HC.out w h.out; go_simp; (try with_reducible rfl))
      try simp only [pt]
      refine' tk (i := 6) rfl (by kernel_rfl) (fun _ _ _ h => h) ?yb6 hHeld ?zb6
      case yb6 => (refine .inl ⟨by rfl, fun w h => ?_⟩; have F := HC.out w h.out; go_simp; (try with_reducible rfl))
      try simp only [pt]
      refine wpAnyH_ready (rs := [7]) (by kernel_rfl) (by simp) ?_
      refine AllReadyH.cons (o := ?oi_b7) ?hi_b7 (fun K hK => ?kk_b7) AllReadyH.nil
      case hi_b7 => (simp only [List.getElem?_toArray, List.getElem?_cons_succ, List.getElem?_cons_zero]; rfl)
      go_simp
      refine (Ikb.out _ (Lkb.out.below hHeld.out)).mono ?_
      rintro e w7 ⟨rfl, hb2⟩
      have kA7 := blk_below kAd hb2
      have xA := (blk_cell kA7 1).trans rfl
      have fA := blk_frozen kA7 1
      refine hK.out _ _ ⟨hHeld.out.trans (hb2.mono hHeld.out.size)⟩ (fun hHeld => ?_)
      clear hK K
      try simp only [pt]
      refine' tk (i := 8) rfl (by kernel_rfl) (fun _ _ _ h => h) ?yb8 hHeld ?zb8
      case yb8 => (refine .inl ⟨by rfl, fun w h => ?_⟩; have F := HC.out w h.out; go_simp; (try with_reducible rfl))
      try simp only [pt]
      refine wpAnyH_ready (rs := [9]) (by kernel_rfl) (by simp) ?_
      refine AllReadyH.cons (o := ?oi_b9) ?hi_b9 (fun K hK => ?kk_b9) AllReadyH.nil
      case hi_b9 => (simp only [List.getElem?_toArray, List.getElem?_cons_succ, List.getElem?_cons_zero]; rfl)
      go_simp
      have kA8 := blk_put kA7 1 (.int .i64 vb) rfl
      refine hK.out _ _ ⟨hHeld.out.setCell (p := ⟨gA, 1, none⟩) HGA.out (.int .i64 vb)⟩ (fun hHeld => ?_)
      clear hK K
      try simp only [pt]
      refine wpAnyH_done (by kernel_rfl) ?_ _
      go_wp2_with fail
      go_roundg (gk - 1)
      case measure => have := HI.out; omega
      case rel => exact ⟨2, by first | rfl | simp, ⟨by have := HI.out; omega⟩, ⟨hHeld.out⟩, ⟨by simpa using kA8⟩⟩
    · have kA : wr.heap[gA]? = some (.cells #[.int .i64 va, .int .i64 vb, .int .i64 0] 40 (0, 0)) := by simpa using HKA.out
      obtain ⟨⟨⟨y0, y1, y2⟩, ⟨x0, x1, x2, x3⟩⟩, z0, z1⟩ := HC.out wr HB.out
      have a0 := (blk_cell kA 0).trans rfl
      have a1 := (blk_cell kA 1).trans rfl
      have a2 := (blk_cell kA 2).trans rfl
      have BB := Lib.hid (B1.out.trans (HB.out.mono B1.out.size))
      clear HC HB HE HAR HI HGA HKA kA B1 Lka Ika Lkb Ikb HK z0 z1 y0 y1 y2
      rcases HOP.out with rfl
      all_goals go_wp2
      all_goals
        go_ret
        refine ⟨?_, BB.out⟩
        have hf := HF.out
        have hop := HOP.out
        have eka := Eka.out
        have ekb := Ekb.out
        clear HF HOP BB x0 x1 x2 x3 a0 a1 a2
        first | (simp_all [moreS, twoS, fieldsS]; done) | (simp_all [moreS, twoS, fieldsS]; omega) | (rcases hop with rfl <;> simp_all [moreS, twoS, fieldsS]; done) | (rcases hop with rfl <;> simp_all [moreS, twoS, fieldsS] <;> omega)
set_option maxHeartbeats 16000000 in
set_option maxRecDepth 100000 in
theorem rs_node2_27 (hop : op = 27) (hf : fieldsS rw rc rl op n m = true) {ka kb : Cr} {va vb : Int} (hl : Lies w (.node op n m at_ cap [ka, kb])) (ika : SortR rw rc rl ka va) (ikb : SortR rw rc rl kb vb) {s : Cr → Int} (eka : s ka = va) (ekb : s kb = vb) (hv : va = 0 ∨ va = 1 ∨ va = 2 ∨ va = 3) :
    Calls Tryd.prog 11 #[.agg #[.int .i64 rw, .int .i64 rc, .int .i64 rl], .agg #[.int .i64 op, .int .i64 n, .int .i64 m, .slice at_ 2 cap]] w fun e w' => e = .returned (.int .i64 (moreS s op n m [ka, kb])) ∧ Below w.heap.size w w' := by
  obtain ⟨p, rfl⟩ : ∃ p, at_ = some p := by
    obtain ⟨b, hb, -⟩ := hl.kids.cells (i := 0) (k := ka) rfl
    exact ⟨b, hb⟩
  obtain ⟨w1, e1, b1, k2, k3, s1⟩ := box2 w (.cells #[.int .i64 rw, .int .i64 rc, .int .i64 rl] 42) (.cells #[.int .i64 op, .int .i64 n, .int .i64 m, .slice (some p) 2 cap] 24)
  have HE := Lib.hid e1
  have B1 := Lib.hid b1
  obtain ⟨y0, y1, y2⟩ := room2_cells k2
  obtain ⟨x0, x1, x2, x3⟩ := core_cells k3
  have HK := Lib.hid (hl.below b1).kids
  simp only [Cr.at_, Cr.kids] at HK
  have HC := Lib.hid fun (w' : World) (hb : Below w1.heap.size w1 w') => (show ((w'.cell? ⟨w.heap.size, 0, none⟩ = some (.int .i64 rw) ∧ w'.cell? ⟨w.heap.size, 1, none⟩ = some (.int .i64 rc) ∧ w'.cell? ⟨w.heap.size, 2, none⟩ = some (.int .i64 rl)) ∧ (w'.cell? ⟨w.heap.size + 1, 0, none⟩ = some (.int .i64 op) ∧ w'.cell? ⟨w.heap.size + 1, 1, none⟩ = some (.int .i64 n) ∧ w'.cell? ⟨w.heap.size + 1, 2, none⟩ = some (.int .i64 m) ∧ w'.cell? ⟨w.heap.size + 1, 3, none⟩ = some (.slice (some p) 2 cap))) ∧ (w'.cell? p = some (.int .i64 ka.op) ∧ w'.cell? ⟨p.block, p.off + 1, none⟩ = some (.int .i64 ka.n) ∧ w'.cell? ⟨p.block, p.off + 2, none⟩ = some (.int .i64 ka.m) ∧ w'.cell? ⟨p.block, p.off + 3, none⟩ = some (.slice ka.at_ ka.kids.length ka.cap)) ∧ (w'.cell? ⟨p.block, p.off + 4, none⟩ = some (.int .i64 kb.op) ∧ w'.cell? ⟨p.block, p.off + 4 + 1, none⟩ = some (.int .i64 kb.n) ∧ w'.cell? ⟨p.block, p.off + 4 + 2, none⟩ = some (.int .i64 kb.m) ∧ w'.cell? ⟨p.block, p.off + 4 + 3, none⟩ = some (.slice kb.at_ kb.kids.length kb.cap)) from ⟨⟨room2_cells (blk_below k2 hb), core_cells (blk_below k3 hb)⟩, HK.out.lit0 hb rfl, HK.out.lit hb 0 rfl⟩)
  have Lka := Lib.hid (LiesL.lies HK.out (k := ka) (by simp))
  have Ika := Lib.hid ika
  have Lkb := Lib.hid (LiesL.lies HK.out (k := kb) (by simp))
  have Ikb := Lib.hid ikb
  have HAR := Lib.hid (show arityS op = 2 by rcases hop with rfl <;> rfl)
  have HF := Lib.hid hf
  have HOP := Lib.hid hop
  have HV := Lib.hid hv
  clear hv
  have Eka := Lib.hid eka
  have Ekb := Lib.hid ekb
  clear eka ekb
  clear hop hf k2 k3 e1 b1 s1 hl ika ikb
  go_enter Tryd.func11, Tryd.ntmps11
  go_wp2_with fail
  rw [HE.out]
  go_wp2_with fail
  refine (arity_calls op _).mono ?_
  rintro e w9 ⟨rfl, hw9⟩
  rw [hw9, HAR.out]
  clear hw9 w9
  go_wp2_with fail
  refine (fields_calls rw rc rl op n m (some p) 2 cap _).mono ?_
  rintro e w2 ⟨rfl, hb2⟩
  rw [HF.out]
  obtain ⟨⟨⟨y0, y1, y2⟩, ⟨x0, x1, x2, x3⟩⟩, z0, z1⟩ := HC.out w2 hb2
  go_wp2_with fail
  obtain ⟨gA, hgA⟩ : ∃ g, w2.heap.size = g := ⟨_, rfl⟩
  have HGA := Lib.hid (show w1.heap.size ≤ gA by rw [← hgA]; exact hb2.size)
  obtain ⟨wA, eA, bA, kA, sA⟩ := box1 w2 (.cells #[.int .i64 0, .int .i64 0, .int .i64 0] 40)
  rw [eA, hgA]
  rw [hgA] at kA
  have HBA := Lib.hid (hb2.trans (bA.mono hb2.size))
  have HKA := Lib.hid kA
  clear eA bA kA sA hgA hb2 y0 y1 y2 x0 x1 x2 x3 z0 z1
  go_loopg [7] 2 (fun gg v7 wr => ∃ i : Nat, v7 = .int .i64 i ∧ Aside0 (i ≤ 2 ∧ 2 - i ≤ gg) ∧ Aside0 (Below w1.heap.size w1 wr) ∧ Aside0 (wr.heap[gA]? = some (.cells #[.int .i64 (if 0 < i then va else 0), .int .i64 (if 1 < i then vb else 0), .int .i64 0] 40 (0, 0))))
  case atStart => exact ⟨0, rfl, ⟨by omega⟩, ⟨HBA.out⟩, ⟨by simpa using HKA.out⟩⟩
  case round =>
    clear HKA HBA
    obtain ⟨i, rfl, hi, BW, hKA⟩ := hrel
    have HI := Lib.hid hi.out
    have HB := Lib.hid BW.out
    have HKA := Lib.hid hKA.out
    clear hi BW hKA
    rcases (show i = 0 ∨ i = 1 ∨ i = 2 by have := HI.out; omega) with rfl | rfl | rfl
    · have kA : wr.heap[gA]? = some (.cells #[.int .i64 0, .int .i64 0, .int .i64 0] 40 (0, 0)) := by simpa using HKA.out
      have kAd : wr.drew.heap[gA]? = some (.cells #[.int .i64 0, .int .i64 0, .int .i64 0] 40 (0, 0)) := kA
      clear HKA kA
      go_wp2_with fail
      refine wp_region_held_drew (S := fun w' => Aside0 (Below w1.heap.size w1 w')) (by kernel_rfl) ?_ (fun hHeld => ?_)
      · exact ⟨HB.out.drew⟩
      generalize World.drew _ = wDa at hHeld kAd ⊢
      refine' tk (i := 0) rfl (by kernel_rfl) (fun _ _ _ h => h) ?ya0 hHeld ?za0
      case ya0 => (refine .inl ⟨by rfl, fun w h => ?_⟩; have F := HC.out w h.out; go_simp; (try with_reducible rfl))
      try simp only [pt]
      refine' tk (i := 1) rfl (by kernel_rfl) (fun _ _ _ h => h) ?ya1 hHeld ?za1
      case ya1 => (refine .inl ⟨by rfl, fun w h => ?_⟩; have F := HC.out w h.out; go_simp; (try with_reducible rfl))
      try simp only [pt]
      refine' tk (i := 2) rfl (by kernel_rfl) (fun _ _ _ h => h) ?ya2 hHeld ?za2
      case ya2 => (refine .inl ⟨by rfl, fun w h => ?_⟩; have F := HC.out w h.out; go_simp; (try with_reducible rfl))
      try simp only [pt]
      refine' tk (i := 3) rfl (by kernel_rfl) (fun _ _ _ h => h) ?ya3 hHeld ?za3
      case ya3 => (refine .inl ⟨by rfl, fun w h => ?_⟩; have F := HC.out w h.out; go_simp; (try with_reducible rfl))
      try simp only [pt]
      refine' tk (i := 4) rfl (by kernel_rfl) (fun _ _ _ h => h) ?ya4 hHeld ?za4
      case ya4 => (refine .inl ⟨by rfl, fun w h => ?_⟩; have F := HC.out w h.out; go_simp; (try with_reducible rfl))
      try simp only [pt]
      refine' tk (i := 5) rfl (by kernel_rfl) (fun _ _ _ h => h) ?ya5 hHeld ?za5
      case ya5 => (refine .inl ⟨by rfl, fun w h => ?_⟩; have F := HC.out w h.out; go_simp; (try with_reducible rfl))
      try simp only [pt]
      refine' tk (i := 6) rfl (by kernel_rfl) (fun _ _ _ h => h) ?ya6 hHeld ?za6
      case ya6 => (refine .inl ⟨by rfl, fun w h => ?_⟩; have F := HC.out w h.out; go_simp; (try with_reducible rfl))
      try simp only [pt]
      refine wpAnyH_ready (rs := [7]) (by kernel_rfl) (by simp) ?_
      refine AllReadyH.cons (o := ?oi_a7) ?hi_a7 (fun K hK => ?kk_a7) AllReadyH.nil
      case hi_a7 => (simp only [List.getElem?_toArray, List.getElem?_cons_succ, List.getElem?_cons_zero]; rfl)
      go_simp
      refine (Ika.out _ (Lka.out.below hHeld.out)).mono ?_
      rintro e w7 ⟨rfl, hb2⟩
      have kA7 := blk_below kAd hb2
      have xA := (blk_cell kA7 0).trans rfl
      have fA := blk_frozen kA7 0
      refine hK.out _ _ ⟨hHeld.out.trans (hb2.mono hHeld.out.size)⟩ (fun hHeld => ?_)
      clear hK K
      try simp only [pt]
      refine' tk (i := 8) rfl (by kernel_rfl) (fun _ _ _ h => h) ?ya8 hHeld ?za8
      case ya8 => (refine .inl ⟨by rfl, fun w h => ?_⟩; have F := HC.out w h.out; go_simp; (try with_reducible rfl))
      try simp only [pt]
      refine wpAnyH_ready (rs := [9]) (by kernel_rfl) (by simp) ?_
      refine AllReadyH.cons (o := ?oi_a9) ?hi_a9 (fun K hK => ?kk_a9) AllReadyH.nil
      case hi_a9 => (simp only [List.getElem?_toArray, List.getElem?_cons_succ, List.getElem?_cons_zero]; rfl)
      go_simp
      have kA8 := blk_put kA7 0 (.int .i64 va) rfl
      refine hK.out _ _ ⟨hHeld.out.setCell (p := ⟨gA, 0, none⟩) HGA.out (.int .i64 va)⟩ (fun hHeld => ?_)
      clear hK K
      try simp only [pt]
      refine wpAnyH_done (by kernel_rfl) ?_ _
      go_wp2_with fail
      go_roundg (gk - 1)
      case measure => have := HI.out; omega
      case rel => exact ⟨1, by first | rfl | simp, ⟨by have := HI.out; omega⟩, ⟨hHeld.out⟩, ⟨by simpa using kA8⟩⟩
    · have kA : wr.heap[gA]? = some (.cells #[.int .i64 va, .int .i64 0, .int .i64 0] 40 (0, 0)) := by simpa using HKA.out
      have kAd : wr.drew.heap[gA]? = some (.cells #[.int .i64 va, .int .i64 0, .int .i64 0] 40 (0, 0)) := kA
      clear HKA kA
      go_wp2_with fail
      refine wp_region_held_drew (S := fun w' => Aside0 (Below w1.heap.size w1 w')) (by kernel_rfl) ?_ (fun hHeld => ?_)
      · exact ⟨HB.out.drew⟩
      generalize World.drew _ = wDb at hHeld kAd ⊢
      refine' tk (i := 0) rfl (by kernel_rfl) (fun _ _ _ h => h) ?yb0 hHeld ?zb0
      case yb0 => (refine .inl ⟨by rfl, fun w h => ?_⟩; have F := HC.out w h.out; go_simp; (try with_reducible rfl))
      try simp only [pt]
      refine' tk (i := 1) rfl (by kernel_rfl) (fun _ _ _ h => h) ?yb1 hHeld ?zb1
      case yb1 => (refine .inl ⟨by rfl, fun w h => ?_⟩; have F := HC.out w h.out; go_simp; (try with_reducible rfl))
      try simp only [pt]
      refine' tk (i := 2) rfl (by kernel_rfl) (fun _ _ _ h => h) ?yb2 hHeld ?zb2
      case yb2 => (refine .inl ⟨by rfl, fun w h => ?_⟩; have F := HC.out w h.out; go_simp; (try with_reducible rfl))
      try simp only [pt]
      refine' tk (i := 3) rfl (by kernel_rfl) (fun _ _ _ h => h) ?yb3 hHeld ?zb3
      case yb3 => (refine .inl ⟨by rfl, fun w h => ?_⟩; have F := HC.out w h.out; go_simp; (try with_reducible rfl))
      try simp only [pt]
      refine' tk (i := 4) rfl (by kernel_rfl) (fun _ _ _ h => h) ?yb4 hHeld ?zb4
      case yb4 => (refine .inl ⟨by rfl, fun w h => ?_⟩; have F := HC.out w h.out; go_simp; (try with_reducible rfl))
      try simp only [pt]
      refine' tk (i := 5) rfl (by kernel_rfl) (fun _ _ _ h => h) ?yb5 hHeld ?zb5
      case yb5 => (refine .inl ⟨by rfl, fun w h => ?_⟩; have F := HC.out w h.out; go_simp; (try with_reducible rfl))
      try simp only [pt]
      refine' tk (i := 6) rfl (by kernel_rfl) (fun _ _ _ h => h) ?yb6 hHeld ?zb6
      case yb6 => (refine .inl ⟨by rfl, fun w h => ?_⟩; have F := HC.out w h.out; go_simp; (try with_reducible rfl))
      try simp only [pt]
      refine wpAnyH_ready (rs := [7]) (by kernel_rfl) (by simp) ?_
      refine AllReadyH.cons (o := ?oi_b7) ?hi_b7 (fun K hK => ?kk_b7) AllReadyH.nil
      case hi_b7 => (simp only [List.getElem?_toArray, List.getElem?_cons_succ, List.getElem?_cons_zero]; rfl)
      go_simp
      refine (Ikb.out _ (Lkb.out.below hHeld.out)).mono ?_
      rintro e w7 ⟨rfl, hb2⟩
      have kA7 := blk_below kAd hb2
      have xA := (blk_cell kA7 1).trans rfl
      have fA := blk_frozen kA7 1
      refine hK.out _ _ ⟨hHeld.out.trans (hb2.mono hHeld.out.size)⟩ (fun hHeld => ?_)
      clear hK K
      try simp only [pt]
      refine' tk (i := 8) rfl (by kernel_rfl) (fun _ _ _ h => h) ?yb8 hHeld ?zb8
      case yb8 => (refine .inl ⟨by rfl, fun w h => ?_⟩; have F := HC.out w h.out; go_simp; (try with_reducible rfl))
      try simp only [pt]
      refine wpAnyH_ready (rs := [9]) (by kernel_rfl) (by simp) ?_
      refine AllReadyH.cons (o := ?oi_b9) ?hi_b9 (fun K hK => ?kk_b9) AllReadyH.nil
      case hi_b9 => (simp only [List.getElem?_toArray, List.getElem?_cons_succ, List.getElem?_cons_zero]; rfl)
      go_simp
      have kA8 := blk_put kA7 1 (.int .i64 vb) rfl
      refine hK.out _ _ ⟨hHeld.out.setCell (p := ⟨gA, 1, none⟩) HGA.out (.int .i64 vb)⟩ (fun hHeld => ?_)
      clear hK K
      try simp only [pt]
      refine wpAnyH_done (by kernel_rfl) ?_ _
      go_wp2_with fail
      go_roundg (gk - 1)
      case measure => have := HI.out; omega
      case rel => exact ⟨2, by first | rfl | simp, ⟨by have := HI.out; omega⟩, ⟨hHeld.out⟩, ⟨by simpa using kA8⟩⟩
    · have kA : wr.heap[gA]? = some (.cells #[.int .i64 va, .int .i64 vb, .int .i64 0] 40 (0, 0)) := by simpa using HKA.out
      obtain ⟨⟨⟨y0, y1, y2⟩, ⟨x0, x1, x2, x3⟩⟩, z0, z1⟩ := HC.out wr HB.out
      have a0 := (blk_cell kA 0).trans rfl
      have a1 := (blk_cell kA 1).trans rfl
      have a2 := (blk_cell kA 2).trans rfl
      have BB := Lib.hid (B1.out.trans (HB.out.mono B1.out.size))
      clear HC HB HE HAR HI HGA HKA kA B1 Lka Ika Lkb Ikb HK z0 z1 y0 y1 y2
      rcases HOP.out with rfl
      all_goals go_wp2
      all_goals
        go_ret
        refine ⟨?_, BB.out⟩
        have hf := HF.out
        have hop := HOP.out
        have hv := HV.out
        clear HV
        have eka := Eka.out
        have ekb := Ekb.out
        clear HF HOP BB x0 x1 x2 x3 a0 a1 a2
        first | (simp_all [moreS, twoS, fieldsS]; done) | (simp_all [moreS, twoS, fieldsS]; omega) | (rcases hop with rfl <;> rcases hv with rfl | rfl | rfl | rfl <;> simp_all [moreS, twoS, fieldsS]; done) | (rcases hop with rfl <;> rcases hv with rfl | rfl | rfl | rfl <;> simp_all [moreS, twoS, fieldsS] <;> omega)
set_option maxHeartbeats 16000000 in
set_option maxRecDepth 100000 in
theorem rs_node3 (hop : op = 28) (hf : fieldsS rw rc rl op n m = true) {ka kb kc : Cr} {va vb vc : Int} (hl : Lies w (.node op n m at_ cap [ka, kb, kc])) (ika : SortR rw rc rl ka va) (ikb : SortR rw rc rl kb vb) (ikc : SortR rw rc rl kc vc) {s : Cr → Int} (eka : s ka = va) (ekb : s kb = vb) (ekc : s kc = vc) :
    Calls Tryd.prog 11 #[.agg #[.int .i64 rw, .int .i64 rc, .int .i64 rl], .agg #[.int .i64 op, .int .i64 n, .int .i64 m, .slice at_ 3 cap]] w fun e w' => e = .returned (.int .i64 (moreS s op n m [ka, kb, kc])) ∧ Below w.heap.size w w' := by
  obtain ⟨p, rfl⟩ : ∃ p, at_ = some p := by
    obtain ⟨b, hb, -⟩ := hl.kids.cells (i := 0) (k := ka) rfl
    exact ⟨b, hb⟩
  obtain ⟨w1, e1, b1, k2, k3, s1⟩ := box2 w (.cells #[.int .i64 rw, .int .i64 rc, .int .i64 rl] 42) (.cells #[.int .i64 op, .int .i64 n, .int .i64 m, .slice (some p) 3 cap] 24)
  have HE := Lib.hid e1
  have B1 := Lib.hid b1
  obtain ⟨y0, y1, y2⟩ := room2_cells k2
  obtain ⟨x0, x1, x2, x3⟩ := core_cells k3
  have HK := Lib.hid (hl.below b1).kids
  simp only [Cr.at_, Cr.kids] at HK
  have HC := Lib.hid fun (w' : World) (hb : Below w1.heap.size w1 w') => (show ((w'.cell? ⟨w.heap.size, 0, none⟩ = some (.int .i64 rw) ∧ w'.cell? ⟨w.heap.size, 1, none⟩ = some (.int .i64 rc) ∧ w'.cell? ⟨w.heap.size, 2, none⟩ = some (.int .i64 rl)) ∧ (w'.cell? ⟨w.heap.size + 1, 0, none⟩ = some (.int .i64 op) ∧ w'.cell? ⟨w.heap.size + 1, 1, none⟩ = some (.int .i64 n) ∧ w'.cell? ⟨w.heap.size + 1, 2, none⟩ = some (.int .i64 m) ∧ w'.cell? ⟨w.heap.size + 1, 3, none⟩ = some (.slice (some p) 3 cap))) ∧ (w'.cell? p = some (.int .i64 ka.op) ∧ w'.cell? ⟨p.block, p.off + 1, none⟩ = some (.int .i64 ka.n) ∧ w'.cell? ⟨p.block, p.off + 2, none⟩ = some (.int .i64 ka.m) ∧ w'.cell? ⟨p.block, p.off + 3, none⟩ = some (.slice ka.at_ ka.kids.length ka.cap)) ∧ (w'.cell? ⟨p.block, p.off + 4, none⟩ = some (.int .i64 kb.op) ∧ w'.cell? ⟨p.block, p.off + 4 + 1, none⟩ = some (.int .i64 kb.n) ∧ w'.cell? ⟨p.block, p.off + 4 + 2, none⟩ = some (.int .i64 kb.m) ∧ w'.cell? ⟨p.block, p.off + 4 + 3, none⟩ = some (.slice kb.at_ kb.kids.length kb.cap)) ∧ (w'.cell? ⟨p.block, p.off + 8, none⟩ = some (.int .i64 kc.op) ∧ w'.cell? ⟨p.block, p.off + 8 + 1, none⟩ = some (.int .i64 kc.n) ∧ w'.cell? ⟨p.block, p.off + 8 + 2, none⟩ = some (.int .i64 kc.m) ∧ w'.cell? ⟨p.block, p.off + 8 + 3, none⟩ = some (.slice kc.at_ kc.kids.length kc.cap)) from ⟨⟨room2_cells (blk_below k2 hb), core_cells (blk_below k3 hb)⟩, HK.out.lit0 hb rfl, HK.out.lit hb 0 rfl, HK.out.lit hb 1 rfl⟩)
  have Lka := Lib.hid (LiesL.lies HK.out (k := ka) (by simp))
  have Ika := Lib.hid ika
  have Lkb := Lib.hid (LiesL.lies HK.out (k := kb) (by simp))
  have Ikb := Lib.hid ikb
  have Lkc := Lib.hid (LiesL.lies HK.out (k := kc) (by simp))
  have Ikc := Lib.hid ikc
  have HAR := Lib.hid (show arityS op = 3 by rcases hop with rfl <;> rfl)
  have HF := Lib.hid hf
  have HOP := Lib.hid hop
  have Eka := Lib.hid eka
  have Ekb := Lib.hid ekb
  have Ekc := Lib.hid ekc
  clear eka ekb ekc
  clear hop hf k2 k3 e1 b1 s1 hl ika ikb ikc
  go_enter Tryd.func11, Tryd.ntmps11
  go_wp2_with fail
  rw [HE.out]
  go_wp2_with fail
  refine (arity_calls op _).mono ?_
  rintro e w9 ⟨rfl, hw9⟩
  rw [hw9, HAR.out]
  clear hw9 w9
  go_wp2_with fail
  refine (fields_calls rw rc rl op n m (some p) 3 cap _).mono ?_
  rintro e w2 ⟨rfl, hb2⟩
  rw [HF.out]
  obtain ⟨⟨⟨y0, y1, y2⟩, ⟨x0, x1, x2, x3⟩⟩, z0, z1, z2⟩ := HC.out w2 hb2
  go_wp2_with fail
  obtain ⟨gA, hgA⟩ : ∃ g, w2.heap.size = g := ⟨_, rfl⟩
  have HGA := Lib.hid (show w1.heap.size ≤ gA by rw [← hgA]; exact hb2.size)
  obtain ⟨wA, eA, bA, kA, sA⟩ := box1 w2 (.cells #[.int .i64 0, .int .i64 0, .int .i64 0] 40)
  rw [eA, hgA]
  rw [hgA] at kA
  have HBA := Lib.hid (hb2.trans (bA.mono hb2.size))
  have HKA := Lib.hid kA
  clear eA bA kA sA hgA hb2 y0 y1 y2 x0 x1 x2 x3 z0 z1 z2
  go_loopg [7] 3 (fun gg v7 wr => ∃ i : Nat, v7 = .int .i64 i ∧ Aside0 (i ≤ 3 ∧ 3 - i ≤ gg) ∧ Aside0 (Below w1.heap.size w1 wr) ∧ Aside0 (wr.heap[gA]? = some (.cells #[.int .i64 (if 0 < i then va else 0), .int .i64 (if 1 < i then vb else 0), .int .i64 (if 2 < i then vc else 0)] 40 (0, 0))))
  case atStart => exact ⟨0, rfl, ⟨by omega⟩, ⟨HBA.out⟩, ⟨by simpa using HKA.out⟩⟩
  case round =>
    clear HKA HBA
    obtain ⟨i, rfl, hi, BW, hKA⟩ := hrel
    have HI := Lib.hid hi.out
    have HB := Lib.hid BW.out
    have HKA := Lib.hid hKA.out
    clear hi BW hKA
    rcases (show i = 0 ∨ i = 1 ∨ i = 2 ∨ i = 3 by have := HI.out; omega) with rfl | rfl | rfl | rfl
    · have kA : wr.heap[gA]? = some (.cells #[.int .i64 0, .int .i64 0, .int .i64 0] 40 (0, 0)) := by simpa using HKA.out
      have kAd : wr.drew.heap[gA]? = some (.cells #[.int .i64 0, .int .i64 0, .int .i64 0] 40 (0, 0)) := kA
      clear HKA kA
      go_wp2_with fail
      refine wp_region_held_drew (S := fun w' => Aside0 (Below w1.heap.size w1 w')) (by kernel_rfl) ?_ (fun hHeld => ?_)
      · exact ⟨HB.out.drew⟩
      generalize World.drew _ = wDa at hHeld kAd ⊢
      refine' tk (i := 0) rfl (by kernel_rfl) (fun _ _ _ h => h) ?ya0 hHeld ?za0
      case ya0 => (refine .inl ⟨by rfl, fun w h => ?_⟩; have F := HC.out w h.out; go_simp; (try with_reducible rfl))
      try simp only [pt]
      refine' tk (i := 1) rfl (by kernel_rfl) (fun _ _ _ h => h) ?ya1 hHeld ?za1
      case ya1 => (refine .inl ⟨by rfl, fun w h => ?_⟩; have F := HC.out w h.out; go_simp; (try with_reducible rfl))
      try simp only [pt]
      refine' tk (i := 2) rfl (by kernel_rfl) (fun _ _ _ h => h) ?ya2 hHeld ?za2
      case ya2 => (refine .inl ⟨by rfl, fun w h => ?_⟩; have F := HC.out w h.out; go_simp; (try with_reducible rfl))
      try simp only [pt]
      refine' tk (i := 3) rfl (by kernel_rfl) (fun _ _ _ h => h) ?ya3 hHeld ?za3
      case ya3 => (refine .inl ⟨by rfl, fun w h => ?_⟩; have F := HC.out w h.out; go_simp; (try with_reducible rfl))
      try simp only [pt]
      refine' tk (i := 4) rfl (by kernel_rfl) (fun _ _ _ h => h) ?ya4 hHeld ?za4
      case ya4 => (refine .inl ⟨by rfl, fun w h => ?_⟩; have F := HC.out w h.out; go_simp; (try with_reducible rfl))
      try simp only [pt]
      refine' tk (i := 5) rfl (by kernel_rfl) (fun _ _ _ h => h) ?ya5 hHeld ?za5
      case ya5 => (refine .inl ⟨by rfl, fun w h => ?_⟩; have F := HC.out w h.out; go_simp; (try with_reducible rfl))
      try simp only [pt]
      refine' tk (i := 6) rfl (by kernel_rfl) (fun _ _ _ h => h) ?ya6 hHeld ?za6
      case ya6 => (refine .inl ⟨by rfl, fun w h => ?_⟩; have F := HC.out w h.out; go_simp; (try with_reducible rfl))
      try simp only [pt]
      refine wpAnyH_ready (rs := [7]) (by kernel_rfl) (by simp) ?_
      refine AllReadyH.cons (o := ?oi_a7) ?hi_a7 (fun K hK => ?kk_a7) AllReadyH.nil
      case hi_a7 => (simp only [List.getElem?_toArray, List.getElem?_cons_succ, List.getElem?_cons_zero]; rfl)
      go_simp
      refine (Ika.out _ (Lka.out.below hHeld.out)).mono ?_
      rintro e w7 ⟨rfl, hb2⟩
      have kA7 := blk_below kAd hb2
      have xA := (blk_cell kA7 0).trans rfl
      have fA := blk_frozen kA7 0
      refine hK.out _ _ ⟨hHeld.out.trans (hb2.mono hHeld.out.size)⟩ (fun hHeld => ?_)
      clear hK K
      try simp only [pt]
      refine' tk (i := 8) rfl (by kernel_rfl) (fun _ _ _ h => h) ?ya8 hHeld ?za8
      case ya8 => (refine .inl ⟨by rfl, fun w h => ?_⟩; have F := HC.out w h.out; go_simp; (try with_reducible rfl))
      try simp only [pt]
      refine wpAnyH_ready (rs := [9]) (by kernel_rfl) (by simp) ?_
      refine AllReadyH.cons (o := ?oi_a9) ?hi_a9 (fun K hK => ?kk_a9) AllReadyH.nil
      case hi_a9 => (simp only [List.getElem?_toArray, List.getElem?_cons_succ, List.getElem?_cons_zero]; rfl)
      go_simp
      have kA8 := blk_put kA7 0 (.int .i64 va) rfl
      refine hK.out _ _ ⟨hHeld.out.setCell (p := ⟨gA, 0, none⟩) HGA.out (.int .i64 va)⟩ (fun hHeld => ?_)
      clear hK K
      try simp only [pt]
      refine wpAnyH_done (by kernel_rfl) ?_ _
      go_wp2_with fail
      go_roundg (gk - 1)
      case measure => have := HI.out; omega
      case rel => exact ⟨1, by first | rfl | simp, ⟨by have := HI.out; omega⟩, ⟨hHeld.out⟩, ⟨by simpa using kA8⟩⟩
    · have kA : wr.heap[gA]? = some (.cells #[.int .i64 va, .int .i64 0, .int .i64 0] 40 (0, 0)) := by simpa using HKA.out
      have kAd : wr.drew.heap[gA]? = some (.cells #[.int .i64 va, .int .i64 0, .int .i64 0] 40 (0, 0)) := kA
      clear HKA kA
      go_wp2_with fail
      refine wp_region_held_drew (S := fun w' => Aside0 (Below w1.heap.size w1 w')) (by kernel_rfl) ?_ (fun hHeld => ?_)
      · exact ⟨HB.out.drew⟩
      generalize World.drew _ = wDb at hHeld kAd ⊢
      refine' tk (i := 0) rfl (by kernel_rfl) (fun _ _ _ h => h) ?yb0 hHeld ?zb0
      case yb0 => (refine .inl ⟨by rfl, fun w h => ?_⟩; have F := HC.out w h.out; go_simp; (try with_reducible rfl))
      try simp only [pt]
      refine' tk (i := 1) rfl (by kernel_rfl) (fun _ _ _ h => h) ?yb1 hHeld ?zb1
      case yb1 => (refine .inl ⟨by rfl, fun w h => ?_⟩; have F := HC.out w h.out; go_simp; (try with_reducible rfl))
      try simp only [pt]
      refine' tk (i := 2) rfl (by kernel_rfl) (fun _ _ _ h => h) ?yb2 hHeld ?zb2
      case yb2 => (refine .inl ⟨by rfl, fun w h => ?_⟩; have F := HC.out w h.out; go_simp; (try with_reducible rfl))
      try simp only [pt]
      refine' tk (i := 3) rfl (by kernel_rfl) (fun _ _ _ h => h) ?yb3 hHeld ?zb3
      case yb3 => (refine .inl ⟨by rfl, fun w h => ?_⟩; have F := HC.out w h.out; go_simp; (try with_reducible rfl))
      try simp only [pt]
      refine' tk (i := 4) rfl (by kernel_rfl) (fun _ _ _ h => h) ?yb4 hHeld ?zb4
      case yb4 => (refine .inl ⟨by rfl, fun w h => ?_⟩; have F := HC.out w h.out; go_simp; (try with_reducible rfl))
      try simp only [pt]
      refine' tk (i := 5) rfl (by kernel_rfl) (fun _ _ _ h => h) ?yb5 hHeld ?zb5
      case yb5 => (refine .inl ⟨by rfl, fun w h => ?_⟩; have F := HC.out w h.out; go_simp; (try with_reducible rfl))
      try simp only [pt]
      refine' tk (i := 6) rfl (by kernel_rfl) (fun _ _ _ h => h) ?yb6 hHeld ?zb6
      case yb6 => (refine .inl ⟨by rfl, fun w h => ?_⟩; have F := HC.out w h.out; go_simp; (try with_reducible rfl))
      try simp only [pt]
      refine wpAnyH_ready (rs := [7]) (by kernel_rfl) (by simp) ?_
      refine AllReadyH.cons (o := ?oi_b7) ?hi_b7 (fun K hK => ?kk_b7) AllReadyH.nil
      case hi_b7 => (simp only [List.getElem?_toArray, List.getElem?_cons_succ, List.getElem?_cons_zero]; rfl)
      go_simp
      refine (Ikb.out _ (Lkb.out.below hHeld.out)).mono ?_
      rintro e w7 ⟨rfl, hb2⟩
      have kA7 := blk_below kAd hb2
      have xA := (blk_cell kA7 1).trans rfl
      have fA := blk_frozen kA7 1
      refine hK.out _ _ ⟨hHeld.out.trans (hb2.mono hHeld.out.size)⟩ (fun hHeld => ?_)
      clear hK K
      try simp only [pt]
      refine' tk (i := 8) rfl (by kernel_rfl) (fun _ _ _ h => h) ?yb8 hHeld ?zb8
      case yb8 => (refine .inl ⟨by rfl, fun w h => ?_⟩; have F := HC.out w h.out; go_simp; (try with_reducible rfl))
      try simp only [pt]
      refine wpAnyH_ready (rs := [9]) (by kernel_rfl) (by simp) ?_
      refine AllReadyH.cons (o := ?oi_b9) ?hi_b9 (fun K hK => ?kk_b9) AllReadyH.nil
      case hi_b9 => (simp only [List.getElem?_toArray, List.getElem?_cons_succ, List.getElem?_cons_zero]; rfl)
      go_simp
      have kA8 := blk_put kA7 1 (.int .i64 vb) rfl
      refine hK.out _ _ ⟨hHeld.out.setCell (p := ⟨gA, 1, none⟩) HGA.out (.int .i64 vb)⟩ (fun hHeld => ?_)
      clear hK K
      try simp only [pt]
      refine wpAnyH_done (by kernel_rfl) ?_ _
      go_wp2_with fail
      go_roundg (gk - 1)
      case measure => have := HI.out; omega
      case rel => exact ⟨2, by first | rfl | simp, ⟨by have := HI.out; omega⟩, ⟨hHeld.out⟩, ⟨by simpa using kA8⟩⟩
    · have kA : wr.heap[gA]? = some (.cells #[.int .i64 va, .int .i64 vb, .int .i64 0] 40 (0, 0)) := by simpa using HKA.out
      have kAd : wr.drew.heap[gA]? = some (.cells #[.int .i64 va, .int .i64 vb, .int .i64 0] 40 (0, 0)) := kA
      clear HKA kA
      go_wp2_with fail
      refine wp_region_held_drew (S := fun w' => Aside0 (Below w1.heap.size w1 w')) (by kernel_rfl) ?_ (fun hHeld => ?_)
      · exact ⟨HB.out.drew⟩
      generalize World.drew _ = wDc at hHeld kAd ⊢
      refine' tk (i := 0) rfl (by kernel_rfl) (fun _ _ _ h => h) ?yc0 hHeld ?zc0
      case yc0 => (refine .inl ⟨by rfl, fun w h => ?_⟩; have F := HC.out w h.out; go_simp; (try with_reducible rfl))
      try simp only [pt]
      refine' tk (i := 1) rfl (by kernel_rfl) (fun _ _ _ h => h) ?yc1 hHeld ?zc1
      case yc1 => (refine .inl ⟨by rfl, fun w h => ?_⟩; have F := HC.out w h.out; go_simp; (try with_reducible rfl))
      try simp only [pt]
      refine' tk (i := 2) rfl (by kernel_rfl) (fun _ _ _ h => h) ?yc2 hHeld ?zc2
      case yc2 => (refine .inl ⟨by rfl, fun w h => ?_⟩; have F := HC.out w h.out; go_simp; (try with_reducible rfl))
      try simp only [pt]
      refine' tk (i := 3) rfl (by kernel_rfl) (fun _ _ _ h => h) ?yc3 hHeld ?zc3
      case yc3 => (refine .inl ⟨by rfl, fun w h => ?_⟩; have F := HC.out w h.out; go_simp; (try with_reducible rfl))
      try simp only [pt]
      refine' tk (i := 4) rfl (by kernel_rfl) (fun _ _ _ h => h) ?yc4 hHeld ?zc4
      case yc4 => (refine .inl ⟨by rfl, fun w h => ?_⟩; have F := HC.out w h.out; go_simp; (try with_reducible rfl))
      try simp only [pt]
      refine' tk (i := 5) rfl (by kernel_rfl) (fun _ _ _ h => h) ?yc5 hHeld ?zc5
      case yc5 => (refine .inl ⟨by rfl, fun w h => ?_⟩; have F := HC.out w h.out; go_simp; (try with_reducible rfl))
      try simp only [pt]
      refine' tk (i := 6) rfl (by kernel_rfl) (fun _ _ _ h => h) ?yc6 hHeld ?zc6
      case yc6 => (refine .inl ⟨by rfl, fun w h => ?_⟩; have F := HC.out w h.out; go_simp; (try with_reducible rfl))
      try simp only [pt]
      refine wpAnyH_ready (rs := [7]) (by kernel_rfl) (by simp) ?_
      refine AllReadyH.cons (o := ?oi_c7) ?hi_c7 (fun K hK => ?kk_c7) AllReadyH.nil
      case hi_c7 => (simp only [List.getElem?_toArray, List.getElem?_cons_succ, List.getElem?_cons_zero]; rfl)
      go_simp
      refine (Ikc.out _ (Lkc.out.below hHeld.out)).mono ?_
      rintro e w7 ⟨rfl, hb2⟩
      have kA7 := blk_below kAd hb2
      have xA := (blk_cell kA7 2).trans rfl
      have fA := blk_frozen kA7 2
      refine hK.out _ _ ⟨hHeld.out.trans (hb2.mono hHeld.out.size)⟩ (fun hHeld => ?_)
      clear hK K
      try simp only [pt]
      refine' tk (i := 8) rfl (by kernel_rfl) (fun _ _ _ h => h) ?yc8 hHeld ?zc8
      case yc8 => (refine .inl ⟨by rfl, fun w h => ?_⟩; have F := HC.out w h.out; go_simp; (try with_reducible rfl))
      try simp only [pt]
      refine wpAnyH_ready (rs := [9]) (by kernel_rfl) (by simp) ?_
      refine AllReadyH.cons (o := ?oi_c9) ?hi_c9 (fun K hK => ?kk_c9) AllReadyH.nil
      case hi_c9 => (simp only [List.getElem?_toArray, List.getElem?_cons_succ, List.getElem?_cons_zero]; rfl)
      go_simp
      have kA8 := blk_put kA7 2 (.int .i64 vc) rfl
      refine hK.out _ _ ⟨hHeld.out.setCell (p := ⟨gA, 2, none⟩) HGA.out (.int .i64 vc)⟩ (fun hHeld => ?_)
      clear hK K
      try simp only [pt]
      refine wpAnyH_done (by kernel_rfl) ?_ _
      go_wp2_with fail
      go_roundg (gk - 1)
      case measure => have := HI.out; omega
      case rel => exact ⟨3, by first | rfl | simp, ⟨by have := HI.out; omega⟩, ⟨hHeld.out⟩, ⟨by simpa using kA8⟩⟩
    · have kA : wr.heap[gA]? = some (.cells #[.int .i64 va, .int .i64 vb, .int .i64 vc] 40 (0, 0)) := by simpa using HKA.out
      obtain ⟨⟨⟨y0, y1, y2⟩, ⟨x0, x1, x2, x3⟩⟩, z0, z1, z2⟩ := HC.out wr HB.out
      have a0 := (blk_cell kA 0).trans rfl
      have a1 := (blk_cell kA 1).trans rfl
      have a2 := (blk_cell kA 2).trans rfl
      have BB := Lib.hid (B1.out.trans (HB.out.mono B1.out.size))
      clear HC HB HE HAR HI HGA HKA kA B1 Lka Ika Lkb Ikb Lkc Ikc HK z0 z1 z2 y0 y1 y2
      rcases HOP.out with rfl
      all_goals go_wp2
      all_goals
        go_ret
        refine ⟨?_, BB.out⟩
        have hf := HF.out
        have hop := HOP.out
        have eka := Eka.out
        have ekb := Ekb.out
        have ekc := Ekc.out
        clear HF HOP BB x0 x1 x2 x3 a0 a1 a2
        first | (simp_all [moreS, ifS, fieldsS]; done) | (simp_all [moreS, ifS, fieldsS]; omega) | (rcases hop with rfl <;> simp_all [moreS, ifS, fieldsS]; done) | (rcases hop with rfl <;> simp_all [moreS, ifS, fieldsS] <;> omega)
end
end Go.Proofs.YtpljkcakijkklaaDoor

end
section
namespace Go.Proofs.YtpljkcakijkklaaDoor
set_option linter.unusedVariables false
set_option linter.unusedSimpArgs false
open Go.RowKit Go.Proofs.YtpljkcakijkklaaDoorW.PrintWords Go.Proofs.YtpljkcakijkklaaDoorW.PrintLast Go.Proofs.YtpljkcakijkklaaDoorW.PrintMore

theorem ar_m2 {op : Int} (h : arityS op = -2) : op < 1 ∨ 32 < op := by
  unfold arityS at h
  repeat' split at h
  all_goals first | (exfalso; omega) | omega
theorem ar_n0 {op : Int} (h : ¬ arityS op = 0) : ¬ (1 ≤ op ∧ op ≤ 6 ∨ op = 29) := by
  intro h1
  apply h
  unfold arityS
  rw [if_pos h1]
theorem ar_n1 {op : Int} (h : ¬ arityS op = 1) : ¬ (7 ≤ op ∧ op ≤ 13 ∨ op = 30 ∨ op = 31) := by
  intro h1
  apply h
  unfold arityS
  rw [if_neg (by omega), if_pos h1]
theorem ar_n2 {op : Int} (h : ¬ arityS op = 2) : ¬ (14 ≤ op ∧ op ≤ 27) := by
  intro h1
  apply h
  unfold arityS
  rw [if_neg (by omega), if_neg (by omega), if_pos h1]
theorem fields_00 {rw rc rl op : Int} (h : fieldsS rw rc rl op 0 0 = false) : op = 4 ∨ op = 5 ∨ op = 6 ∨ op = 7 ∨ op = 13 := by
  unfold fieldsS at h
  repeat' split at h
  all_goals first | omega | (simp at h)
theorem ite_in {c : Prop} [Decidable c] {a b : Int} {P : Int → Prop} (ha : c → P a) (hb : ¬ c → P b) : P (if c then a else b) := by
  split
  · exact ha ‹_›
  · exact hb ‹_›
/-- What it says that the fields are not as they must be. -/
theorem fields_lin {rw rc rl op n m : Int} (h : fieldsS rw rc rl op n m = false) :
    (op = 1 ∧ ¬ m = 0) ∨ (op = 2 ∧ ¬ ((n = 0 ∨ n = 1) ∧ m = 0)) ∨ (op = 4 ∧ ¬ (0 ≤ n ∧ n < rw ∧ m = 0)) ∨ (op = 5 ∧ ¬ (0 ≤ n ∧ n < rc ∧ m = 0)) ∨ (op = 7 ∧ ¬ (0 ≤ n ∧ n < rl ∧ m = 0)) ∨
    (op = 6 ∧ ¬ (1 ≤ n ∧ n ≤ 3 ∧ (m = 1 ∨ m = 2))) ∨ (op = 13 ∧ ¬ (0 ≤ n ∧ 1 ≤ m)) ∨ ((¬ op = 1 ∧ ¬ op = 2 ∧ ¬ op = 4 ∧ ¬ op = 5 ∧ ¬ op = 6 ∧ ¬ op = 7 ∧ ¬ op = 13) ∧ ¬ (n = 0 ∧ m = 0)) := by
  unfold fieldsS at h
  by_cases h1 : op = 1
  · rw [if_pos h1] at h
    exact .inl ⟨h1, of_decide_eq_false h⟩
  rw [if_neg h1] at h
  by_cases h2 : op = 2
  · rw [if_pos h2] at h
    exact .inr (.inl ⟨h2, of_decide_eq_false h⟩)
  rw [if_neg h2] at h
  by_cases h4 : op = 4
  · rw [if_pos h4] at h
    exact .inr (.inr (.inl ⟨h4, of_decide_eq_false h⟩))
  rw [if_neg h4] at h
  by_cases h5 : op = 5
  · rw [if_pos h5] at h
    exact .inr (.inr (.inr (.inl ⟨h5, of_decide_eq_false h⟩)))
  rw [if_neg h5] at h
  by_cases h7 : op = 7
  · rw [if_pos h7] at h
    exact .inr (.inr (.inr (.inr (.inl ⟨h7, of_decide_eq_false h⟩))))
  rw [if_neg h7] at h
  by_cases h6 : op = 6
  · rw [if_pos h6] at h
    exact .inr (.inr (.inr (.inr (.inr (.inl ⟨h6, of_decide_eq_false h⟩)))))
  rw [if_neg h6] at h
  by_cases h13 : op = 13
  · rw [if_pos h13] at h
    exact .inr (.inr (.inr (.inr (.inr (.inr (.inl ⟨h13, of_decide_eq_false h⟩))))))
  rw [if_neg h13] at h
  exact .inr (.inr (.inr (.inr (.inr (.inr (.inr ⟨⟨h1, h2, h4, h5, h6, h7, h13⟩, of_decide_eq_false h⟩))))))
theorem leafS_zero {rw rc rl op n m : Int} (h : arityS op = -2 ∨ fieldsS rw rc rl op n m = false ∨ ¬ arityS op = 0) : leafS rw rc op n m = 0 := by
  have h : (op < 1 ∨ 32 < op) ∨ _ ∨ ¬ (1 ≤ op ∧ op ≤ 6 ∨ op = 29) := h.imp ar_m2 (Or.imp fields_lin ar_n0)
  unfold leafS
  repeat' (refine ite_in (P := fun x => x = 0) (fun _ => ?_) (fun _ => ?_))
  all_goals first | rfl | (exfalso; omega)
theorem oneS_zero {rw rc rl op n m v : Int} (h : arityS op = -2 ∨ fieldsS rw rc rl op n m = false ∨ ¬ arityS op = 1) : oneS rl op n m v = 0 := by
  have h : (op < 1 ∨ 32 < op) ∨ _ ∨ ¬ (7 ≤ op ∧ op ≤ 13 ∨ op = 30 ∨ op = 31) := h.imp ar_m2 (Or.imp fields_lin ar_n1)
  unfold oneS
  repeat' (refine ite_in (P := fun x => x = 0) (fun _ => ?_) (fun _ => ?_))
  all_goals first | rfl | (exfalso; omega)
theorem twoS_zero {s : Cr → Int} {op : Int} {a b : Cr} (h : ¬ (14 ≤ op ∧ op ≤ 27)) : twoS s op [a, b] = 0 := by
  unfold twoS
  repeat' (refine ite_in (P := fun x => x = 0) (fun _ => ?_) (fun _ => ?_))
  all_goals first | rfl | (exfalso; omega)
theorem moreS_zero {rw rc rl op n m : Int} {s : Cr → Int} {l : List Cr} (h2 : 2 ≤ l.length) (h32 : ¬ op = 32) (h : arityS op = -2 ∨ fieldsS rw rc rl op n m = false ∨ ¬ (l.length : Int) = arityS op) : moreS s op n m l = 0 := by
  unfold moreS
  split
  · rename_i hnm
    obtain ⟨rfl, rfl⟩ := hnm
    split
    · rename_i h28
      obtain ⟨rfl, h3⟩ := h28
      exfalso
      rcases h with h | h | h
      · exact absurd h (by decide)
      · have := fields_00 h
        omega
      · exact h (by rw [h3]; rfl)
    · split
      · rename_i h
        exact absurd h.1 h32
      · split
        · rename_i hl
          obtain ⟨a, b, rfl⟩ : ∃ a b, l = [a, b] := by
            match l, hl with
            | [a, b], _ => exact ⟨a, b, rfl⟩
          refine twoS_zero ?_
          rcases h with h | h | h
          · have := ar_m2 h
            omega
          · have := fields_00 h
            omega
          · exact ar_n2 (fun e => h (by rw [e]; rfl))
        · rfl
  · rfl
/-- A core's sort is 0 to 3. -/
theorem nodeS_range {rw rc rl : Int} {s : Cr → Int} {c : Cr} (h : ∀ k ∈ c.kids, s k = 0 ∨ s k = 1 ∨ s k = 2 ∨ s k = 3) : nodeS rw rc rl s c = 0 ∨ nodeS rw rc rl s c = 1 ∨ nodeS rw rc rl s c = 2 ∨ nodeS rw rc rl s c = 3 := by
  unfold nodeS
  split
  · show (fun x => x = 0 ∨ x = 1 ∨ x = 2 ∨ x = 3) (leafS rw rc c.op c.n c.m)
    unfold leafS
    repeat' (refine ite_in (P := fun x => x = 0 ∨ x = 1 ∨ x = 2 ∨ x = 3) (fun _ => ?_) (fun _ => ?_))
    all_goals (show (_ : Int) = 0 ∨ _; omega)
  · rename_i k e
    have hk := h k (by rw [e]; simp)
    show (fun x => x = 0 ∨ x = 1 ∨ x = 2 ∨ x = 3) (oneS rl c.op c.n c.m (s k))
    unfold oneS
    repeat' (refine ite_in (P := fun x => x = 0 ∨ x = 1 ∨ x = 2 ∨ x = 3) (fun _ => ?_) (fun _ => ?_))
    all_goals first | exact hk | (show (_ : Int) = 0 ∨ _; omega)
  · show (fun x => x = 0 ∨ x = 1 ∨ x = 2 ∨ x = 3) (moreS s c.op c.n c.m c.kids)
    unfold moreS
    refine ite_in (P := fun x => x = 0 ∨ x = 1 ∨ x = 2 ∨ x = 3) (fun _ => ?_) (fun _ => by omega)
    refine ite_in (P := fun x => x = 0 ∨ x = 1 ∨ x = 2 ∨ x = 3) (fun _ => ?_) (fun _ => ite_in (P := fun x => x = 0 ∨ x = 1 ∨ x = 2 ∨ x = 3) (fun _ => ?_) (fun _ => ite_in (P := fun x => x = 0 ∨ x = 1 ∨ x = 2 ∨ x = 3) (fun _ => ?_) (fun _ => by omega)))
    · unfold ifS
      split
      · repeat' (refine ite_in (P := fun x => x = 0 ∨ x = 1 ∨ x = 2 ∨ x = 3) (fun _ => ?_) (fun _ => ?_))
        all_goals (show (_ : Int) = 0 ∨ _; omega)
      · decide
    · unfold ladS
      split
      · repeat' (refine ite_in (P := fun x => x = 0 ∨ x = 1 ∨ x = 2 ∨ x = 3) (fun _ => ?_) (fun _ => ?_))
        all_goals (show (_ : Int) = 0 ∨ _; omega)
      · decide
    · unfold twoS
      split
      · rename_i a b e
        have ha := h a (by simp [e])
        repeat' (refine ite_in (P := fun x => x = 0 ∨ x = 1 ∨ x = 2 ∨ x = 3) (fun _ => ?_) (fun _ => ?_))
        all_goals first | exact ha | (show (_ : Int) = 0 ∨ _; omega)
      · decide
theorem sortS_range (rw rc rl : Int) (c : Cr) : sortS rw rc rl c = 0 ∨ sortS rw rc rl c = 1 ∨ sortS rw rc rl c = 2 ∨ sortS rw rc rl c = 3 := by
  refine Cr.ind (P := fun c => sortS rw rc rl c = 0 ∨ sortS rw rc rl c = 1 ∨ sortS rw rc rl c = 2 ∨ sortS rw rc rl c = 3) (fun c ih => ?_) c
  rw [sortS_eq]
  exact nodeS_range ih
theorem arity_cases (op : Int) : arityS op = -2 ∨ (op = 32 ∧ arityS op = -1) ∨ (arityS op = 0 ∧ (op = 1 ∨ op = 2 ∨ op = 3 ∨ op = 4 ∨ op = 5 ∨ op = 6 ∨ op = 29)) ∨
    (arityS op = 1 ∧ (op = 7 ∨ op = 8 ∨ op = 9 ∨ (op = 10 ∨ op = 11 ∨ op = 12) ∨ op = 13 ∨ op = 30 ∨ op = 31)) ∨
    (arityS op = 2 ∧ ((op = 14 ∨ op = 15 ∨ op = 16 ∨ op = 17) ∨ (op = 18 ∨ op = 19 ∨ op = 20 ∨ op = 21 ∨ op = 22) ∨ op = 23 ∨ op = 24 ∨ op = 25 ∨ op = 26 ∨ op = 27)) ∨ (arityS op = 3 ∧ op = 28) := by
  unfold arityS
  split
  · right; right; left; omega
  · split
    · right; right; right; left; omega
    · split
      · right; right; right; right; left; omega
      · split
        · right; right; right; right; right; omega
        · split
          · right; left; omega
          · left; rfl

set_option maxRecDepth 100000 in
theorem rsort_calls (rw rc rl : Int) (c : Cr) : SortR rw rc rl c (sortS rw rc rl c) := by
  refine Cr.ind (P := fun c => SortR rw rc rl c (sortS rw rc rl c)) (fun c ih => ?_) c
  intro w hl
  rw [sortS_eq]
  obtain ⟨op, n, m, at_, cap, l⟩ := c
  simp only [Cr.op, Cr.n, Cr.m, Cr.at_, Cr.cap, Cr.kids] at *
  have hz : (arityS op = -2 ∨ fieldsS rw rc rl op n m = false ∨ (0 ≤ arityS op ∧ ¬ (l.length : Int) = arityS op)) → ¬ (op = 32 ∧ fieldsS rw rc rl op n m = true) → nodeS rw rc rl (sortS rw rc rl) (.node op n m at_ cap l) = 0 := by
    intro h h32
    unfold nodeS
    match l, h with
    | [], h =>
      refine leafS_zero (rl := rl) ?_
      simp only [Cr.op, Cr.n, Cr.m]
      rcases h with h | h | ⟨h, h'⟩
      · exact .inl h
      · exact .inr (.inl h)
      · exact .inr (.inr (by simp at h'; omega))
    | [k], h =>
      refine oneS_zero (rw := rw) (rc := rc) ?_
      simp only [Cr.op, Cr.n, Cr.m]
      rcases h with h | h | ⟨h, h'⟩
      · exact .inl h
      · exact .inr (.inl h)
      · exact .inr (.inr (by simp at h'; omega))
    | a :: b :: t, h =>
      show moreS _ op n m (a :: b :: t) = 0
      by_cases h3 : op = 32
      · have hf : fieldsS rw rc rl op n m = false := by
          cases hb : fieldsS rw rc rl op n m with
          | true => exact absurd ⟨h3, hb⟩ h32
          | false => rfl
        subst h3
        unfold moreS
        rw [if_neg]
        simpa [fieldsS] using hf
      · refine moreS_zero (rw := rw) (rc := rc) (rl := rl) (by simp) h3 ?_
        rcases h with h | h | ⟨h, h'⟩
        · exact .inl h
        · exact .inr (.inl h)
        · exact .inr (.inr h')
  cases hf : fieldsS rw rc rl op n m with
  | false =>
    rw [hz (.inr (.inl hf)) (by simp [hf])]
    by_cases h2 : arityS op = -2
    · exact rs_none h2
    · exact rs_fields rfl h2 hf
  | true =>
    rcases arity_cases op with h | ⟨rfl, h⟩ | ⟨h, ho⟩ | ⟨h, ho⟩ | ⟨h, ho⟩ | ⟨h, ho⟩
    · have h32 : ¬ op = 32 := by
        intro e
        subst e
        exact absurd h (by decide)
      rw [hz (.inl h) (fun x => h32 x.1)]
      exact rs_none h
    · have e : nodeS rw rc rl (sortS rw rc rl) (.node 32 n m at_ cap l) = if ladB (sortS rw rc rl) l then (3 : Int) else 0 := by
        have hnm : n = 0 ∧ m = 0 := by simpa [fieldsS] using hf
        obtain ⟨rfl, rfl⟩ := hnm
        unfold nodeS
        match l with
        | [] => rfl
        | [k] => rfl
        | a :: b :: t =>
          show moreS _ 32 0 0 (a :: b :: t) = _
          unfold moreS ladB
          rw [if_pos ⟨rfl, rfl⟩, if_neg (fun h => absurd h.1 (by decide))]
          have hl2 : 2 ≤ (a :: b :: t).length := by simp
          by_cases he : (a :: b :: t).length % 2 = 0
          · rw [if_pos ⟨rfl, hl2, he⟩, decide_eq_true hl2, decide_eq_true he]
            simp only [ladS, Bool.true_and]
            by_cases q : sortS rw rc rl a = 1
            · rw [if_pos q]
              simp [q]
            · have q2 : (sortS rw rc rl a == 1) = false := by simpa using q
              rw [if_neg q, q2]
              rfl
          · rw [if_neg (fun h => he h.2.2), if_neg (show ¬ (a :: b :: t).length = 2 by omega), decide_eq_false he]
            simp
      rw [e]
      exact rs_lad rfl (sortS rw rc rl) hl ih hf rfl
    · by_cases hlen : (l.length : Int) = 0
      · have e : l = [] := List.length_eq_zero_iff.1 (by omega)
        subst e
        exact rs_node0 ho hf
      · have h32 : ¬ op = 32 := by omega
        rw [hz (.inr (.inr ⟨by omega, by omega⟩)) (fun x => h32 x.1)]
        exact rs_parts h (by decide) hlen hf
    · by_cases hlen : (l.length : Int) = 1
      · obtain ⟨k, rfl⟩ := List.length_eq_one_iff.1 (show l.length = 1 by omega)
        have ik := ih k (by simp)
        rcases ho with rfl | rfl | rfl | ho | rfl | rfl | rfl
        · exact rs_node1_7 rfl hf hl ik (sortS_range ..)
        · exact rs_node1_8 rfl hf hl ik
        · exact rs_node1_9 rfl hf hl ik
        · exact rs_node1_x ho hf hl ik
        · exact rs_node1_13 rfl hf hl ik
        · exact rs_node1_30 rfl hf hl ik
        · exact rs_node1_31 rfl hf hl ik
      · have h32 : ¬ op = 32 := by omega
        rw [hz (.inr (.inr ⟨by omega, by omega⟩)) (fun x => h32 x.1)]
        exact rs_parts h (by decide) hlen hf
    · by_cases hlen : (l.length : Int) = 2
      · obtain ⟨ka, kb, rfl⟩ : ∃ a b, l = [a, b] := by
          match l, (show l.length = 2 by omega) with
          | [a, b], _ => exact ⟨a, b, rfl⟩
        have ia := ih ka (by simp)
        have ib := ih kb (by simp)
        rcases ho with ho | ho | rfl | rfl | rfl | rfl | rfl
        · exact rs_node2_a ho hf hl ia ib rfl rfl
        · exact rs_node2_b ho hf hl ia ib rfl rfl
        · exact rs_node2_23 rfl hf hl ia ib rfl rfl
        · exact rs_node2_24 rfl hf hl ia ib rfl rfl
        · exact rs_node2_25 rfl hf hl ia ib rfl rfl
        · exact rs_node2_26 rfl hf hl ia ib rfl rfl
        · exact rs_node2_27 rfl hf hl ia ib rfl rfl (sortS_range ..)
      · have h32 : ¬ op = 32 := by omega
        rw [hz (.inr (.inr ⟨by omega, by omega⟩)) (fun x => h32 x.1)]
        exact rs_parts h (by decide) hlen hf
    · by_cases hlen : (l.length : Int) = 3
      · obtain ⟨ka, kb, kc, rfl⟩ : ∃ a b c, l = [a, b, c] := by
          match l, (show l.length = 3 by omega) with
          | [a, b, c], _ => exact ⟨a, b, c, rfl⟩
        exact rs_node3 ho hf hl (ih ka (by simp)) (ih kb (by simp)) (ih kc (by simp)) rfl rfl rfl
      · have h32 : ¬ op = 32 := by omega
        rw [hz (.inr (.inr ⟨by omega, by omega⟩)) (fun x => h32 x.1)]
        exact rs_parts h (by decide) hlen hf
end Go.Proofs.YtpljkcakijkklaaDoor

end
