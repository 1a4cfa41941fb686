/-
  Texts of this seat, joined, less what CoreLazy does not lean on: Eval3, Eval4, Eval5, Eval6, Eval7, Eval8, Eval9.
-/
import Derived.Test.YtpljkcakijkklaaDoorQCoreLazy17
import Derived.Laws.EntriesVeiled
import Derived.Test.YtpljkcakijkklaaDoorQCoreLazy9
set_option linter.unusedVariables false
set_option linter.unusedSimpArgs false
set_option maxHeartbeats 4000000
set_option maxRecDepth 100000
section
namespace Go.Proofs.YtpljkcakijkklaaDoor
set_option linter.unusedVariables false
set_option linter.unusedSimpArgs false
open Go.RowKit Go.Proofs.YtpljkcakijkklaaDoorW.PrintWords Go.Proofs.YtpljkcakijkklaaDoorW.PrintLast Go.Proofs.YtpljkcakijkklaaDoorW.PrintMore

theorem ops_range {k : Int} {f : Nat} (h : (k, f) ∈ opsT) : 8 ≤ k ∧ k ≤ 24 ∧ ¬ k = 13 := by
 simp only [opsT, List.mem_cons, Prod.mk.injEq, List.not_mem_nil, or_false] at h
 omega

theorem onward_un {k n m a : Int} {f : Nat} {v : En} {at_ : Option Addr} {cap : Nat} {w : World} (hk : (k, f) ∈ opsT) (h12 : k ≤ 12) (ha : R64 a) :
  Calls Tryd.prog 39 #[.agg #[.int .i64 k, .int .i64 n, .int .i64 m, .slice at_ 1 cap], .int .i64 a, .agg #[.int .i64 v.rep, .slice v.wa v.wins.length v.wcap, .slice v.ca v.crons.length v.ccap]] w fun e w' => e = .returned (.tuple #[.int .i64 (fnS k a 0), .nilIface]) ∧ Below w.heap.size w w' := by
 have hb : R64 0 := by unfold R64; omega
 obtain ⟨w1, e1, b1, k2, k3, s1⟩ := box2 w (.cells #[.int .i64 k, .int .i64 n, .int .i64 m, .slice at_ 1 cap] 24) (.cells #[.int .i64 v.rep, .slice v.wa v.wins.length v.wcap, .slice v.ca v.crons.length v.ccap] 28)
 have HE := Lib.hid e1
 have B1 := Lib.hid b1
 have HC := Lib.hid fun (w' : World) (hb : Below w1.heap.size w1 w') => core_cells (blk_below k2 hb)
 have hr := ops_range hk
 have HK := Lib.hid hk
 have HAB := Lib.hid (And.intro ha hb)
 obtain ⟨j, hj, hjk, hne⟩ := ops_at hk
 have HJ := Lib.hid (And.intro hj (And.intro hjk hne))
 have eg := ops_enter hk
 have HSZ := Lib.hid (show w.heap.size + 2 ≤ w1.heap.size by omega)
 have p7 : (k == 7) = false := by simp; omega
 have p27 : (k == 27) = false := by simp; omega
 have p13 : (k == 13) = false := by simp; omega
 have p28 : (k == 28) = false := by simp; omega
 have p25 : (k == 25) = false := by simp; omega
 have p26 : (k == 26) = false := by simp; omega
 have p17 : (k == 17) = false := by simp; omega
 obtain ⟨y0, y1, y2, y3⟩ := HC.out w1 (Below.refl _ _)
 clear hk ha hb hr hj hjk hne h12 k2 k3 e1 b1 s1
 go_enter Tryd.func39, Tryd.ntmps39
 go_wp2_with fail
 rw [HE.out]
 go_wp2_with fail
 refine (ops_calls2 _).mono ?_
 rintro e wx ⟨rfl, hwx⟩
 obtain ⟨wT, eT, bT, kT, sT⟩ := box1 w1 (.cells opsCells 102)
 rw [hwx, eT]
 obtain ⟨gT, hgT⟩ : ∃ g, w1.heap.size = g := ⟨_, rfl⟩
 rw [hgT] at kT ⊢
 have HT := Lib.hid kT
 have HTB := Lib.hid bT
 clear hwx eT kT sT hgT bT y0 y1 y2 y3
 go_wp2_with fail
 go_loopg [11, 90] 16 (fun gg _ v90 wr => ∃ i : Nat, v90 = .int .i64 i ∧ Aside0 (i ≤ j ∧ i + gg = 16) ∧ Aside0 (Below wT.heap.size wT wr))
 case atStart => exact ⟨0, rfl, ⟨by omega⟩, ⟨Below.refl _ _⟩⟩
 case round =>
  obtain ⟨i, rfl, hi, BW⟩ := hrel
  have HI := Lib.hid hi.out
  have HB := Lib.hid BW.out
  have hlt : i < 16 := by have := HI.out; have := HJ.out.1; omega
  obtain ⟨x, hx⟩ : ∃ x, opsT[i]? = some x := ⟨_, List.getElem?_eq_getElem hlt⟩
  obtain ⟨hc0, hc1⟩ := ops_row i x hx
  have kW := blk_below HT.out HB.out
  have c0 := (blk_cell kW (i * 2)).trans hc0
  have c1 := (blk_cell kW (i * 2 + 1)).trans hc1
  obtain ⟨y0, y1, y2, y3⟩ := HC.out _ (HTB.out.trans (HB.out.mono HTB.out.size))
  have q0 := eq_true (show (0 : Int) ≤ (i : Int) by omega)
  have q1 : ((i : Int) < 16) = True := eq_true (by omega)
  have q2 : (i < 16) = True := eq_true hlt
  have n1 : ¬ w.heap.size = wr.heap.size := by have := HSZ.out; have := HTB.out.size; have := HB.out.size; omega
  have n2 : ¬ wr.heap.size = w.heap.size := fun e => n1 e.symm
  have n3 : w.heap.size < wr.heap.size := by have := HSZ.out; have := HTB.out.size; have := HB.out.size; omega
  have HX := Lib.hid hx
  clear hi BW hc0 hc1 kW hx hlt
  by_cases hij : i = j
  ·obtain rfl : x = (k, f) := by
    have h1 := HX.out
    rw [hij, HJ.out.2.1] at h1
    injection h1 with h1
    exact h1.symm
   simp only at c0 c1
   clear hij
   go_wp2_with fail
   refine (fn_all HK.out HAB.out.1 HAB.out.2 _).mono ?_
   rintro e w7 ⟨rfl, hb7⟩
   go_wp2_with fail
   go_ret2
   refine ⟨by first | rfl | simp, ?_⟩
   refine B1.out.trans (Below.mono (B := w1.heap.size) ?_ B1.out.size)
   refine Below.trans ?_ (hb7.mono ?_)
   ·repeat (first | exact HTB.out.trans (HB.out.mono HTB.out.size) | refine Below.setCell ?_ (Nat.le_trans HTB.out.size HB.out.size) _ | refine Below.alloc ?_ (Nat.le_trans HTB.out.size HB.out.size) _)
   ·have := HTB.out.size
    have := HB.out.size
    simp
    omega
  ·have hne2 := HJ.out.2.2 i (by have := HI.out; omega) x HX.out
   have hne3 : (k == x.1) = false := by
    simp only [beq_eq_false_iff_ne] at hne2 ⊢
    exact Ne.symm hne2
   have w5 : wrap64 ((i : Int) + 1) = ((i + 1 : Nat) : Int) := by have := HI.out; have := HJ.out.1; unfold wrap64; omega
   have HIJ := Lib.hid hij
   clear hij
   go_wp2_with fail
   go_roundg (gk - 1)
   case measure => clear w5; have := HI.out; have := HJ.out.1; omega
   case rel =>
    refine ⟨i + 1, by first | rfl | simp [w5], ⟨by clear w5; have := HI.out; have := HIJ.out; have := HJ.out.1; omega⟩, ⟨?_⟩⟩
    repeat (first | exact HB.out | refine Below.setCell ?_ HB.out.size _ | refine Below.alloc ?_ HB.out.size _)
end Go.Proofs.YtpljkcakijkklaaDoor

end
section
namespace Go.Proofs.YtpljkcakijkklaaDoor
set_option linter.unusedVariables false
set_option linter.unusedSimpArgs false
open Go.RowKit Go.Proofs.YtpljkcakijkklaaDoorW.PrintWords Go.Proofs.YtpljkcakijkklaaDoorW.PrintLast Go.Proofs.YtpljkcakijkklaaDoorW.PrintMore

section
variable {n m a : Int} {v : En} {p : Addr} {at_ : Option Addr} {cap : Nat} {w : World}
theorem onward_memo : Calls Tryd.prog 39 #[.agg #[.int .i64 7, .int .i64 n, .int .i64 m, .slice at_ 1 cap], .int .i64 a, .agg #[.int .i64 v.rep, .slice v.wa v.wins.length v.wcap, .slice v.ca v.crons.length v.ccap]] w fun e w' => e = .returned (.tuple #[.int .i64 (a), .nilIface]) ∧ Below w.heap.size w w' := by
 go_enter Tryd.func39, Tryd.ntmps39
 go_wp2_with fail
 go_ret2
 exact ⟨by simp, below_alloc (below_alloc (Below.refl _ _) _) _⟩
theorem onward_either : Calls Tryd.prog 39 #[.agg #[.int .i64 27, .int .i64 n, .int .i64 m, .slice at_ 2 cap], .int .i64 a, .agg #[.int .i64 v.rep, .slice v.wa v.wins.length v.wcap, .slice v.ca v.crons.length v.ccap]] w fun e w' => e = .returned (.tuple #[.int .i64 (a), .nilIface]) ∧ Below w.heap.size w w' := by
 go_enter Tryd.func39, Tryd.ntmps39
 go_wp2_with fail
 go_ret2
 exact ⟨by simp, below_alloc (below_alloc (Below.refl _ _) _) _⟩
theorem onward_scale (ha : R64 a) (hn : R64 n) (hm : R64 m) : Calls Tryd.prog 39 #[.agg #[.int .i64 13, .int .i64 n, .int .i64 m, .slice at_ 1 cap], .int .i64 a, .agg #[.int .i64 v.rep, .slice v.wa v.wins.length v.wcap, .slice v.ca v.crons.length v.ccap]] w fun e w' => e = .returned (.tuple #[.int .i64 (if n < 0 ∨ m < 1 then 0 else heldI (a * n / m)), .nilIface]) ∧ Below w.heap.size w w' := by
 obtain ⟨r, hr⟩ : ∃ r, (if n < 0 ∨ m < 1 then 0 else heldI (a * n / m)) = r := ⟨_, rfl⟩
 have hs : fix_Scale.f a n m = some r := by
  unfold fix_Scale.f
  rw [if_pos ⟨ha, hn, hm⟩, hr]
 rw [hr]
 have HS := Lib.hid hs
 clear hs hr ha hn hm
 obtain ⟨w1, e1, b1, k2, k3, s1⟩ := box2 w (.cells #[.int .i64 13, .int .i64 n, .int .i64 m, .slice at_ 1 cap] 24) (.cells #[.int .i64 v.rep, .slice v.wa v.wins.length v.wcap, .slice v.ca v.crons.length v.ccap] 28)
 have HE := Lib.hid e1
 have B1 := Lib.hid b1
 obtain ⟨y0, y1, y2, y3⟩ := core_cells k2
 clear k2 k3 e1 b1 s1
 go_enter Tryd.func39, Tryd.ntmps39
 go_wp2_with fail
 rw [HE.out]
 go_wp2_with fail
 refine (fix_Scale.calls a n m r _ HS.out).mono ?_
 rintro e w7 ⟨rfl, hb7⟩
 go_wp2_with fail
 go_ret2
 exact ⟨by simp, B1.out.trans (hb7.mono B1.out.size)⟩
theorem onward_and0 (h : a = 0) : Calls Tryd.prog 39 #[.agg #[.int .i64 25, .int .i64 n, .int .i64 m, .slice at_ 2 cap], .int .i64 a, .agg #[.int .i64 v.rep, .slice v.wa v.wins.length v.wcap, .slice v.ca v.crons.length v.ccap]] w fun e w' => e = .returned (.tuple #[.int .i64 (0), .nilIface]) ∧ Below w.heap.size w w' := by
 subst h
 go_enter Tryd.func39, Tryd.ntmps39
 go_wp2_with fail
 go_ret2
 exact ⟨by simp, below_alloc (below_alloc (Below.refl _ _) _) _⟩
theorem onward_or1 (h : a = 1) : Calls Tryd.prog 39 #[.agg #[.int .i64 26, .int .i64 n, .int .i64 m, .slice at_ 2 cap], .int .i64 a, .agg #[.int .i64 v.rep, .slice v.wa v.wins.length v.wcap, .slice v.ca v.crons.length v.ccap]] w fun e w' => e = .returned (.tuple #[.int .i64 (1), .nilIface]) ∧ Below w.heap.size w w' := by
 subst h
 go_enter Tryd.func39, Tryd.ntmps39
 go_wp2_with fail
 go_ret2
 exact ⟨by simp, below_alloc (below_alloc (Below.refl _ _) _) _⟩
theorem onward_if1 {ka kb kc : Cr} {r : Rs} (h : a = 1) (hl : LiesL w (some p) 0 [ka, kb, kc]) (henv : EnvL w v) (hE : EvalC v kb r) : Calls Tryd.prog 39 #[.agg #[.int .i64 28, .int .i64 n, .int .i64 m, .slice (some p) 3 cap], .int .i64 a, .agg #[.int .i64 v.rep, .slice v.wa v.wins.length v.wcap, .slice v.ca v.crons.length v.ccap]] w fun e w' => RetE r e w' ∧ Below w.heap.size w w' := by
 subst h
 have wk1 : IntKind.i64.wrap 1 = 1 := by rw [i64_w]; unfold wrap64; omega
 obtain ⟨w1, e1, b1, k2, k3, s1⟩ := box2 w (.cells #[.int .i64 28, .int .i64 n, .int .i64 m, .slice (some p) 3 cap] 24) (.cells #[.int .i64 v.rep, .slice v.wa v.wins.length v.wcap, .slice v.ca v.crons.length v.ccap] 28)
 have HE := Lib.hid e1
 have B1 := Lib.hid b1
 have hl1 := hl.below b1
 have HENV := Lib.hid (henv.below b1)
 have HC := Lib.hid fun (w' : World) (hb : Below w1.heap.size w1 w') => (show ((w'.cell? ⟨w.heap.size, 0, none⟩ = some (.int .i64 28) ∧ w'.cell? ⟨w.heap.size, 1, none⟩ = some (.int .i64 n) ∧ w'.cell? ⟨w.heap.size, 2, none⟩ = some (.int .i64 m) ∧ w'.cell? ⟨w.heap.size, 3, none⟩ = some (.slice (some p) 3 cap)) ∧
   (w'.cell? ⟨w.heap.size + 1, 0, none⟩ = some (.int .i64 v.rep) ∧ w'.cell? ⟨w.heap.size + 1, 1, none⟩ = some (.slice v.wa v.wins.length v.wcap) ∧ w'.cell? ⟨w.heap.size + 1, 2, none⟩ = some (.slice v.ca v.crons.length v.ccap)) ∧ (w'.cell? ⟨p.block, p.off + 4, none⟩ = some (.int .i64 kb.op) ∧ w'.cell? ⟨p.block, p.off + 4 + 1, none⟩ = some (.int .i64 kb.n) ∧ w'.cell? ⟨p.block, p.off + 4 + 2, none⟩ = some (.int .i64 kb.m) ∧ w'.cell? ⟨p.block, p.off + 4 + 3, none⟩ = some (.slice kb.at_ kb.kids.length kb.cap))) from
  ⟨core_cells (blk_below k2 hb), env_cells (blk_below k3 hb), hl1.lit hb 0 rfl⟩)
 have LK := Lib.hid (LiesL.lies hl1 (k := kb) (by simp))
 have EK := Lib.hid hE
 obtain ⟨⟨y0, y1, y2, y3⟩, -⟩ := HC.out w1 (Below.refl _ _)
 clear hl hl1 henv hE k2 k3 e1 b1 s1
 cases r with
 | num y =>
  go_enter Tryd.func39, Tryd.ntmps39
  go_wp2_with fail
  rw [HE.out]
  go_wp2_with fail
  clear y0 y1 y2 y3
  refine wp_region_held_drew (S := fun w' => Aside0 (Below w1.heap.size w1 w')) (by kernel_rfl) ?_ (fun hHeld => ?_)
  ·exact ⟨(Below.refl _ _).drew⟩
  generalize World.drew _ = wDa at hHeld ⊢
  have HCr := HC
  refine' tk 0 ?_
  try simp only [pt]
  refine' tk 1 ?_
  try simp only [pt]
  refine' tk 2 ?_
  try simp only [pt]
  refine' tk 3 ?_
  try simp only [pt]
  refine' tk 4 ?_
  try simp only [pt]
  refine' tk 5 ?_
  try simp only [pt]
  refine' tk 6 ?_
  try simp only [pt]
  refine' cm 7 (fun K hK => ?_)
  go_simp
  refine (EK.out _ (LK.out.below hHeld.out) (HENV.out.below hHeld.out)).mono ?_
  rintro e w7 ⟨hret, hb2⟩
  obtain rfl := hret
  refine hK.out _ _ ⟨hHeld.out.trans (hb2.mono hHeld.out.size)⟩ (fun hHeld => ?_)
  clear hK K
  try simp only [pt]
  refine' tk 8 ?_
  try simp only [pt]
  refine' tk 9 ?_
  try simp only [pt]
  refine' tk 10 ?_
  try simp only [pt]
  refine' tk 11 ?_
  try simp only [pt]
  refine wpAnyH_done (by kernel_rfl) ?_ _
  go_wp2_with fail
  go_ret2
  exact ⟨by first | rfl | (show _ = _; simp), B1.out.trans (hHeld.out.mono B1.out.size)⟩
 | stop q =>
  go_enter Tryd.func39, Tryd.ntmps39
  go_wp2_with fail
  rw [HE.out]
  go_wp2_with fail
  clear y0 y1 y2 y3
  refine wp_region_held_drew (S := fun w' => Aside0 (Below w1.heap.size w1 w')) (by kernel_rfl) ?_ (fun hHeld => ?_)
  ·exact ⟨(Below.refl _ _).drew⟩
  generalize World.drew _ = wDb at hHeld ⊢
  have HCr := HC
  refine' tk 0 ?_
  try simp only [pt]
  refine' tk 1 ?_
  try simp only [pt]
  refine' tk 2 ?_
  try simp only [pt]
  refine' tk 3 ?_
  try simp only [pt]
  refine' tk 4 ?_
  try simp only [pt]
  refine' tk 5 ?_
  try simp only [pt]
  refine' tk 6 ?_
  try simp only [pt]
  refine' cm 7 (fun K hK => ?_)
  go_simp
  refine (EK.out _ (LK.out.below hHeld.out) (HENV.out.below hHeld.out)).mono ?_
  rintro e w7 ⟨hret, hb2⟩
  obtain ⟨g, rfl, hg⟩ := hret
  refine hK.out _ _ ⟨hHeld.out.trans (hb2.mono hHeld.out.size)⟩ (fun hHeld => ?_)
  clear hK K
  try simp only [pt]
  refine' tk 8 ?_
  try simp only [pt]
  refine' tk 9 ?_
  try simp only [pt]
  refine' tk 10 ?_
  try simp only [pt]
  refine' tk 11 ?_
  try simp only [pt]
  refine wpAnyH_done (by kernel_rfl) ?_ _
  go_wp2_with fail
  go_ret2
  exact ⟨⟨g, by first | rfl | simp, hg⟩, B1.out.trans (hHeld.out.mono B1.out.size)⟩
theorem onward_if0 {ka kb kc : Cr} {r : Rs} (h : a = 0) (hl : LiesL w (some p) 0 [ka, kb, kc]) (henv : EnvL w v) (hE : EvalC v kc r) : Calls Tryd.prog 39 #[.agg #[.int .i64 28, .int .i64 n, .int .i64 m, .slice (some p) 3 cap], .int .i64 a, .agg #[.int .i64 v.rep, .slice v.wa v.wins.length v.wcap, .slice v.ca v.crons.length v.ccap]] w fun e w' => RetE r e w' ∧ Below w.heap.size w w' := by
 subst h
 have wk1 : IntKind.i64.wrap 2 = 2 := by rw [i64_w]; unfold wrap64; omega
 obtain ⟨w1, e1, b1, k2, k3, s1⟩ := box2 w (.cells #[.int .i64 28, .int .i64 n, .int .i64 m, .slice (some p) 3 cap] 24) (.cells #[.int .i64 v.rep, .slice v.wa v.wins.length v.wcap, .slice v.ca v.crons.length v.ccap] 28)
 have HE := Lib.hid e1
 have B1 := Lib.hid b1
 have hl1 := hl.below b1
 have HENV := Lib.hid (henv.below b1)
 have HC := Lib.hid fun (w' : World) (hb : Below w1.heap.size w1 w') => (show ((w'.cell? ⟨w.heap.size, 0, none⟩ = some (.int .i64 28) ∧ w'.cell? ⟨w.heap.size, 1, none⟩ = some (.int .i64 n) ∧ w'.cell? ⟨w.heap.size, 2, none⟩ = some (.int .i64 m) ∧ w'.cell? ⟨w.heap.size, 3, none⟩ = some (.slice (some p) 3 cap)) ∧
   (w'.cell? ⟨w.heap.size + 1, 0, none⟩ = some (.int .i64 v.rep) ∧ w'.cell? ⟨w.heap.size + 1, 1, none⟩ = some (.slice v.wa v.wins.length v.wcap) ∧ w'.cell? ⟨w.heap.size + 1, 2, none⟩ = some (.slice v.ca v.crons.length v.ccap)) ∧ (w'.cell? ⟨p.block, p.off + 8, none⟩ = some (.int .i64 kc.op) ∧ w'.cell? ⟨p.block, p.off + 8 + 1, none⟩ = some (.int .i64 kc.n) ∧ w'.cell? ⟨p.block, p.off + 8 + 2, none⟩ = some (.int .i64 kc.m) ∧ w'.cell? ⟨p.block, p.off + 8 + 3, none⟩ = some (.slice kc.at_ kc.kids.length kc.cap))) from
  ⟨core_cells (blk_below k2 hb), env_cells (blk_below k3 hb), hl1.lit hb 1 rfl⟩)
 have LK := Lib.hid (LiesL.lies hl1 (k := kc) (by simp))
 have EK := Lib.hid hE
 obtain ⟨⟨y0, y1, y2, y3⟩, -⟩ := HC.out w1 (Below.refl _ _)
 clear hl hl1 henv hE k2 k3 e1 b1 s1
 cases r with
 | num y =>
  go_enter Tryd.func39, Tryd.ntmps39
  go_wp2_with fail
  rw [HE.out]
  go_wp2_with fail
  clear y0 y1 y2 y3
  refine wp_region_held_drew (S := fun w' => Aside0 (Below w1.heap.size w1 w')) (by kernel_rfl) ?_ (fun hHeld => ?_)
  ·exact ⟨(Below.refl _ _).drew⟩
  generalize World.drew _ = wDa at hHeld ⊢
  have HCr := HC
  refine' tk 0 ?_
  try simp only [pt]
  refine' tk 1 ?_
  try simp only [pt]
  refine' tk 2 ?_
  try simp only [pt]
  refine' tk 3 ?_
  try simp only [pt]
  refine' tk 4 ?_
  try simp only [pt]
  refine' tk 5 ?_
  try simp only [pt]
  refine' tk 6 ?_
  try simp only [pt]
  refine' cm 7 (fun K hK => ?_)
  go_simp
  refine (EK.out _ (LK.out.below hHeld.out) (HENV.out.below hHeld.out)).mono ?_
  rintro e w7 ⟨hret, hb2⟩
  obtain rfl := hret
  refine hK.out _ _ ⟨hHeld.out.trans (hb2.mono hHeld.out.size)⟩ (fun hHeld => ?_)
  clear hK K
  try simp only [pt]
  refine' tk 8 ?_
  try simp only [pt]
  refine' tk 9 ?_
  try simp only [pt]
  refine' tk 10 ?_
  try simp only [pt]
  refine' tk 11 ?_
  try simp only [pt]
  refine wpAnyH_done (by kernel_rfl) ?_ _
  go_wp2_with fail
  go_ret2
  exact ⟨by first | rfl | (show _ = _; simp), B1.out.trans (hHeld.out.mono B1.out.size)⟩
 | stop q =>
  go_enter Tryd.func39, Tryd.ntmps39
  go_wp2_with fail
  rw [HE.out]
  go_wp2_with fail
  clear y0 y1 y2 y3
  refine wp_region_held_drew (S := fun w' => Aside0 (Below w1.heap.size w1 w')) (by kernel_rfl) ?_ (fun hHeld => ?_)
  ·exact ⟨(Below.refl _ _).drew⟩
  generalize World.drew _ = wDb at hHeld ⊢
  have HCr := HC
  refine' tk 0 ?_
  try simp only [pt]
  refine' tk 1 ?_
  try simp only [pt]
  refine' tk 2 ?_
  try simp only [pt]
  refine' tk 3 ?_
  try simp only [pt]
  refine' tk 4 ?_
  try simp only [pt]
  refine' tk 5 ?_
  try simp only [pt]
  refine' tk 6 ?_
  try simp only [pt]
  refine' cm 7 (fun K hK => ?_)
  go_simp
  refine (EK.out _ (LK.out.below hHeld.out) (HENV.out.below hHeld.out)).mono ?_
  rintro e w7 ⟨hret, hb2⟩
  obtain ⟨g, rfl, hg⟩ := hret
  refine hK.out _ _ ⟨hHeld.out.trans (hb2.mono hHeld.out.size)⟩ (fun hHeld => ?_)
  clear hK K
  try simp only [pt]
  refine' tk 8 ?_
  try simp only [pt]
  refine' tk 9 ?_
  try simp only [pt]
  refine' tk 10 ?_
  try simp only [pt]
  refine' tk 11 ?_
  try simp only [pt]
  refine wpAnyH_done (by kernel_rfl) ?_ _
  go_wp2_with fail
  go_ret2
  exact ⟨⟨g, by first | rfl | simp, hg⟩, B1.out.trans (hHeld.out.mono B1.out.size)⟩
theorem onward_and1 {ka kb : Cr} {r : Rs} (h : ¬ a = 0) (hl : LiesL w (some p) 0 [ka, kb]) (henv : EnvL w v) (hE : EvalC v kb r) : Calls Tryd.prog 39 #[.agg #[.int .i64 25, .int .i64 n, .int .i64 m, .slice (some p) 2 cap], .int .i64 a, .agg #[.int .i64 v.rep, .slice v.wa v.wins.length v.wcap, .slice v.ca v.crons.length v.ccap]] w fun e w' => RetE r e w' ∧ Below w.heap.size w w' := by
 have h1 : (a == 0) = false := by simpa using h
 clear h
 obtain ⟨w1, e1, b1, k2, k3, s1⟩ := box2 w (.cells #[.int .i64 25, .int .i64 n, .int .i64 m, .slice (some p) 2 cap] 24) (.cells #[.int .i64 v.rep, .slice v.wa v.wins.length v.wcap, .slice v.ca v.crons.length v.ccap] 28)
 have HE := Lib.hid e1
 have B1 := Lib.hid b1
 have hl1 := hl.below b1
 have HENV := Lib.hid (henv.below b1)
 have HC := Lib.hid fun (w' : World) (hb : Below w1.heap.size w1 w') => (show ((w'.cell? ⟨w.heap.size, 0, none⟩ = some (.int .i64 25) ∧ w'.cell? ⟨w.heap.size, 1, none⟩ = some (.int .i64 n) ∧ w'.cell? ⟨w.heap.size, 2, none⟩ = some (.int .i64 m) ∧ w'.cell? ⟨w.heap.size, 3, none⟩ = some (.slice (some p) 2 cap)) ∧
   (w'.cell? ⟨w.heap.size + 1, 0, none⟩ = some (.int .i64 v.rep) ∧ w'.cell? ⟨w.heap.size + 1, 1, none⟩ = some (.slice v.wa v.wins.length v.wcap) ∧ w'.cell? ⟨w.heap.size + 1, 2, none⟩ = some (.slice v.ca v.crons.length v.ccap)) ∧ (w'.cell? ⟨p.block, p.off + 4, none⟩ = some (.int .i64 kb.op) ∧ w'.cell? ⟨p.block, p.off + 4 + 1, none⟩ = some (.int .i64 kb.n) ∧ w'.cell? ⟨p.block, p.off + 4 + 2, none⟩ = some (.int .i64 kb.m) ∧ w'.cell? ⟨p.block, p.off + 4 + 3, none⟩ = some (.slice kb.at_ kb.kids.length kb.cap))) from
  ⟨core_cells (blk_below k2 hb), env_cells (blk_below k3 hb), hl1.lit hb 0 rfl⟩)
 have LK := Lib.hid (LiesL.lies hl1 (k := kb) (by simp))
 have EK := Lib.hid hE
 obtain ⟨⟨y0, y1, y2, y3⟩, -⟩ := HC.out w1 (Below.refl _ _)
 clear hl hl1 henv hE k2 k3 e1 b1 s1
 cases r with
 | num y =>
  go_enter Tryd.func39, Tryd.ntmps39
  go_wp2_with fail
  rw [HE.out]
  go_wp2_with fail
  clear y0 y1 y2 y3
  refine wp_region_held_drew (S := fun w' => Aside0 (Below w1.heap.size w1 w')) (by kernel_rfl) ?_ (fun hHeld => ?_)
  ·exact ⟨(Below.refl _ _).drew⟩
  generalize World.drew _ = wDa at hHeld ⊢
  have HCr := HC
  refine' tk 0 ?_
  try simp only [pt]
  refine' tk 1 ?_
  try simp only [pt]
  refine' tk 2 ?_
  try simp only [pt]
  refine' tk 3 ?_
  try simp only [pt]
  refine' tk 4 ?_
  try simp only [pt]
  refine' cm 5 (fun K hK => ?_)
  go_simp
  refine (EK.out _ (LK.out.below hHeld.out) (HENV.out.below hHeld.out)).mono ?_
  rintro e w7 ⟨hret, hb2⟩
  obtain rfl := hret
  refine hK.out _ _ ⟨hHeld.out.trans (hb2.mono hHeld.out.size)⟩ (fun hHeld => ?_)
  clear hK K
  try simp only [pt]
  refine' tk 6 ?_
  try simp only [pt]
  refine' tk 7 ?_
  try simp only [pt]
  refine' tk 8 ?_
  try simp only [pt]
  refine' tk 9 ?_
  try simp only [pt]
  refine wpAnyH_done (by kernel_rfl) ?_ _
  go_wp2_with fail
  go_ret2
  exact ⟨by first | rfl | (show _ = _; simp), B1.out.trans (hHeld.out.mono B1.out.size)⟩
 | stop q =>
  go_enter Tryd.func39, Tryd.ntmps39
  go_wp2_with fail
  rw [HE.out]
  go_wp2_with fail
  clear y0 y1 y2 y3
  refine wp_region_held_drew (S := fun w' => Aside0 (Below w1.heap.size w1 w')) (by kernel_rfl) ?_ (fun hHeld => ?_)
  ·exact ⟨(Below.refl _ _).drew⟩
  generalize World.drew _ = wDb at hHeld ⊢
  have HCr := HC
  refine' tk 0 ?_
  try simp only [pt]
  refine' tk 1 ?_
  try simp only [pt]
  refine' tk 2 ?_
  try simp only [pt]
  refine' tk 3 ?_
  try simp only [pt]
  refine' tk 4 ?_
  try simp only [pt]
  refine' cm 5 (fun K hK => ?_)
  go_simp
  refine (EK.out _ (LK.out.below hHeld.out) (HENV.out.below hHeld.out)).mono ?_
  rintro e w7 ⟨hret, hb2⟩
  obtain ⟨g, rfl, hg⟩ := hret
  refine hK.out _ _ ⟨hHeld.out.trans (hb2.mono hHeld.out.size)⟩ (fun hHeld => ?_)
  clear hK K
  try simp only [pt]
  refine' tk 6 ?_
  try simp only [pt]
  refine' tk 7 ?_
  try simp only [pt]
  refine' tk 8 ?_
  try simp only [pt]
  refine' tk 9 ?_
  try simp only [pt]
  refine wpAnyH_done (by kernel_rfl) ?_ _
  go_wp2_with fail
  go_ret2
  exact ⟨⟨g, by first | rfl | simp, hg⟩, B1.out.trans (hHeld.out.mono B1.out.size)⟩
theorem onward_or0 {ka kb : Cr} {r : Rs} (h : ¬ a = 1) (hl : LiesL w (some p) 0 [ka, kb]) (henv : EnvL w v) (hE : EvalC v kb r) : Calls Tryd.prog 39 #[.agg #[.int .i64 26, .int .i64 n, .int .i64 m, .slice (some p) 2 cap], .int .i64 a, .agg #[.int .i64 v.rep, .slice v.wa v.wins.length v.wcap, .slice v.ca v.crons.length v.ccap]] w fun e w' => RetE r e w' ∧ Below w.heap.size w w' := by
 have h1 : (a == 1) = false := by simpa using h
 clear h
 obtain ⟨w1, e1, b1, k2, k3, s1⟩ := box2 w (.cells #[.int .i64 26, .int .i64 n, .int .i64 m, .slice (some p) 2 cap] 24) (.cells #[.int .i64 v.rep, .slice v.wa v.wins.length v.wcap, .slice v.ca v.crons.length v.ccap] 28)
 have HE := Lib.hid e1
 have B1 := Lib.hid b1
 have hl1 := hl.below b1
 have HENV := Lib.hid (henv.below b1)
 have HC := Lib.hid fun (w' : World) (hb : Below w1.heap.size w1 w') => (show ((w'.cell? ⟨w.heap.size, 0, none⟩ = some (.int .i64 26) ∧ w'.cell? ⟨w.heap.size, 1, none⟩ = some (.int .i64 n) ∧ w'.cell? ⟨w.heap.size, 2, none⟩ = some (.int .i64 m) ∧ w'.cell? ⟨w.heap.size, 3, none⟩ = some (.slice (some p) 2 cap)) ∧
   (w'.cell? ⟨w.heap.size + 1, 0, none⟩ = some (.int .i64 v.rep) ∧ w'.cell? ⟨w.heap.size + 1, 1, none⟩ = some (.slice v.wa v.wins.length v.wcap) ∧ w'.cell? ⟨w.heap.size + 1, 2, none⟩ = some (.slice v.ca v.crons.length v.ccap)) ∧ (w'.cell? ⟨p.block, p.off + 4, none⟩ = some (.int .i64 kb.op) ∧ w'.cell? ⟨p.block, p.off + 4 + 1, none⟩ = some (.int .i64 kb.n) ∧ w'.cell? ⟨p.block, p.off + 4 + 2, none⟩ = some (.int .i64 kb.m) ∧ w'.cell? ⟨p.block, p.off + 4 + 3, none⟩ = some (.slice kb.at_ kb.kids.length kb.cap))) from
  ⟨core_cells (blk_below k2 hb), env_cells (blk_below k3 hb), hl1.lit hb 0 rfl⟩)
 have LK := Lib.hid (LiesL.lies hl1 (k := kb) (by simp))
 have EK := Lib.hid hE
 obtain ⟨⟨y0, y1, y2, y3⟩, -⟩ := HC.out w1 (Below.refl _ _)
 clear hl hl1 henv hE k2 k3 e1 b1 s1
 cases r with
 | num y =>
  go_enter Tryd.func39, Tryd.ntmps39
  go_wp2_with fail
  rw [HE.out]
  go_wp2_with fail
  clear y0 y1 y2 y3
  refine wp_region_held_drew (S := fun w' => Aside0 (Below w1.heap.size w1 w')) (by kernel_rfl) ?_ (fun hHeld => ?_)
  ·exact ⟨(Below.refl _ _).drew⟩
  generalize World.drew _ = wDa at hHeld ⊢
  have HCr := HC
  refine' tk 0 ?_
  try simp only [pt]
  refine' tk 1 ?_
  try simp only [pt]
  refine' tk 2 ?_
  try simp only [pt]
  refine' tk 3 ?_
  try simp only [pt]
  refine' tk 4 ?_
  try simp only [pt]
  refine' cm 5 (fun K hK => ?_)
  go_simp
  refine (EK.out _ (LK.out.below hHeld.out) (HENV.out.below hHeld.out)).mono ?_
  rintro e w7 ⟨hret, hb2⟩
  obtain rfl := hret
  refine hK.out _ _ ⟨hHeld.out.trans (hb2.mono hHeld.out.size)⟩ (fun hHeld => ?_)
  clear hK K
  try simp only [pt]
  refine' tk 6 ?_
  try simp only [pt]
  refine' tk 7 ?_
  try simp only [pt]
  refine' tk 8 ?_
  try simp only [pt]
  refine' tk 9 ?_
  try simp only [pt]
  refine wpAnyH_done (by kernel_rfl) ?_ _
  go_wp2_with fail
  go_ret2
  exact ⟨by first | rfl | (show _ = _; simp), B1.out.trans (hHeld.out.mono B1.out.size)⟩
 | stop q =>
  go_enter Tryd.func39, Tryd.ntmps39
  go_wp2_with fail
  rw [HE.out]
  go_wp2_with fail
  clear y0 y1 y2 y3
  refine wp_region_held_drew (S := fun w' => Aside0 (Below w1.heap.size w1 w')) (by kernel_rfl) ?_ (fun hHeld => ?_)
  ·exact ⟨(Below.refl _ _).drew⟩
  generalize World.drew _ = wDb at hHeld ⊢
  have HCr := HC
  refine' tk 0 ?_
  try simp only [pt]
  refine' tk 1 ?_
  try simp only [pt]
  refine' tk 2 ?_
  try simp only [pt]
  refine' tk 3 ?_
  try simp only [pt]
  refine' tk 4 ?_
  try simp only [pt]
  refine' cm 5 (fun K hK => ?_)
  go_simp
  refine (EK.out _ (LK.out.below hHeld.out) (HENV.out.below hHeld.out)).mono ?_
  rintro e w7 ⟨hret, hb2⟩
  obtain ⟨g, rfl, hg⟩ := hret
  refine hK.out _ _ ⟨hHeld.out.trans (hb2.mono hHeld.out.size)⟩ (fun hHeld => ?_)
  clear hK K
  try simp only [pt]
  refine' tk 6 ?_
  try simp only [pt]
  refine' tk 7 ?_
  try simp only [pt]
  refine' tk 8 ?_
  try simp only [pt]
  refine' tk 9 ?_
  try simp only [pt]
  refine wpAnyH_done (by kernel_rfl) ?_ _
  go_wp2_with fail
  go_ret2
  exact ⟨⟨g, by first | rfl | simp, hg⟩, B1.out.trans (hHeld.out.mono B1.out.size)⟩
end
end Go.Proofs.YtpljkcakijkklaaDoor

end
section
namespace Go.Proofs.YtpljkcakijkklaaDoor
set_option linter.unusedVariables false
set_option linter.unusedSimpArgs false
open Go.RowKit Go.Proofs.YtpljkcakijkklaaDoorW.PrintWords Go.Proofs.YtpljkcakijkklaaDoorW.PrintLast Go.Proofs.YtpljkcakijkklaaDoorW.PrintMore

section
variable {k n m a : Int} {f : Nat} {v : En} {p : Addr} {at_ : Option Addr} {cap : Nat} {w : World}
theorem onward_bin_stop {ka kb : Cr} {q : Int} (hk : (k, f) ∈ opsT) (h14 : 14 ≤ k) (hl : LiesL w (some p) 0 [ka, kb]) (henv : EnvL w v) (hE : EvalC v kb (.stop q)) : Calls Tryd.prog 39 #[.agg #[.int .i64 k, .int .i64 n, .int .i64 m, .slice (some p) 2 cap], .int .i64 a, .agg #[.int .i64 v.rep, .slice v.wa v.wins.length v.wcap, .slice v.ca v.crons.length v.ccap]] w fun e w' => RetE (.stop q) e w' ∧ Below w.heap.size w w' := by
 have hr := ops_range hk
 have HK := Lib.hid hk
 obtain ⟨j, hj, hjk, hne⟩ := ops_at hk
 have HJ := Lib.hid (And.intro hj (And.intro hjk hne))
 have eg := ops_enter hk
 have p7 : (k == 7) = false := by simp; omega
 have p27 : (k == 27) = false := by simp; omega
 have p13 : (k == 13) = false := by simp; omega
 have p28 : (k == 28) = false := by simp; omega
 have p25 : (k == 25) = false := by simp; omega
 have p26 : (k == 26) = false := by simp; omega
 obtain ⟨w1, e1, b1, k2, k3, s1⟩ := box2 w (.cells #[.int .i64 k, .int .i64 n, .int .i64 m, .slice (some p) 2 cap] 24) (.cells #[.int .i64 v.rep, .slice v.wa v.wins.length v.wcap, .slice v.ca v.crons.length v.ccap] 28)
 have HE := Lib.hid e1
 have B1 := Lib.hid b1
 have hl1 := hl.below b1
 have HENV := Lib.hid (henv.below b1)
 have HC := Lib.hid fun (w' : World) (hb : Below w1.heap.size w1 w') => (show ((w'.cell? ⟨w.heap.size, 0, none⟩ = some (.int .i64 k) ∧ w'.cell? ⟨w.heap.size, 1, none⟩ = some (.int .i64 n) ∧ w'.cell? ⟨w.heap.size, 2, none⟩ = some (.int .i64 m) ∧ w'.cell? ⟨w.heap.size, 3, none⟩ = some (.slice (some p) 2 cap)) ∧
   (w'.cell? ⟨w.heap.size + 1, 0, none⟩ = some (.int .i64 v.rep) ∧ w'.cell? ⟨w.heap.size + 1, 1, none⟩ = some (.slice v.wa v.wins.length v.wcap) ∧ w'.cell? ⟨w.heap.size + 1, 2, none⟩ = some (.slice v.ca v.crons.length v.ccap)) ∧ (w'.cell? ⟨p.block, p.off + 4, none⟩ = some (.int .i64 kb.op) ∧ w'.cell? ⟨p.block, p.off + 4 + 1, none⟩ = some (.int .i64 kb.n) ∧ w'.cell? ⟨p.block, p.off + 4 + 2, none⟩ = some (.int .i64 kb.m) ∧ w'.cell? ⟨p.block, p.off + 4 + 3, none⟩ = some (.slice kb.at_ kb.kids.length kb.cap))) from
  ⟨core_cells (blk_below k2 hb), env_cells (blk_below k3 hb), hl1.lit hb 0 rfl⟩)
 have LK := Lib.hid (LiesL.lies hl1 (k := kb) (by simp))
 have EK := Lib.hid hE
 obtain ⟨⟨y0, y1, y2, y3⟩, -⟩ := HC.out w1 (Below.refl _ _)
 clear hl hl1 henv hE k2 k3 e1 b1 s1 hk h14 hr hj hjk hne
 go_enter Tryd.func39, Tryd.ntmps39
 go_wp2_with fail
 rw [HE.out]
 go_wp2_with fail
 clear y0 y1 y2 y3
 refine wp_region_held_drew (S := fun w' => Aside0 (Below w1.heap.size w1 w')) (by kernel_rfl) ?_ (fun hHeld => ?_)
 ·exact ⟨(Below.refl _ _).drew⟩
 generalize World.drew _ = wDb at hHeld ⊢
 have HCr := HC
 refine' tk 0 ?_
 try simp only [pt]
 refine' tk 1 ?_
 try simp only [pt]
 refine' tk 2 ?_
 try simp only [pt]
 refine' tk 3 ?_
 try simp only [pt]
 refine' tk 4 ?_
 try simp only [pt]
 refine' cm 5 (fun K hK => ?_)
 go_simp
 refine (EK.out _ (LK.out.below hHeld.out) (HENV.out.below hHeld.out)).mono ?_
 rintro e w7 ⟨hret, hb2⟩
 obtain ⟨g, rfl, hg⟩ := hret
 refine hK.out _ _ ⟨hHeld.out.trans (hb2.mono hHeld.out.size)⟩ (fun hHeld => ?_)
 clear hK K
 try simp only [pt]
 refine' tk 6 ?_
 try simp only [pt]
 refine' tk 7 ?_
 try simp only [pt]
 refine' tk 8 ?_
 try simp only [pt]
 refine' tk 9 ?_
 try simp only [pt]
 refine' tk 10 ?_
 try simp only [pt]
 refine wpAnyH_done (by kernel_rfl) ?_ _
 obtain ⟨⟨y0, y1, y2, y3⟩, -⟩ := HC.out _ hHeld.out
 go_wp2_with fail
 go_ret2
 exact ⟨⟨g, by first | rfl | simp, hg⟩, B1.out.trans (hHeld.out.mono B1.out.size)⟩
theorem onward_bin_num {ka kb : Cr} {y : Int} (hk : (k, f) ∈ opsT) (h14 : 14 ≤ k) (ha : R64 a) (hy : R64 y) (h17 : ¬ k = 17) (hl : LiesL w (some p) 0 [ka, kb]) (henv : EnvL w v) (hE : EvalC v kb (.num y)) : Calls Tryd.prog 39 #[.agg #[.int .i64 k, .int .i64 n, .int .i64 m, .slice (some p) 2 cap], .int .i64 a, .agg #[.int .i64 v.rep, .slice v.wa v.wins.length v.wcap, .slice v.ca v.crons.length v.ccap]] w fun e w' => e = .returned (.tuple #[.int .i64 (fnS k a y), .nilIface]) ∧ Below w.heap.size w w' := by
 have hr := ops_range hk
 have HK := Lib.hid hk
 obtain ⟨j, hj, hjk, hne⟩ := ops_at hk
 have HJ := Lib.hid (And.intro hj (And.intro hjk hne))
 have eg := ops_enter hk
 have p7 : (k == 7) = false := by simp; omega
 have p27 : (k == 27) = false := by simp; omega
 have p13 : (k == 13) = false := by simp; omega
 have p28 : (k == 28) = false := by simp; omega
 have p25 : (k == 25) = false := by simp; omega
 have p26 : (k == 26) = false := by simp; omega
 have p17 : (k == 17) = false := by simpa using h17
 clear h17
 have HAB := Lib.hid (And.intro ha hy)
 obtain ⟨w1, e1, b1, k2, k3, s1⟩ := box2 w (.cells #[.int .i64 k, .int .i64 n, .int .i64 m, .slice (some p) 2 cap] 24) (.cells #[.int .i64 v.rep, .slice v.wa v.wins.length v.wcap, .slice v.ca v.crons.length v.ccap] 28)
 have HE := Lib.hid e1
 have B1 := Lib.hid b1
 have hl1 := hl.below b1
 have HENV := Lib.hid (henv.below b1)
 have HC := Lib.hid fun (w' : World) (hb : Below w1.heap.size w1 w') => (show ((w'.cell? ⟨w.heap.size, 0, none⟩ = some (.int .i64 k) ∧ w'.cell? ⟨w.heap.size, 1, none⟩ = some (.int .i64 n) ∧ w'.cell? ⟨w.heap.size, 2, none⟩ = some (.int .i64 m) ∧ w'.cell? ⟨w.heap.size, 3, none⟩ = some (.slice (some p) 2 cap)) ∧
   (w'.cell? ⟨w.heap.size + 1, 0, none⟩ = some (.int .i64 v.rep) ∧ w'.cell? ⟨w.heap.size + 1, 1, none⟩ = some (.slice v.wa v.wins.length v.wcap) ∧ w'.cell? ⟨w.heap.size + 1, 2, none⟩ = some (.slice v.ca v.crons.length v.ccap)) ∧ (w'.cell? ⟨p.block, p.off + 4, none⟩ = some (.int .i64 kb.op) ∧ w'.cell? ⟨p.block, p.off + 4 + 1, none⟩ = some (.int .i64 kb.n) ∧ w'.cell? ⟨p.block, p.off + 4 + 2, none⟩ = some (.int .i64 kb.m) ∧ w'.cell? ⟨p.block, p.off + 4 + 3, none⟩ = some (.slice kb.at_ kb.kids.length kb.cap))) from
  ⟨core_cells (blk_below k2 hb), env_cells (blk_below k3 hb), hl1.lit hb 0 rfl⟩)
 have LK := Lib.hid (LiesL.lies hl1 (k := kb) (by simp))
 have EK := Lib.hid hE
 obtain ⟨⟨y0, y1, y2, y3⟩, -⟩ := HC.out w1 (Below.refl _ _)
 have HSZ := Lib.hid (show w.heap.size + 2 ≤ w1.heap.size by omega)
 clear hl hl1 henv hE k2 k3 e1 b1 s1 hk h14 hr hj hjk hne ha hy
 go_enter Tryd.func39, Tryd.ntmps39
 go_wp2_with fail
 rw [HE.out]
 go_wp2_with fail
 clear y0 y1 y2 y3
 refine wp_region_held_drew (S := fun w' => Aside0 (Below w1.heap.size w1 w')) (by kernel_rfl) ?_ (fun hHeld => ?_)
 ·exact ⟨(Below.refl _ _).drew⟩
 generalize World.drew _ = wDb at hHeld ⊢
 have HCr := HC
 refine' tk 0 ?_
 try simp only [pt]
 refine' tk 1 ?_
 try simp only [pt]
 refine' tk 2 ?_
 try simp only [pt]
 refine' tk 3 ?_
 try simp only [pt]
 refine' tk 4 ?_
 try simp only [pt]
 refine' cm 5 (fun K hK => ?_)
 go_simp
 refine (EK.out _ (LK.out.below hHeld.out) (HENV.out.below hHeld.out)).mono ?_
 rintro e w7 ⟨hret, hb2⟩
 obtain rfl := hret
 refine hK.out _ _ ⟨hHeld.out.trans (hb2.mono hHeld.out.size)⟩ (fun hHeld => ?_)
 clear hK K
 try simp only [pt]
 refine' tk 6 ?_
 try simp only [pt]
 refine' tk 7 ?_
 try simp only [pt]
 refine' tk 8 ?_
 try simp only [pt]
 refine' tk 9 ?_
 try simp only [pt]
 refine' tk 10 ?_
 try simp only [pt]
 refine wpAnyH_done (by kernel_rfl) ?_ _
 obtain ⟨⟨y0, y1, y2, y3⟩, -⟩ := HC.out _ hHeld.out
 go_wp2_with fail
 refine (ops_calls2 _).mono ?_
 rintro e wx ⟨rfl, hwx⟩
 obtain ⟨wT, eT, bT, kT, sT⟩ := box1 w7 (.cells opsCells 102)
 rw [hwx, eT]
 obtain ⟨gT, hgT⟩ : ∃ g, w7.heap.size = g := ⟨_, rfl⟩
 rw [hgT] at kT ⊢
 have HT := Lib.hid kT
 have HTB := Lib.hid (hHeld.out.trans (bT.mono hHeld.out.size))
 clear hwx eT kT sT hgT bT y0 y1 y2 y3
 go_wp2_with fail
 go_loopg [11, 90] 16 (fun gg _ v90 wr => ∃ i : Nat, v90 = .int .i64 i ∧ Aside0 (i ≤ j ∧ i + gg = 16) ∧ Aside0 (Below wT.heap.size wT wr))
 case atStart => exact ⟨0, rfl, ⟨by omega⟩, ⟨Below.refl _ _⟩⟩
 case round =>
  obtain ⟨i, rfl, hi, BW⟩ := hrel
  have HI := Lib.hid hi.out
  have HB := Lib.hid BW.out
  have hlt : i < 16 := by have := HI.out; have := HJ.out.1; omega
  obtain ⟨x, hx⟩ : ∃ x, opsT[i]? = some x := ⟨_, List.getElem?_eq_getElem hlt⟩
  obtain ⟨hc0, hc1⟩ := ops_row i x hx
  have kW := blk_below HT.out HB.out
  have c0 := (blk_cell kW (i * 2)).trans hc0
  have c1 := (blk_cell kW (i * 2 + 1)).trans hc1
  obtain ⟨y0, y1, y2, y3⟩ := HC.out _ (HTB.out.trans (HB.out.mono HTB.out.size))
  have q0 := eq_true (show (0 : Int) ≤ (i : Int) by omega)
  have q1 : ((i : Int) < 16) = True := eq_true (by omega)
  have q2 : (i < 16) = True := eq_true hlt
  have n1 : ¬ w.heap.size = wr.heap.size := by have := HSZ.out; have := HTB.out.size; have := HB.out.size; omega
  have n2 : ¬ wr.heap.size = w.heap.size := fun e => n1 e.symm
  have n3 : w.heap.size < wr.heap.size := by have := HSZ.out; have := HTB.out.size; have := HB.out.size; omega
  have HX := Lib.hid hx
  clear hi BW hc0 hc1 kW hx hlt
  by_cases hij : i = j
  ·obtain rfl : x = (k, f) := by
    have h1 := HX.out
    rw [hij, HJ.out.2.1] at h1
    injection h1 with h1
    exact h1.symm
   simp only at c0 c1
   clear hij
   go_wp2_with fail
   refine (fn_all HK.out HAB.out.1 HAB.out.2 _).mono ?_
   rintro e w7 ⟨rfl, hb7⟩
   go_wp2_with fail
   go_ret2
   refine ⟨by first | rfl | simp, ?_⟩
   refine B1.out.trans (Below.mono (B := w1.heap.size) ?_ B1.out.size)
   refine Below.trans ?_ (hb7.mono ?_)
   ·repeat (first | exact HTB.out.trans (HB.out.mono HTB.out.size) | refine Below.setCell ?_ (Nat.le_trans HTB.out.size HB.out.size) _ | refine Below.alloc ?_ (Nat.le_trans HTB.out.size HB.out.size) _)
   ·have := HTB.out.size
    have := HB.out.size
    simp
    omega
  ·have hne2 := HJ.out.2.2 i (by have := HI.out; omega) x HX.out
   have hne3 : (k == x.1) = false := by
    simp only [beq_eq_false_iff_ne] at hne2 ⊢
    exact Ne.symm hne2
   have w5 : wrap64 ((i : Int) + 1) = ((i + 1 : Nat) : Int) := by have := HI.out; have := HJ.out.1; unfold wrap64; omega
   have HIJ := Lib.hid hij
   clear hij
   go_wp2_with fail
   go_roundg (gk - 1)
   case measure => clear w5; have := HI.out; have := HJ.out.1; omega
   case rel =>
    refine ⟨i + 1, by first | rfl | simp [w5], ⟨by clear w5; have := HI.out; have := HIJ.out; have := HJ.out.1; omega⟩, ⟨?_⟩⟩
    repeat (first | exact HB.out | refine Below.setCell ?_ HB.out.size _ | refine Below.alloc ?_ HB.out.size _)
theorem onward_bin_div {ka kb : Cr} {y : Int} (hk : (k, f) ∈ opsT) (h14 : 14 ≤ k) (ha : R64 a) (hy : R64 y) (h17 : k = 17) (h0 : ¬ y = 0) (hl : LiesL w (some p) 0 [ka, kb]) (henv : EnvL w v) (hE : EvalC v kb (.num y)) : Calls Tryd.prog 39 #[.agg #[.int .i64 k, .int .i64 n, .int .i64 m, .slice (some p) 2 cap], .int .i64 a, .agg #[.int .i64 v.rep, .slice v.wa v.wins.length v.wcap, .slice v.ca v.crons.length v.ccap]] w fun e w' => e = .returned (.tuple #[.int .i64 (fnS k a y), .nilIface]) ∧ Below w.heap.size w w' := by
 have hr := ops_range hk
 have HK := Lib.hid hk
 obtain ⟨j, hj, hjk, hne⟩ := ops_at hk
 have HJ := Lib.hid (And.intro hj (And.intro hjk hne))
 have eg := ops_enter hk
 have p7 : (k == 7) = false := by simp; omega
 have p27 : (k == 27) = false := by simp; omega
 have p13 : (k == 13) = false := by simp; omega
 have p28 : (k == 28) = false := by simp; omega
 have p25 : (k == 25) = false := by simp; omega
 have p26 : (k == 26) = false := by simp; omega
 have p17 : (k == 17) = true := by simpa using h17
 have py : (y == 0) = false := by simpa using h0
 clear h17 h0
 have HAB := Lib.hid (And.intro ha hy)
 obtain ⟨w1, e1, b1, k2, k3, s1⟩ := box2 w (.cells #[.int .i64 k, .int .i64 n, .int .i64 m, .slice (some p) 2 cap] 24) (.cells #[.int .i64 v.rep, .slice v.wa v.wins.length v.wcap, .slice v.ca v.crons.length v.ccap] 28)
 have HE := Lib.hid e1
 have B1 := Lib.hid b1
 have hl1 := hl.below b1
 have HENV := Lib.hid (henv.below b1)
 have HC := Lib.hid fun (w' : World) (hb : Below w1.heap.size w1 w') => (show ((w'.cell? ⟨w.heap.size, 0, none⟩ = some (.int .i64 k) ∧ w'.cell? ⟨w.heap.size, 1, none⟩ = some (.int .i64 n) ∧ w'.cell? ⟨w.heap.size, 2, none⟩ = some (.int .i64 m) ∧ w'.cell? ⟨w.heap.size, 3, none⟩ = some (.slice (some p) 2 cap)) ∧
   (w'.cell? ⟨w.heap.size + 1, 0, none⟩ = some (.int .i64 v.rep) ∧ w'.cell? ⟨w.heap.size + 1, 1, none⟩ = some (.slice v.wa v.wins.length v.wcap) ∧ w'.cell? ⟨w.heap.size + 1, 2, none⟩ = some (.slice v.ca v.crons.length v.ccap)) ∧ (w'.cell? ⟨p.block, p.off + 4, none⟩ = some (.int .i64 kb.op) ∧ w'.cell? ⟨p.block, p.off + 4 + 1, none⟩ = some (.int .i64 kb.n) ∧ w'.cell? ⟨p.block, p.off + 4 + 2, none⟩ = some (.int .i64 kb.m) ∧ w'.cell? ⟨p.block, p.off + 4 + 3, none⟩ = some (.slice kb.at_ kb.kids.length kb.cap))) from
  ⟨core_cells (blk_below k2 hb), env_cells (blk_below k3 hb), hl1.lit hb 0 rfl⟩)
 have LK := Lib.hid (LiesL.lies hl1 (k := kb) (by simp))
 have EK := Lib.hid hE
 obtain ⟨⟨y0, y1, y2, y3⟩, -⟩ := HC.out w1 (Below.refl _ _)
 have HSZ := Lib.hid (show w.heap.size + 2 ≤ w1.heap.size by omega)
 clear hl hl1 henv hE k2 k3 e1 b1 s1 hk h14 hr hj hjk hne ha hy
 go_enter Tryd.func39, Tryd.ntmps39
 go_wp2_with fail
 rw [HE.out]
 go_wp2_with fail
 clear y0 y1 y2 y3
 refine wp_region_held_drew (S := fun w' => Aside0 (Below w1.heap.size w1 w')) (by kernel_rfl) ?_ (fun hHeld => ?_)
 ·exact ⟨(Below.refl _ _).drew⟩
 generalize World.drew _ = wDb at hHeld ⊢
 have HCr := HC
 refine' tk 0 ?_
 try simp only [pt]
 refine' tk 1 ?_
 try simp only [pt]
 refine' tk 2 ?_
 try simp only [pt]
 refine' tk 3 ?_
 try simp only [pt]
 refine' tk 4 ?_
 try simp only [pt]
 refine' cm 5 (fun K hK => ?_)
 go_simp
 refine (EK.out _ (LK.out.below hHeld.out) (HENV.out.below hHeld.out)).mono ?_
 rintro e w7 ⟨hret, hb2⟩
 obtain rfl := hret
 refine hK.out _ _ ⟨hHeld.out.trans (hb2.mono hHeld.out.size)⟩ (fun hHeld => ?_)
 clear hK K
 try simp only [pt]
 refine' tk 6 ?_
 try simp only [pt]
 refine' tk 7 ?_
 try simp only [pt]
 refine' tk 8 ?_
 try simp only [pt]
 refine' tk 9 ?_
 try simp only [pt]
 refine' tk 10 ?_
 try simp only [pt]
 refine wpAnyH_done (by kernel_rfl) ?_ _
 obtain ⟨⟨y0, y1, y2, y3⟩, -⟩ := HC.out _ hHeld.out
 go_wp2_with fail
 refine (ops_calls2 _).mono ?_
 rintro e wx ⟨rfl, hwx⟩
 obtain ⟨wT, eT, bT, kT, sT⟩ := box1 w7 (.cells opsCells 102)
 rw [hwx, eT]
 obtain ⟨gT, hgT⟩ : ∃ g, w7.heap.size = g := ⟨_, rfl⟩
 rw [hgT] at kT ⊢
 have HT := Lib.hid kT
 have HTB := Lib.hid (hHeld.out.trans (bT.mono hHeld.out.size))
 clear hwx eT kT sT hgT bT y0 y1 y2 y3
 go_wp2_with fail
 go_loopg [11, 90] 16 (fun gg _ v90 wr => ∃ i : Nat, v90 = .int .i64 i ∧ Aside0 (i ≤ j ∧ i + gg = 16) ∧ Aside0 (Below wT.heap.size wT wr))
 case atStart => exact ⟨0, rfl, ⟨by omega⟩, ⟨Below.refl _ _⟩⟩
 case round =>
  obtain ⟨i, rfl, hi, BW⟩ := hrel
  have HI := Lib.hid hi.out
  have HB := Lib.hid BW.out
  have hlt : i < 16 := by have := HI.out; have := HJ.out.1; omega
  obtain ⟨x, hx⟩ : ∃ x, opsT[i]? = some x := ⟨_, List.getElem?_eq_getElem hlt⟩
  obtain ⟨hc0, hc1⟩ := ops_row i x hx
  have kW := blk_below HT.out HB.out
  have c0 := (blk_cell kW (i * 2)).trans hc0
  have c1 := (blk_cell kW (i * 2 + 1)).trans hc1
  obtain ⟨y0, y1, y2, y3⟩ := HC.out _ (HTB.out.trans (HB.out.mono HTB.out.size))
  have q0 := eq_true (show (0 : Int) ≤ (i : Int) by omega)
  have q1 : ((i : Int) < 16) = True := eq_true (by omega)
  have q2 : (i < 16) = True := eq_true hlt
  have n1 : ¬ w.heap.size = wr.heap.size := by have := HSZ.out; have := HTB.out.size; have := HB.out.size; omega
  have n2 : ¬ wr.heap.size = w.heap.size := fun e => n1 e.symm
  have n3 : w.heap.size < wr.heap.size := by have := HSZ.out; have := HTB.out.size; have := HB.out.size; omega
  have HX := Lib.hid hx
  clear hi BW hc0 hc1 kW hx hlt
  by_cases hij : i = j
  ·obtain rfl : x = (k, f) := by
    have h1 := HX.out
    rw [hij, HJ.out.2.1] at h1
    injection h1 with h1
    exact h1.symm
   simp only at c0 c1
   clear hij
   go_wp2_with fail
   refine (fn_all HK.out HAB.out.1 HAB.out.2 _).mono ?_
   rintro e w7 ⟨rfl, hb7⟩
   go_wp2_with fail
   go_ret2
   refine ⟨by first | rfl | simp, ?_⟩
   refine B1.out.trans (Below.mono (B := w1.heap.size) ?_ B1.out.size)
   refine Below.trans ?_ (hb7.mono ?_)
   ·repeat (first | exact HTB.out.trans (HB.out.mono HTB.out.size) | refine Below.setCell ?_ (Nat.le_trans HTB.out.size HB.out.size) _ | refine Below.alloc ?_ (Nat.le_trans HTB.out.size HB.out.size) _)
   ·have := HTB.out.size
    have := HB.out.size
    simp
    omega
  ·have hne2 := HJ.out.2.2 i (by have := HI.out; omega) x HX.out
   have hne3 : (k == x.1) = false := by
    simp only [beq_eq_false_iff_ne] at hne2 ⊢
    exact Ne.symm hne2
   have w5 : wrap64 ((i : Int) + 1) = ((i + 1 : Nat) : Int) := by have := HI.out; have := HJ.out.1; unfold wrap64; omega
   have HIJ := Lib.hid hij
   clear hij
   go_wp2_with fail
   go_roundg (gk - 1)
   case measure => clear w5; have := HI.out; have := HJ.out.1; omega
   case rel =>
    refine ⟨i + 1, by first | rfl | simp [w5], ⟨by clear w5; have := HI.out; have := HIJ.out; have := HJ.out.1; omega⟩, ⟨?_⟩⟩
    repeat (first | exact HB.out | refine Below.setCell ?_ HB.out.size _ | refine Below.alloc ?_ HB.out.size _)
theorem onward_bin_zero {ka kb : Cr} {y : Int} (hk : (k, f) ∈ opsT) (h17 : k = 17) (h0 : y = 0) (hl : LiesL w (some p) 0 [ka, kb]) (henv : EnvL w v) (hE : EvalC v kb (.num y)) : Calls Tryd.prog 39 #[.agg #[.int .i64 k, .int .i64 n, .int .i64 m, .slice (some p) 2 cap], .int .i64 a, .agg #[.int .i64 v.rep, .slice v.wa v.wins.length v.wcap, .slice v.ca v.crons.length v.ccap]] w fun e w' => RetE (.stop 2) e w' ∧ Below w.heap.size w w' := by
 subst h0
 have hr := ops_range hk
 have HK := Lib.hid hk
 obtain ⟨j, hj, hjk, hne⟩ := ops_at hk
 have HJ := Lib.hid (And.intro hj (And.intro hjk hne))
 have eg := ops_enter hk
 have p7 : (k == 7) = false := by simp; omega
 have p27 : (k == 27) = false := by simp; omega
 have p13 : (k == 13) = false := by simp; omega
 have p28 : (k == 28) = false := by simp; omega
 have p25 : (k == 25) = false := by simp; omega
 have p26 : (k == 26) = false := by simp; omega
 have p17 : (k == 17) = true := by simpa using h17
 obtain ⟨w1, e1, b1, k2, k3, s1⟩ := box2 w (.cells #[.int .i64 k, .int .i64 n, .int .i64 m, .slice (some p) 2 cap] 24) (.cells #[.int .i64 v.rep, .slice v.wa v.wins.length v.wcap, .slice v.ca v.crons.length v.ccap] 28)
 have HE := Lib.hid e1
 have B1 := Lib.hid b1
 have hl1 := hl.below b1
 have HENV := Lib.hid (henv.below b1)
 have HC := Lib.hid fun (w' : World) (hb : Below w1.heap.size w1 w') => (show ((w'.cell? ⟨w.heap.size, 0, none⟩ = some (.int .i64 k) ∧ w'.cell? ⟨w.heap.size, 1, none⟩ = some (.int .i64 n) ∧ w'.cell? ⟨w.heap.size, 2, none⟩ = some (.int .i64 m) ∧ w'.cell? ⟨w.heap.size, 3, none⟩ = some (.slice (some p) 2 cap)) ∧
   (w'.cell? ⟨w.heap.size + 1, 0, none⟩ = some (.int .i64 v.rep) ∧ w'.cell? ⟨w.heap.size + 1, 1, none⟩ = some (.slice v.wa v.wins.length v.wcap) ∧ w'.cell? ⟨w.heap.size + 1, 2, none⟩ = some (.slice v.ca v.crons.length v.ccap)) ∧ (w'.cell? ⟨p.block, p.off + 4, none⟩ = some (.int .i64 kb.op) ∧ w'.cell? ⟨p.block, p.off + 4 + 1, none⟩ = some (.int .i64 kb.n) ∧ w'.cell? ⟨p.block, p.off + 4 + 2, none⟩ = some (.int .i64 kb.m) ∧ w'.cell? ⟨p.block, p.off + 4 + 3, none⟩ = some (.slice kb.at_ kb.kids.length kb.cap))) from
  ⟨core_cells (blk_below k2 hb), env_cells (blk_below k3 hb), hl1.lit hb 0 rfl⟩)
 have LK := Lib.hid (LiesL.lies hl1 (k := kb) (by simp))
 have EK := Lib.hid hE
 obtain ⟨⟨y0, y1, y2, y3⟩, -⟩ := HC.out w1 (Below.refl _ _)
 clear hl hl1 henv hE k2 k3 e1 b1 s1 hk h17 hr hj hjk hne
 go_enter Tryd.func39, Tryd.ntmps39
 go_wp2_with fail
 rw [HE.out]
 go_wp2_with fail
 clear y0 y1 y2 y3
 refine wp_region_held_drew (S := fun w' => Aside0 (Below w1.heap.size w1 w')) (by kernel_rfl) ?_ (fun hHeld => ?_)
 ·exact ⟨(Below.refl _ _).drew⟩
 generalize World.drew _ = wDb at hHeld ⊢
 have HCr := HC
 refine' tk 0 ?_
 try simp only [pt]
 refine' tk 1 ?_
 try simp only [pt]
 refine' tk 2 ?_
 try simp only [pt]
 refine' tk 3 ?_
 try simp only [pt]
 refine' tk 4 ?_
 try simp only [pt]
 refine' cm 5 (fun K hK => ?_)
 go_simp
 refine (EK.out _ (LK.out.below hHeld.out) (HENV.out.below hHeld.out)).mono ?_
 rintro e w7 ⟨hret, hb2⟩
 obtain rfl := hret
 refine hK.out _ _ ⟨hHeld.out.trans (hb2.mono hHeld.out.size)⟩ (fun hHeld => ?_)
 clear hK K
 try simp only [pt]
 refine' tk 6 ?_
 try simp only [pt]
 refine' tk 7 ?_
 try simp only [pt]
 refine' tk 8 ?_
 try simp only [pt]
 refine' tk 9 ?_
 try simp only [pt]
 refine' tk 10 ?_
 try simp only [pt]
 refine wpAnyH_done (by kernel_rfl) ?_ _
 obtain ⟨⟨y0, y1, y2, y3⟩, -⟩ := HC.out _ hHeld.out
 go_wp2_with fail
 go_ret2
 exact ⟨⟨w7.heap.size, by first | rfl | simp, by simp⟩, B1.out.trans ((hHeld.out.trans (below_alloc (Below.refl _ _) _ |>.mono hHeld.out.size)).mono B1.out.size)⟩
end
end Go.Proofs.YtpljkcakijkklaaDoor

end
section
namespace Go.Proofs.YtpljkcakijkklaaDoor
set_option linter.unusedVariables false
set_option linter.unusedSimpArgs false
open Go.RowKit Go.Proofs.YtpljkcakijkklaaDoorW.PrintWords Go.Proofs.YtpljkcakijkklaaDoorW.PrintLast Go.Proofs.YtpljkcakijkklaaDoorW.PrintMore

theorem bit_calls (b : Bool) {r : Int} (hr : (if b then (1 : Int) else 0) = r) (w : World) : Calls Tryd.prog 38 #[.bool b] w fun e w' => e = .returned (.int .i64 r) ∧ w' = w := by
 subst hr
 cases b
 ·go_enter Tryd.func38, Tryd.ntmps38
  go_wp2
  go_ret
  exact ⟨rfl, rfl⟩
 ·go_enter Tryd.func38, Tryd.ntmps38
  go_wp2
  go_ret
  exact ⟨rfl, rfl⟩
section
variable {op n m : Int} {v : En} {p : Addr} {at_ : Option Addr} {cap : Nat} {w : World}
theorem eval_lit1 : Calls Tryd.prog 23 #[.agg #[.int .i64 1, .int .i64 n, .int .i64 m, .slice at_ 0 cap], .agg #[.int .i64 v.rep, .slice v.wa v.wins.length v.wcap, .slice v.ca v.crons.length v.ccap]] w fun e w' => RetE (.num n) e w' ∧ Below w.heap.size w w' := by
 obtain ⟨w1, e1, b1, k2, k3, s1⟩ := box2 w (.cells #[.int .i64 1, .int .i64 n, .int .i64 m, .slice at_ 0 cap] 24) (.cells #[.int .i64 v.rep, .slice v.wa v.wins.length v.wcap, .slice v.ca v.crons.length v.ccap] 28)
 have HE := Lib.hid e1
 have B1 := Lib.hid b1
 obtain ⟨y0, y1, y2, y3⟩ := core_cells k2
 obtain ⟨x0, x1, x2⟩ := env_cells k3
 clear k2 k3 e1 b1 s1
 go_enter Tryd.func23, Tryd.ntmps23
 go_wp2_with fail
 rw [HE.out]
 go_wp2_with fail
 go_ret2
 exact ⟨by first | rfl | (show _ = _; simp), B1.out⟩
theorem eval_lit2 : Calls Tryd.prog 23 #[.agg #[.int .i64 2, .int .i64 n, .int .i64 m, .slice at_ 0 cap], .agg #[.int .i64 v.rep, .slice v.wa v.wins.length v.wcap, .slice v.ca v.crons.length v.ccap]] w fun e w' => RetE (.num n) e w' ∧ Below w.heap.size w w' := by
 obtain ⟨w1, e1, b1, k2, k3, s1⟩ := box2 w (.cells #[.int .i64 2, .int .i64 n, .int .i64 m, .slice at_ 0 cap] 24) (.cells #[.int .i64 v.rep, .slice v.wa v.wins.length v.wcap, .slice v.ca v.crons.length v.ccap] 28)
 have HE := Lib.hid e1
 have B1 := Lib.hid b1
 obtain ⟨y0, y1, y2, y3⟩ := core_cells k2
 obtain ⟨x0, x1, x2⟩ := env_cells k3
 clear k2 k3 e1 b1 s1
 go_enter Tryd.func23, Tryd.ntmps23
 go_wp2_with fail
 rw [HE.out]
 go_wp2_with fail
 go_ret2
 exact ⟨by first | rfl | (show _ = _; simp), B1.out⟩
theorem eval_rep (hv : R64 v.rep) : Calls Tryd.prog 23 #[.agg #[.int .i64 3, .int .i64 n, .int .i64 m, .slice at_ 0 cap], .agg #[.int .i64 v.rep, .slice v.wa v.wins.length v.wcap, .slice v.ca v.crons.length v.ccap]] w fun e w' => RetE (.num (heldI (v.rep * 1000000))) e w' ∧ Below w.heap.size w w' := by
 obtain ⟨r, hr⟩ : ∃ r, heldI (v.rep * 1000000) = r := ⟨_, rfl⟩
 have hs : fix_Whole.f v.rep = some r := by
  unfold fix_Whole.f
  rw [if_pos hv, hr]
 rw [hr]
 have HS := Lib.hid hs
 clear hs hr hv
 obtain ⟨w1, e1, b1, k2, k3, s1⟩ := box2 w (.cells #[.int .i64 3, .int .i64 n, .int .i64 m, .slice at_ 0 cap] 24) (.cells #[.int .i64 v.rep, .slice v.wa v.wins.length v.wcap, .slice v.ca v.crons.length v.ccap] 28)
 have HE := Lib.hid e1
 have B1 := Lib.hid b1
 obtain ⟨y0, y1, y2, y3⟩ := core_cells k2
 obtain ⟨x0, x1, x2⟩ := env_cells k3
 clear k2 k3 e1 b1 s1
 go_enter Tryd.func23, Tryd.ntmps23
 go_wp2_with fail
 rw [HE.out]
 go_wp2_with fail
 refine (fix_Whole.calls v.rep r _ HS.out).mono ?_
 rintro e w7 ⟨rfl, hb7⟩
 go_wp2_with fail
 go_ret2
 exact ⟨by first | rfl | (show _ = _; simp), B1.out.trans (hb7.mono B1.out.size)⟩
theorem eval_fail : Calls Tryd.prog 23 #[.agg #[.int .i64 6, .int .i64 n, .int .i64 m, .slice at_ 0 cap], .agg #[.int .i64 v.rep, .slice v.wa v.wins.length v.wcap, .slice v.ca v.crons.length v.ccap]] w fun e w' => RetE (.stop n) e w' ∧ Below w.heap.size w w' := by
 obtain ⟨w1, e1, b1, k2, k3, s1⟩ := box2 w (.cells #[.int .i64 6, .int .i64 n, .int .i64 m, .slice at_ 0 cap] 24) (.cells #[.int .i64 v.rep, .slice v.wa v.wins.length v.wcap, .slice v.ca v.crons.length v.ccap] 28)
 have HE := Lib.hid e1
 have B1 := Lib.hid b1
 obtain ⟨y0, y1, y2, y3⟩ := core_cells k2
 obtain ⟨x0, x1, x2⟩ := env_cells k3
 have HC := Lib.hid fun (w' : World) (hb : Below w1.heap.size w1 w') => core_cells (blk_below k2 hb)
 clear k2 k3 e1 b1 s1
 go_enter Tryd.func23, Tryd.ntmps23
 go_wp2_with fail
 rw [HE.out]
 go_wp2_with fail
 clear y0 y1 y2 y3 x0 x1 x2
 refine wp_region_held_drew (S := fun w' => Aside0 (Below w1.heap.size w1 w')) (by kernel_rfl) ?_ (fun hHeld => ?_)
 ·exact ⟨(Below.refl _ _).drew⟩
 generalize World.drew _ = wDa at hHeld ⊢
 have HCr := HC
 refine' tk 0 ?_
 try simp only [pt]
 refine' tk 1 ?_
 try simp only [pt]
 refine' tk 2 ?_
 try simp only [pt]
 refine' tk 5 ?_
 try simp only [pt]
 refine' cm 3 (fun K hK => ?_)
 go_simp
 refine hK.out _ _ ⟨hHeld.out.alloc hHeld.out.size _⟩ (fun hHeld => ?_)
 clear hK K
 try simp only [pt]
 refine' tk 4 ?_
 try simp only [pt]
 refine' tk 6 ?_
 try simp only [pt]
 refine wpAnyH_done (by kernel_rfl) ?_ _
 go_wp2_with fail
 go_ret2
 exact ⟨⟨_, by first | rfl | simp, by first | (simp; done) | exact (blk_cell (blk_new _ _) 0).trans rfl⟩, B1.out.trans (hHeld.out.mono B1.out.size)⟩
theorem eval_cron {i : Nat} {b : Bool} (hi : v.crons[i]? = some b) (henv : EnvL w v) : Calls Tryd.prog 23 #[.agg #[.int .i64 5, .int .i64 (i : Int), .int .i64 m, .slice at_ 0 cap], .agg #[.int .i64 v.rep, .slice v.wa v.wins.length v.wcap, .slice v.ca v.crons.length v.ccap]] w fun e w' => RetE (.num (if b then 1 else 0)) e w' ∧ Below w.heap.size w w' := by
 obtain ⟨q, hq, hc⟩ := henv.2.2.2.2 i b hi
 have hlt : i < v.crons.length := (List.getElem?_eq_some_iff.1 hi).1
 have c0 : w.cell? (q.add i) = some (.bool b) := by
  have := cells_get hc 0 _ rfl
  rw [Addr.add_add] at this
  exact this
 have hblk : (q.add i).block < w.heap.size := World.block_lt_of_cell? w _ c0
 have n0 : ¬ (q.add i).block = w.heap.size := by omega
 have n1 : ¬ w.heap.size = (q.add i).block := by omega
 have n2 : (q.add i).block < w.heap.size := by omega
 have n3 : ¬ (q.add i).block = w.heap.size + 1 := by omega
 have n4 : ¬ w.heap.size + 1 = (q.add i).block := by omega
 have n5 : (q.add i).block < w.heap.size + 1 := by omega
 rw [hq]
 have q0 := eq_true (show (0 : Int) ≤ (i : Int) by omega)
 have q1 : ((i : Int) < (v.crons.length : Int)) = True := eq_true (by omega)
 have q2 : (i < v.crons.length) = True := eq_true hlt
 clear henv hi hc hq hlt
 obtain ⟨r, hr⟩ : ∃ r, (if b then (1 : Int) else 0) = r := ⟨_, rfl⟩
 have HR := Lib.hid hr
 rw [hr]
 clear hr
 go_enter Tryd.func23, Tryd.ntmps23
 go_wp2_with fail
 refine (bit_calls b HR.out _).mono ?_
 rintro e w7 ⟨rfl, hw7⟩
 rw [hw7]
 go_wp2_with fail
 go_ret2
 exact ⟨by first | rfl | (show _ = _; simp), below_alloc (below_alloc (Below.refl _ _) _) _⟩
theorem eval_win_fine {i : Nat} {r x : Int} (hr : r = 0) (hi : v.wins[i]? = some (r, x)) (henv : EnvL w v) : Calls Tryd.prog 23 #[.agg #[.int .i64 4, .int .i64 (i : Int), .int .i64 m, .slice at_ 0 cap], .agg #[.int .i64 v.rep, .slice v.wa v.wins.length v.wcap, .slice v.ca v.crons.length v.ccap]] w fun e w' => RetE (.num x) e w' ∧ Below w.heap.size w w' := by
 subst hr
 obtain ⟨-, -, q, hq, hc⟩ := henv.2.2.2.1 i (0, x) hi
 have hlt : i < v.wins.length := (List.getElem?_eq_some_iff.1 hi).1
 have c0 : w.cell? (q.add (i * 2)) = some (.int .i64 0) := by
  have := cells_get hc 0 _ rfl
  rw [Addr.add_add] at this
  exact this
 have c1 : w.cell? ⟨(q.add (i * 2)).block, (q.add (i * 2)).off + 1, none⟩ = some (.int .i64 x) := by
  rw [← add_field _ _ 1 (by omega)]
  have := cells_get hc 1 _ rfl
  rw [Addr.add_add] at this
  exact this
 have hblk : (q.add (i * 2)).block < w.heap.size := World.block_lt_of_cell? w _ c0
 have n0 : ¬ (q.add (i * 2)).block = w.heap.size := by omega
 have n1 : ¬ w.heap.size = (q.add (i * 2)).block := by omega
 have n2 : (q.add (i * 2)).block < w.heap.size := by omega
 have n3 : ¬ (q.add (i * 2)).block = w.heap.size + 1 := by omega
 have n4 : ¬ w.heap.size + 1 = (q.add (i * 2)).block := by omega
 have n5 : (q.add (i * 2)).block < w.heap.size + 1 := by omega
 have n6 : ¬ (q.add (i * 2)).block = w.heap.size + 2 := by omega
 have n7 : ¬ w.heap.size + 2 = (q.add (i * 2)).block := by omega
 have n8 : (q.add (i * 2)).block < w.heap.size + 2 := by omega
 rw [hq]
 have q0 := eq_true (show (0 : Int) ≤ (i : Int) by omega)
 have q1 : ((i : Int) < (v.wins.length : Int)) = True := eq_true (by omega)
 have q2 : (i < v.wins.length) = True := eq_true hlt
 clear henv hi hc hq hlt
 go_enter Tryd.func23, Tryd.ntmps23
 go_wp2_with fail
 go_ret2
 exact ⟨by first | rfl | (show _ = _; simp), below_alloc (below_alloc (below_alloc (Below.refl _ _) _) _) _⟩
theorem eval_win_stop {i : Nat} {r x : Int} (hr : ¬ r = 0) (hi : v.wins[i]? = some (r, x)) (henv : EnvL w v) : Calls Tryd.prog 23 #[.agg #[.int .i64 4, .int .i64 (i : Int), .int .i64 m, .slice at_ 0 cap], .agg #[.int .i64 v.rep, .slice v.wa v.wins.length v.wcap, .slice v.ca v.crons.length v.ccap]] w fun e w' => RetE (.stop r) e w' ∧ Below w.heap.size w w' := by
 have g1 : (r != 0) = true := by simpa using hr
 clear hr
 obtain ⟨-, -, q, hq, hc⟩ := henv.2.2.2.1 i (r, x) hi
 have hlt : i < v.wins.length := (List.getElem?_eq_some_iff.1 hi).1
 have c0 : w.cell? (q.add (i * 2)) = some (.int .i64 r) := by
  have := cells_get hc 0 _ rfl
  rw [Addr.add_add] at this
  exact this
 have c1 : w.cell? ⟨(q.add (i * 2)).block, (q.add (i * 2)).off + 1, none⟩ = some (.int .i64 x) := by
  rw [← add_field _ _ 1 (by omega)]
  have := cells_get hc 1 _ rfl
  rw [Addr.add_add] at this
  exact this
 have hblk : (q.add (i * 2)).block < w.heap.size := World.block_lt_of_cell? w _ c0
 have n0 : ¬ (q.add (i * 2)).block = w.heap.size := by omega
 have n1 : ¬ w.heap.size = (q.add (i * 2)).block := by omega
 have n2 : (q.add (i * 2)).block < w.heap.size := by omega
 have n3 : ¬ (q.add (i * 2)).block = w.heap.size + 1 := by omega
 have n4 : ¬ w.heap.size + 1 = (q.add (i * 2)).block := by omega
 have n5 : (q.add (i * 2)).block < w.heap.size + 1 := by omega
 have n6 : ¬ (q.add (i * 2)).block = w.heap.size + 2 := by omega
 have n7 : ¬ w.heap.size + 2 = (q.add (i * 2)).block := by omega
 have n8 : (q.add (i * 2)).block < w.heap.size + 2 := by omega
 rw [hq]
 have q0 := eq_true (show (0 : Int) ≤ (i : Int) by omega)
 have q1 : ((i : Int) < (v.wins.length : Int)) = True := eq_true (by omega)
 have q2 : (i < v.wins.length) = True := eq_true hlt
 clear henv hi hc hq hlt
 go_enter Tryd.func23, Tryd.ntmps23
 go_wp2_with fail
 obtain ⟨w9, hw9⟩ : ∃ w9, World.alloc (World.alloc (World.alloc w (.cells #[.int .i64 4, .int .i64 (i : Int), .int .i64 m, .slice at_ 0 cap] 24)) (.cells #[.int .i64 v.rep, .slice (some q) v.wins.length v.wcap, .slice v.ca v.crons.length v.ccap] 28)) (.cells #[.int .i64 r, .int .i64 x] 34) = w9 := ⟨_, rfl⟩
 have b9 : Below w.heap.size w w9 := by rw [← hw9]; exact below_alloc (below_alloc (below_alloc (Below.refl _ _) _) _) _
 have k9 : w9.heap[w.heap.size + 1 + 1]? = some (.cells #[.int .i64 r, .int .i64 x] 34 (0, 0)) := by rw [← hw9]; have := blk_new (World.alloc (World.alloc w (.cells #[.int .i64 4, .int .i64 (i : Int), .int .i64 m, .slice at_ 0 cap] 24)) (.cells #[.int .i64 v.rep, .slice (some q) v.wins.length v.wcap, .slice v.ca v.crons.length v.ccap] 28)) (.cells #[.int .i64 r, .int .i64 x] 34); simpa using this
 rw [hw9]
 have HC := Lib.hid fun (w' : World) (hb : Below w9.heap.size w9 w') => (show w'.cell? ⟨w.heap.size + 1 + 1, 0, none⟩ = some (.int .i64 r) ∧ True from ⟨(blk_cell (blk_below k9 hb) 0).trans rfl, trivial⟩)
 have B9 := Lib.hid b9
 clear c0 c1 hblk n0 n1 n2 n3 n4 n5 n6 n7 n8 hw9 k9 b9
 refine wp_region_held_drew (S := fun w' => Aside0 (Below w9.heap.size w9 w')) (by kernel_rfl) ?_ (fun hHeld => ?_)
 ·exact ⟨(Below.refl _ _).drew⟩
 generalize World.drew _ = wDa at hHeld ⊢
 have HCr := HC
 refine' tk 0 ?_
 try simp only [pt]
 refine' tk 1 ?_
 try simp only [pt]
 refine' tk 2 ?_
 try simp only [pt]
 refine' tk 5 ?_
 try simp only [pt]
 refine' cm 3 (fun K hK => ?_)
 go_simp
 refine hK.out _ _ ⟨hHeld.out.alloc hHeld.out.size _⟩ (fun hHeld => ?_)
 clear hK K
 try simp only [pt]
 refine' tk 4 ?_
 try simp only [pt]
 refine' tk 6 ?_
 try simp only [pt]
 refine wpAnyH_done (by kernel_rfl) ?_ _
 go_wp2_with fail
 go_ret2
 exact ⟨⟨_, by first | rfl | simp, by first | (simp; done) | exact (blk_cell (blk_new _ _) 0).trans rfl⟩, B9.out.trans (hHeld.out.mono B9.out.size)⟩
end
end Go.Proofs.YtpljkcakijkklaaDoor

end
section
namespace Go.Proofs.YtpljkcakijkklaaDoor
set_option linter.unusedVariables false
set_option linter.unusedSimpArgs false
open Go.RowKit Go.Proofs.YtpljkcakijkklaaDoorW.PrintWords Go.Proofs.YtpljkcakijkklaaDoorW.PrintLast Go.Proofs.YtpljkcakijkklaaDoorW.PrintMore

section
variable {op n m : Int} {v : En} {p : Addr} {cap len : Nat} {w : World} {l : List Cr} {ka kb : Cr}
theorem eval_onward {a : Int} {r : Rs} (h6 : 6 < op) (hlen : l.length = len) (hk0 : l[0]? = some ka) (hl : Lies w (.node op n m (some p) cap l)) (henv : EnvL w v) (hE : EvalC v ka (.num a))
  (hO : ∀ W, Lies W (.node op n m (some p) cap l) → EnvL W v → Calls Tryd.prog 39 #[.agg #[.int .i64 op, .int .i64 n, .int .i64 m, .slice (some p) len cap], .int .i64 a, .agg #[.int .i64 v.rep, .slice v.wa v.wins.length v.wcap, .slice v.ca v.crons.length v.ccap]] W fun e w' => RetE r e w' ∧ Below W.heap.size W w') :
  Calls Tryd.prog 23 #[.agg #[.int .i64 op, .int .i64 n, .int .i64 m, .slice (some p) len cap], .agg #[.int .i64 v.rep, .slice v.wa v.wins.length v.wcap, .slice v.ca v.crons.length v.ccap]] w fun e w' => RetE r e w' ∧ Below w.heap.size w w' := by
 have p1 : (op == 1) = false := by simp; omega
 have p2 : (op == 2) = false := by simp; omega
 have p3 : (op == 3) = false := by simp; omega
 have p4 : (op == 4) = false := by simp; omega
 have p5 : (op == 5) = false := by simp; omega
 have p6 : (op == 6) = false := by simp; omega
 have hpos : 0 < len := by rw [← hlen]; exact (List.getElem?_eq_some_iff.1 hk0).1
 have p40 : (0 < len) = True := eq_true hpos
 have p41 : ((0 : Int) < (len : Int)) = True := eq_true (by omega)
 obtain ⟨bb, hbb⟩ : ∃ bb, (op == 27) = bb := ⟨_, rfl⟩
 obtain ⟨w1, e1, b1, k2, k3, s1⟩ := box2 w (.cells #[.int .i64 op, .int .i64 n, .int .i64 m, .slice (some p) len cap] 24) (.cells #[.int .i64 v.rep, .slice v.wa v.wins.length v.wcap, .slice v.ca v.crons.length v.ccap] 28)
 have HE := Lib.hid e1
 have B1 := Lib.hid b1
 have hl1 := hl.below b1
 have HENV := Lib.hid (henv.below b1)
 have HC := Lib.hid fun (w' : World) (hb : Below w1.heap.size w1 w') => (show ((w'.cell? ⟨w.heap.size, 0, none⟩ = some (.int .i64 op) ∧ w'.cell? ⟨w.heap.size, 1, none⟩ = some (.int .i64 n) ∧ w'.cell? ⟨w.heap.size, 2, none⟩ = some (.int .i64 m) ∧ w'.cell? ⟨w.heap.size, 3, none⟩ = some (.slice (some p) len cap)) ∧
   (w'.cell? ⟨w.heap.size + 1, 0, none⟩ = some (.int .i64 v.rep) ∧ w'.cell? ⟨w.heap.size + 1, 1, none⟩ = some (.slice v.wa v.wins.length v.wcap) ∧ w'.cell? ⟨w.heap.size + 1, 2, none⟩ = some (.slice v.ca v.crons.length v.ccap)) ∧ (w'.cell? p = some (.int .i64 ka.op) ∧ w'.cell? ⟨p.block, p.off + 1, none⟩ = some (.int .i64 ka.n) ∧ w'.cell? ⟨p.block, p.off + 2, none⟩ = some (.int .i64 ka.m) ∧ w'.cell? ⟨p.block, p.off + 3, none⟩ = some (.slice ka.at_ ka.kids.length ka.cap))) from
  ⟨core_cells (blk_below k2 hb), env_cells (blk_below k3 hb), hl1.kids.lit0 hb hk0⟩)
 have LN := Lib.hid hl1
 have EK := Lib.hid hE
 obtain ⟨⟨y0, y1, y2, y3⟩, -⟩ := HC.out w1 (Below.refl _ _)
 have Lka := Lib.hid (LiesL.lies hl1.kids (List.mem_of_getElem? hk0))
 have HO := Lib.hid hO
 clear hl hl1 henv hE hO k2 k3 e1 b1 s1 hk0 hlen hpos h6
 go_enter Tryd.func23, Tryd.ntmps23
 go_wp2_with fail
 rw [HE.out]
 clear y0 y1 y2 y3
 refine wp_region_held_drew (S := fun w' => Aside0 (Below w1.heap.size w1 w')) (by kernel_rfl) ?_ (fun hHeld => ?_)
 ·exact ⟨(Below.refl _ _).drew⟩
 generalize World.drew _ = wDa at hHeld ⊢
 have HCr := HC
 refine' tk 0 ?_
 try simp only [pt]
 refine' tk 1 ?_
 try simp only [pt]
 refine' tk 2 ?_
 try simp only [pt]
 refine' tk 3 ?_
 try simp only [pt]
 refine' tk 4 ?_
 try simp only [pt]
 refine' cm 5 (fun K hK => ?_)
 go_simp
 refine (EK.out _ (Lka.out.below hHeld.out) (HENV.out.below hHeld.out)).mono ?_
 rintro e w7 ⟨hret, hb2⟩
 obtain rfl := hret
 refine hK.out _ _ ⟨hHeld.out.trans (hb2.mono hHeld.out.size)⟩ (fun hHeld => ?_)
 clear hK K
 try simp only [pt]
 refine' tk 6 ?_
 try simp only [pt]
 refine' tk 7 ?_
 try simp only [pt]
 refine' tk 8 ?_
 try simp only [pt]
 refine' tk 9 ?_
 try simp only [pt]
 refine' tk 10 ?_
 try simp only [pt]
 refine wpAnyH_done (by kernel_rfl) ?_ _
 obtain ⟨⟨y0, y1, y2, y3⟩, ⟨x0, x1, x2⟩, -⟩ := HC.out _ hHeld.out
 cases bb
 ·go_wp2_with fail
  refine (HO.out _ (LN.out.below hHeld.out) (HENV.out.below hHeld.out)).mono ?_
  rintro e w8 ⟨hret, hb8⟩
  have BB := Lib.hid (B1.out.trans ((hHeld.out.trans (hb8.mono hHeld.out.size)).mono B1.out.size))
  clear HO
  cases r with
  | num y =>
   obtain rfl := hret
   go_wp2_with fail
   go_ret2
   exact ⟨by first | rfl | (show _ = _; simp), BB.out⟩
  | stop q =>
   obtain ⟨g, rfl, hg⟩ := hret
   go_wp2_with fail
   go_ret2
   exact ⟨⟨g, by first | rfl | simp, hg⟩, BB.out⟩
 ·go_wp2_with fail
  refine (HO.out _ (LN.out.below hHeld.out) (HENV.out.below hHeld.out)).mono ?_
  rintro e w8 ⟨hret, hb8⟩
  have BB := Lib.hid (B1.out.trans ((hHeld.out.trans (hb8.mono hHeld.out.size)).mono B1.out.size))
  clear HO
  cases r with
  | num y =>
   obtain rfl := hret
   go_wp2_with fail
   go_ret2
   exact ⟨by first | rfl | (show _ = _; simp), BB.out⟩
  | stop q =>
   obtain ⟨g, rfl, hg⟩ := hret
   go_wp2_with fail
   go_ret2
   exact ⟨⟨g, by first | rfl | simp, hg⟩, BB.out⟩
theorem eval_stop {q : Int} (h6 : 6 < op) (h27 : ¬ op = 27) (hlen : l.length = len) (hk0 : l[0]? = some ka) (hl : Lies w (.node op n m (some p) cap l)) (henv : EnvL w v) (hE : EvalC v ka (.stop q)) :
  Calls Tryd.prog 23 #[.agg #[.int .i64 op, .int .i64 n, .int .i64 m, .slice (some p) len cap], .agg #[.int .i64 v.rep, .slice v.wa v.wins.length v.wcap, .slice v.ca v.crons.length v.ccap]] w fun e w' => RetE (.stop q) e w' ∧ Below w.heap.size w w' := by
 have p1 : (op == 1) = false := by simp; omega
 have p2 : (op == 2) = false := by simp; omega
 have p3 : (op == 3) = false := by simp; omega
 have p4 : (op == 4) = false := by simp; omega
 have p5 : (op == 5) = false := by simp; omega
 have p6 : (op == 6) = false := by simp; omega
 have hpos : 0 < len := by rw [← hlen]; exact (List.getElem?_eq_some_iff.1 hk0).1
 have p40 : (0 < len) = True := eq_true hpos
 have p41 : ((0 : Int) < (len : Int)) = True := eq_true (by omega)
 have p27 : (op == 27) = false := by simpa using h27
 obtain ⟨w1, e1, b1, k2, k3, s1⟩ := box2 w (.cells #[.int .i64 op, .int .i64 n, .int .i64 m, .slice (some p) len cap] 24) (.cells #[.int .i64 v.rep, .slice v.wa v.wins.length v.wcap, .slice v.ca v.crons.length v.ccap] 28)
 have HE := Lib.hid e1
 have B1 := Lib.hid b1
 have hl1 := hl.below b1
 have HENV := Lib.hid (henv.below b1)
 have HC := Lib.hid fun (w' : World) (hb : Below w1.heap.size w1 w') => (show ((w'.cell? ⟨w.heap.size, 0, none⟩ = some (.int .i64 op) ∧ w'.cell? ⟨w.heap.size, 1, none⟩ = some (.int .i64 n) ∧ w'.cell? ⟨w.heap.size, 2, none⟩ = some (.int .i64 m) ∧ w'.cell? ⟨w.heap.size, 3, none⟩ = some (.slice (some p) len cap)) ∧
   (w'.cell? ⟨w.heap.size + 1, 0, none⟩ = some (.int .i64 v.rep) ∧ w'.cell? ⟨w.heap.size + 1, 1, none⟩ = some (.slice v.wa v.wins.length v.wcap) ∧ w'.cell? ⟨w.heap.size + 1, 2, none⟩ = some (.slice v.ca v.crons.length v.ccap)) ∧ (w'.cell? p = some (.int .i64 ka.op) ∧ w'.cell? ⟨p.block, p.off + 1, none⟩ = some (.int .i64 ka.n) ∧ w'.cell? ⟨p.block, p.off + 2, none⟩ = some (.int .i64 ka.m) ∧ w'.cell? ⟨p.block, p.off + 3, none⟩ = some (.slice ka.at_ ka.kids.length ka.cap))) from
  ⟨core_cells (blk_below k2 hb), env_cells (blk_below k3 hb), hl1.kids.lit0 hb hk0⟩)
 have LN := Lib.hid hl1
 have EK := Lib.hid hE
 obtain ⟨⟨y0, y1, y2, y3⟩, -⟩ := HC.out w1 (Below.refl _ _)
 have Lka := Lib.hid (LiesL.lies hl1.kids (List.mem_of_getElem? hk0))
 clear hl hl1 henv hE k2 k3 e1 b1 s1 hk0 hlen hpos h6 h27
 go_enter Tryd.func23, Tryd.ntmps23
 go_wp2_with fail
 rw [HE.out]
 clear y0 y1 y2 y3
 refine wp_region_held_drew (S := fun w' => Aside0 (Below w1.heap.size w1 w')) (by kernel_rfl) ?_ (fun hHeld => ?_)
 ·exact ⟨(Below.refl _ _).drew⟩
 generalize World.drew _ = wDa at hHeld ⊢
 have HCr := HC
 refine' tk 0 ?_
 try simp only [pt]
 refine' tk 1 ?_
 try simp only [pt]
 refine' tk 2 ?_
 try simp only [pt]
 refine' tk 3 ?_
 try simp only [pt]
 refine' tk 4 ?_
 try simp only [pt]
 refine' cm 5 (fun K hK => ?_)
 go_simp
 refine (EK.out _ (Lka.out.below hHeld.out) (HENV.out.below hHeld.out)).mono ?_
 rintro e w7 ⟨hret, hb2⟩
 obtain ⟨g, rfl, hg⟩ := hret
 refine hK.out _ _ ⟨hHeld.out.trans (hb2.mono hHeld.out.size)⟩ (fun hHeld => ?_)
 clear hK K
 try simp only [pt]
 refine' tk 6 ?_
 try simp only [pt]
 refine' tk 7 ?_
 try simp only [pt]
 refine' tk 8 ?_
 try simp only [pt]
 refine' tk 9 ?_
 try simp only [pt]
 refine' tk 10 ?_
 try simp only [pt]
 refine wpAnyH_done (by kernel_rfl) ?_ _
 obtain ⟨⟨y0, y1, y2, y3⟩, ⟨x0, x1, x2⟩, -⟩ := HC.out _ hHeld.out
 go_wp2_with fail
 go_ret2
 exact ⟨⟨g, by first | rfl | simp, hg⟩, B1.out.trans (hHeld.out.mono B1.out.size)⟩
theorem eval_either {q : Int} {r : Rs} (hl : Lies w (.node 27 n m (some p) cap [ka, kb])) (henv : EnvL w v) (hE : EvalC v ka (.stop q)) (hE2 : EvalC v kb r) :
  Calls Tryd.prog 23 #[.agg #[.int .i64 27, .int .i64 n, .int .i64 m, .slice (some p) 2 cap], .agg #[.int .i64 v.rep, .slice v.wa v.wins.length v.wcap, .slice v.ca v.crons.length v.ccap]] w fun e w' => RetE r e w' ∧ Below w.heap.size w w' := by
 have hk0 : ([ka, kb] : List Cr)[0]? = some ka := rfl
 obtain ⟨w1, e1, b1, k2, k3, s1⟩ := box2 w (.cells #[.int .i64 27, .int .i64 n, .int .i64 m, .slice (some p) 2 cap] 24) (.cells #[.int .i64 v.rep, .slice v.wa v.wins.length v.wcap, .slice v.ca v.crons.length v.ccap] 28)
 have HE := Lib.hid e1
 have B1 := Lib.hid b1
 have hl1 := hl.below b1
 have HENV := Lib.hid (henv.below b1)
 have HC := Lib.hid fun (w' : World) (hb : Below w1.heap.size w1 w') => (show ((w'.cell? ⟨w.heap.size, 0, none⟩ = some (.int .i64 27) ∧ w'.cell? ⟨w.heap.size, 1, none⟩ = some (.int .i64 n) ∧ w'.cell? ⟨w.heap.size, 2, none⟩ = some (.int .i64 m) ∧ w'.cell? ⟨w.heap.size, 3, none⟩ = some (.slice (some p) 2 cap)) ∧
   (w'.cell? ⟨w.heap.size + 1, 0, none⟩ = some (.int .i64 v.rep) ∧ w'.cell? ⟨w.heap.size + 1, 1, none⟩ = some (.slice v.wa v.wins.length v.wcap) ∧ w'.cell? ⟨w.heap.size + 1, 2, none⟩ = some (.slice v.ca v.crons.length v.ccap)) ∧ (w'.cell? p = some (.int .i64 ka.op) ∧ w'.cell? ⟨p.block, p.off + 1, none⟩ = some (.int .i64 ka.n) ∧ w'.cell? ⟨p.block, p.off + 2, none⟩ = some (.int .i64 ka.m) ∧ w'.cell? ⟨p.block, p.off + 3, none⟩ = some (.slice ka.at_ ka.kids.length ka.cap)) ∧ (w'.cell? ⟨p.block, p.off + 4, none⟩ = some (.int .i64 kb.op) ∧ w'.cell? ⟨p.block, p.off + 4 + 1, none⟩ = some (.int .i64 kb.n) ∧ w'.cell? ⟨p.block, p.off + 4 + 2, none⟩ = some (.int .i64 kb.m) ∧ w'.cell? ⟨p.block, p.off + 4 + 3, none⟩ = some (.slice kb.at_ kb.kids.length kb.cap))) from
  ⟨core_cells (blk_below k2 hb), env_cells (blk_below k3 hb), hl1.kids.lit0 hb hk0, hl1.kids.lit hb 0 rfl⟩)
 have LN := Lib.hid hl1
 have EK := Lib.hid hE
 obtain ⟨⟨y0, y1, y2, y3⟩, -⟩ := HC.out w1 (Below.refl _ _)
 have Lka := Lib.hid (LiesL.lies hl1.kids (List.mem_of_getElem? hk0))
 have Lkb := Lib.hid (LiesL.lies hl1.kids (List.mem_of_getElem? (show ([ka, kb] : List Cr)[1]? = some kb from rfl)))
 have EK2 := Lib.hid hE2
 clear hl hl1 henv hE hE2 k2 k3 e1 b1 s1 hk0
 go_enter Tryd.func23, Tryd.ntmps23
 go_wp2_with fail
 rw [HE.out]
 clear y0 y1 y2 y3
 refine wp_region_held_drew (S := fun w' => Aside0 (Below w1.heap.size w1 w')) (by kernel_rfl) ?_ (fun hHeld => ?_)
 ·exact ⟨(Below.refl _ _).drew⟩
 generalize World.drew _ = wDa at hHeld ⊢
 have HCr := HC
 refine' tk 0 ?_
 try simp only [pt]
 refine' tk 1 ?_
 try simp only [pt]
 refine' tk 2 ?_
 try simp only [pt]
 refine' tk 3 ?_
 try simp only [pt]
 refine' tk 4 ?_
 try simp only [pt]
 refine' cm 5 (fun K hK => ?_)
 go_simp
 refine (EK.out _ (Lka.out.below hHeld.out) (HENV.out.below hHeld.out)).mono ?_
 rintro e w7 ⟨hret, hb2⟩
 obtain ⟨g, rfl, hg⟩ := hret
 refine hK.out _ _ ⟨hHeld.out.trans (hb2.mono hHeld.out.size)⟩ (fun hHeld => ?_)
 clear hK K
 try simp only [pt]
 refine' tk 6 ?_
 try simp only [pt]
 refine' tk 7 ?_
 try simp only [pt]
 refine' tk 8 ?_
 try simp only [pt]
 refine' tk 9 ?_
 try simp only [pt]
 refine' tk 10 ?_
 try simp only [pt]
 refine wpAnyH_done (by kernel_rfl) ?_ _
 obtain ⟨⟨y0, y1, y2, y3⟩, ⟨x0, x1, x2⟩, -⟩ := HC.out _ hHeld.out
 go_wp2_with fail
 clear y0 y1 y2 y3 x0 x1 x2
 cases r with
 | num y =>
  refine wp_region_held_drew (S := fun w' => Aside0 (Below w1.heap.size w1 w')) (by kernel_rfl) ?_ (fun hHeld => ?_)
  ·exact ⟨hHeld.out.drew⟩
  generalize World.drew _ = wDb at hHeld ⊢
  have HCr := HC
  refine' tk 0 ?_
  try simp only [pt]
  refine' tk 1 ?_
  try simp only [pt]
  refine' tk 2 ?_
  try simp only [pt]
  refine' tk 3 ?_
  try simp only [pt]
  refine' tk 4 ?_
  try simp only [pt]
  refine' cm 5 (fun K hK => ?_)
  go_simp
  refine (EK2.out _ (Lkb.out.below hHeld.out) (HENV.out.below hHeld.out)).mono ?_
  rintro e w7 ⟨hret, hb2⟩
  obtain rfl := hret
  refine hK.out _ _ ⟨hHeld.out.trans (hb2.mono hHeld.out.size)⟩ (fun hHeld => ?_)
  clear hK K
  try simp only [pt]
  refine' tk 6 ?_
  try simp only [pt]
  refine' tk 7 ?_
  try simp only [pt]
  refine' tk 8 ?_
  try simp only [pt]
  refine' tk 9 ?_
  try simp only [pt]
  refine wpAnyH_done (by kernel_rfl) ?_ _
  go_wp2_with fail
  go_ret2
  exact ⟨by first | rfl | (show _ = _; simp), B1.out.trans (hHeld.out.mono B1.out.size)⟩
 | stop q2 =>
  refine wp_region_held_drew (S := fun w' => Aside0 (Below w1.heap.size w1 w')) (by kernel_rfl) ?_ (fun hHeld => ?_)
  ·exact ⟨hHeld.out.drew⟩
  generalize World.drew _ = wDc at hHeld ⊢
  have HCr := HC
  refine' tk 0 ?_
  try simp only [pt]
  refine' tk 1 ?_
  try simp only [pt]
  refine' tk 2 ?_
  try simp only [pt]
  refine' tk 3 ?_
  try simp only [pt]
  refine' tk 4 ?_
  try simp only [pt]
  refine' cm 5 (fun K hK => ?_)
  go_simp
  refine (EK2.out _ (Lkb.out.below hHeld.out) (HENV.out.below hHeld.out)).mono ?_
  rintro e w7 ⟨hret, hb2⟩
  obtain ⟨g2, rfl, hg2⟩ := hret
  refine hK.out _ _ ⟨hHeld.out.trans (hb2.mono hHeld.out.size)⟩ (fun hHeld => ?_)
  clear hK K
  try simp only [pt]
  refine' tk 6 ?_
  try simp only [pt]
  refine' tk 7 ?_
  try simp only [pt]
  refine' tk 8 ?_
  try simp only [pt]
  refine' tk 9 ?_
  try simp only [pt]
  refine wpAnyH_done (by kernel_rfl) ?_ _
  go_wp2_with fail
  go_ret2
  exact ⟨⟨g2, by first | rfl | simp, hg2⟩, B1.out.trans (hHeld.out.mono B1.out.size)⟩
end
end Go.Proofs.YtpljkcakijkklaaDoor

end
section
namespace Go.Proofs.YtpljkcakijkklaaDoor
set_option linter.unusedVariables false
set_option linter.unusedSimpArgs false
open Go.RowKit Go.Proofs.YtpljkcakijkklaaDoorW.PrintWords Go.Proofs.YtpljkcakijkklaaDoorW.PrintLast Go.Proofs.YtpljkcakijkklaaDoorW.PrintMore

theorem iteP {c : Prop} [Decidable c] {a b : Int} {P : Int → Prop} (ha : c → P a) (hb : ¬ c → P b) : P (if c then a else b) := by
 split
 ·exact ha ‹_›
 ·exact hb ‹_›
theorem leafS_inv {rw rc op n m : Int} : ∀ {x : Int}, leafS rw rc op n m = x → (x = 1 ∨ x = 2) → (op = 1 ∧ x = 1) ∨ (op = 2 ∧ (n = 0 ∨ n = 1) ∧ x = 2) ∨ (op = 3 ∧ x = 1) ∨ (op = 4 ∧ 0 ≤ n ∧ n < rw ∧ x = 1) ∨ (op = 5 ∧ 0 ≤ n ∧ n < rc ∧ x = 2) ∨ (op = 6 ∧ 1 ≤ n ∧ n ≤ 3) := by
 intro x hx
 subst hx
 unfold leafS
 repeat' (refine iteP (P := fun x => (x = 1 ∨ x = 2) → (op = 1 ∧ x = 1) ∨ (op = 2 ∧ (n = 0 ∨ n = 1) ∧ x = 2) ∨ (op = 3 ∧ x = 1) ∨ (op = 4 ∧ 0 ≤ n ∧ n < rw ∧ x = 1) ∨ (op = 5 ∧ 0 ≤ n ∧ n < rc ∧ x = 2) ∨ (op = 6 ∧ 1 ≤ n ∧ n ≤ 3)) (fun _ => ?_) (fun _ => ?_))
 all_goals (intro h; omega)
theorem oneS_inv {rl op n m s : Int} : ∀ {x : Int}, oneS rl op n m s = x → (x = 1 ∨ x = 2) → (op = 7 ∧ x = s) ∨ ((op = 8 ∨ op = 10 ∨ op = 11 ∨ op = 12) ∧ s = 1 ∧ x = 1) ∨ (op = 9 ∧ s = 2 ∧ x = 2) ∨ (op = 13 ∧ 0 ≤ n ∧ 1 ≤ m ∧ s = 1 ∧ x = 1) := by
 intro x hx
 subst hx
 unfold oneS
 repeat' (refine iteP (P := fun x => (x = 1 ∨ x = 2) → (op = 7 ∧ x = s) ∨ ((op = 8 ∨ op = 10 ∨ op = 11 ∨ op = 12) ∧ s = 1 ∧ x = 1) ∨ (op = 9 ∧ s = 2 ∧ x = 2) ∨ (op = 13 ∧ 0 ≤ n ∧ 1 ≤ m ∧ s = 1 ∧ x = 1)) (fun _ => ?_) (fun _ => ?_))
 all_goals (intro h; omega)
theorem twoS_inv {s : Cr → Int} {op : Int} {a b : Cr} : ∀ {x : Int}, twoS s op [a, b] = x → (x = 1 ∨ x = 2) →
  ((14 ≤ op ∧ op ≤ 17 ∨ op = 23 ∨ op = 24) ∧ s a = 1 ∧ s b = 1 ∧ x = 1) ∨ ((18 ≤ op ∧ op ≤ 22) ∧ s a = 1 ∧ s b = 1 ∧ x = 2) ∨ ((op = 25 ∨ op = 26) ∧ s a = 2 ∧ s b = 2 ∧ x = 2) ∨ (op = 27 ∧ s b = s a ∧ x = s a) := by
 intro x hx
 subst hx
 unfold twoS
 have hb1 : ∀ t : Int, ((s a == t && s b == t) = true) ↔ (s a = t ∧ s b = t) := fun t => by simp
 simp only [hb1]
 repeat' (refine iteP (P := fun x => (x = 1 ∨ x = 2) → ((14 ≤ op ∧ op ≤ 17 ∨ op = 23 ∨ op = 24) ∧ s a = 1 ∧ s b = 1 ∧ x = 1) ∨ ((18 ≤ op ∧ op ≤ 22) ∧ s a = 1 ∧ s b = 1 ∧ x = 2) ∨ ((op = 25 ∨ op = 26) ∧ s a = 2 ∧ s b = 2 ∧ x = 2) ∨ (op = 27 ∧ s b = s a ∧ x = s a)) (fun _ => ?_) (fun _ => ?_))
 all_goals (intro h; omega)
theorem ifS_inv {s : Cr → Int} {a b c : Cr} : ∀ {x : Int}, ifS s [a, b, c] = x → (x = 1 ∨ x = 2) → s a = 2 ∧ s b = x ∧ s c = x := by
 intro x hx
 subst hx
 unfold ifS
 repeat' (refine iteP (P := fun x => (x = 1 ∨ x = 2) → s a = 2 ∧ s b = x ∧ s c = x) (fun _ => ?_) (fun _ => ?_))
 all_goals (intro h; omega)
theorem ladS_no {s : Cr → Int} {l : List Cr} : ¬ (ladS s l = 1 ∨ ladS s l = 2) := by
 unfold ladS
 split
 ·repeat' (refine iteP (P := fun x => ¬ (x = 1 ∨ x = 2)) (fun _ => ?_) (fun _ => ?_))
  all_goals omega
 ·omega
theorem moreS_inv {s : Cr → Int} {op n m : Int} {l : List Cr} {x : Int} (h : moreS s op n m l = x) (hx : x = 1 ∨ x = 2) :
  (op = 28 ∧ ∃ a b c, l = [a, b, c] ∧ s a = 2 ∧ s b = x ∧ s c = x) ∨ (∃ a b, l = [a, b] ∧ (((14 ≤ op ∧ op ≤ 17 ∨ op = 23 ∨ op = 24) ∧ s a = 1 ∧ s b = 1 ∧ x = 1) ∨ ((18 ≤ op ∧ op ≤ 22) ∧ s a = 1 ∧ s b = 1 ∧ x = 2) ∨ ((op = 25 ∨ op = 26) ∧ s a = 2 ∧ s b = 2 ∧ x = 2) ∨ (op = 27 ∧ s b = s a ∧ x = s a))) := by
 unfold moreS at h
 by_cases h0 : n = 0 ∧ m = 0
 ·rw [if_pos h0] at h
  by_cases h28 : op = 28 ∧ l.length = 3
  ·rw [if_pos h28] at h
   obtain ⟨a, b, c, rfl⟩ : ∃ a b c, l = [a, b, c] := by
    match l, h28.2 with
    | [a, b, c], _ => exact ⟨a, b, c, rfl⟩
   exact .inl ⟨h28.1, a, b, c, rfl, ifS_inv h hx⟩
  ·rw [if_neg h28] at h
   by_cases h32 : op = 32 ∧ 2 ≤ l.length ∧ l.length % 2 = 0
   ·rw [if_pos h32] at h
    subst h
    exact absurd hx ladS_no
   ·rw [if_neg h32] at h
    by_cases h2 : l.length = 2
    ·rw [if_pos h2] at h
     obtain ⟨a, b, rfl⟩ : ∃ a b, l = [a, b] := by
      match l, h2 with
      | [a, b], _ => exact ⟨a, b, rfl⟩
     exact .inr ⟨a, b, rfl, twoS_inv h hx⟩
    ·rw [if_neg h2] at h
     omega
 ·rw [if_neg h0] at h
  omega

def GoodR (s : Int) (r : Rs) : Prop := match r with
 | .num x => R64 x ∧ (s = 2 → x = 0 ∨ x = 1)
 | .stop q => R64 q ∧ ¬ q = 0
theorem fnS_R64 {k a b : Int} (ha : R64 a) (hb : R64 b) (hk : 8 ≤ k ∧ k ≤ 24 ∧ ¬ k = 9 ∧ ¬ k = 13) : R64 (fnS k a b) := by
 have h1 : R64 0 := by unfold R64; omega
 have h2 : R64 1 := by unfold R64; omega
 have hmin : R64 (min a b) := by unfold R64 at *; omega
 have hmax : R64 (max a b) := by unfold R64 at *; omega
 unfold fnS
 refine iteP (P := R64) (fun _ => heldI_R64 _) (fun _ => ?_)
 refine iteP (P := R64) (fun h => absurd h hk.2.2.1) (fun _ => ?_)
 refine iteP (P := R64) (fun _ => heldI_R64 _) (fun _ => ?_)
 refine iteP (P := R64) (fun _ => heldI_R64 _) (fun _ => ?_)
 refine iteP (P := R64) (fun _ => heldI_R64 _) (fun _ => ?_)
 refine iteP (P := R64) (fun _ => heldI_R64 _) (fun _ => ?_)
 refine iteP (P := R64) (fun _ => heldI_R64 _) (fun _ => ?_)
 refine iteP (P := R64) (fun _ => heldI_R64 _) (fun _ => ?_)
 refine iteP (P := R64) (fun _ => iteP (P := R64) (fun _ => h1) (fun _ => heldI_R64 _)) (fun _ => ?_)
 refine iteP (P := R64) (fun _ => iteP (P := R64) (fun _ => h2) (fun _ => h1)) (fun _ => ?_)
 refine iteP (P := R64) (fun _ => iteP (P := R64) (fun _ => h2) (fun _ => h1)) (fun _ => ?_)
 refine iteP (P := R64) (fun _ => iteP (P := R64) (fun _ => h2) (fun _ => h1)) (fun _ => ?_)
 refine iteP (P := R64) (fun _ => iteP (P := R64) (fun _ => h2) (fun _ => h1)) (fun _ => ?_)
 refine iteP (P := R64) (fun _ => iteP (P := R64) (fun _ => h2) (fun _ => h1)) (fun _ => ?_)
 exact iteP (P := R64) (fun _ => hmin) (fun _ => hmax)
theorem fnS_truth {k a b : Int} (hk : 18 ≤ k ∧ k ≤ 22) : fnS k a b = 0 ∨ fnS k a b = 1 := by
 unfold fnS
 rw [if_neg (by omega), if_neg (by omega), if_neg (by omega), if_neg (by omega), if_neg (by omega), if_neg (by omega), if_neg (by omega), if_neg (by omega), if_neg (by omega)]
 repeat' (refine iteP (P := fun x => x = 0 ∨ x = 1) (fun _ => ?_) (fun _ => ?_))
 all_goals first | omega | (exfalso; omega)
theorem opsT_mem {k : Int} (h : 8 ≤ k ∧ k ≤ 24 ∧ ¬ k = 13) : ∃ f, (k, f) ∈ opsT := by
 have : k = 8 ∨ k = 9 ∨ k = 10 ∨ k = 11 ∨ k = 12 ∨ k = 14 ∨ k = 15 ∨ k = 16 ∨ k = 17 ∨ k = 18 ∨ k = 19 ∨ k = 20 ∨ k = 21 ∨ k = 22 ∨ k = 23 ∨ k = 24 := by omega
 rcases this with rfl | rfl | rfl | rfl | rfl | rfl | rfl | rfl | rfl | rfl | rfl | rfl | rfl | rfl | rfl | rfl
 ·exact ⟨_, List.mem_of_getElem? (show opsT[0]? = some (8, _) from rfl)⟩
 ·exact ⟨_, List.mem_of_getElem? (show opsT[1]? = some (9, _) from rfl)⟩
 ·exact ⟨_, List.mem_of_getElem? (show opsT[2]? = some (10, _) from rfl)⟩
 ·exact ⟨_, List.mem_of_getElem? (show opsT[3]? = some (11, _) from rfl)⟩
 ·exact ⟨_, List.mem_of_getElem? (show opsT[4]? = some (12, _) from rfl)⟩
 ·exact ⟨_, List.mem_of_getElem? (show opsT[5]? = some (14, _) from rfl)⟩
 ·exact ⟨_, List.mem_of_getElem? (show opsT[6]? = some (15, _) from rfl)⟩
 ·exact ⟨_, List.mem_of_getElem? (show opsT[7]? = some (16, _) from rfl)⟩
 ·exact ⟨_, List.mem_of_getElem? (show opsT[8]? = some (17, _) from rfl)⟩
 ·exact ⟨_, List.mem_of_getElem? (show opsT[9]? = some (18, _) from rfl)⟩
 ·exact ⟨_, List.mem_of_getElem? (show opsT[10]? = some (19, _) from rfl)⟩
 ·exact ⟨_, List.mem_of_getElem? (show opsT[11]? = some (20, _) from rfl)⟩
 ·exact ⟨_, List.mem_of_getElem? (show opsT[12]? = some (21, _) from rfl)⟩
 ·exact ⟨_, List.mem_of_getElem? (show opsT[13]? = some (22, _) from rfl)⟩
 ·exact ⟨_, List.mem_of_getElem? (show opsT[14]? = some (23, _) from rfl)⟩
 ·exact ⟨_, List.mem_of_getElem? (show opsT[15]? = some (24, _) from rfl)⟩
end Go.Proofs.YtpljkcakijkklaaDoor

end
section
namespace Go.Proofs.YtpljkcakijkklaaDoor
set_option linter.unusedVariables false
set_option linter.unusedSimpArgs false
open Go.RowKit Go.Proofs.YtpljkcakijkklaaDoorW.PrintWords Go.Proofs.YtpljkcakijkklaaDoorW.PrintLast Go.Proofs.YtpljkcakijkklaaDoorW.PrintMore

def EvalG (v : En) (c : Cr) : Prop := ∀ w0, Lies w0 c → EnvL w0 v → ∀ x, sortS v.wins.length v.crons.length 256 c = x → (x = 1 ∨ x = 2) → GoodR x (evalS v c) ∧ EvalC v c (evalS v c)

theorem evalG_leaf {v : En} {op n m : Int} {at_ : Option Addr} {cap : Nat} : EvalG v (.node op n m at_ cap []) := by
 intro w0 hl henv x hx h12
 rw [sortS_eq] at hx
 have hx : leafS v.wins.length v.crons.length op n m = x := hx
 have e : evalS v (.node op n m at_ cap []) = leafE v op n := by rw [evalS]
 rw [e]
 have hn : R64 n := hl.ints.2.1
 rcases leafS_inv hx h12 with ⟨rfl, rfl⟩ | ⟨rfl, h, rfl⟩ | ⟨rfl, rfl⟩ | ⟨rfl, h0, h1, rfl⟩ | ⟨rfl, h0, h1, rfl⟩ | ⟨rfl, h1, h3⟩
 ·exact ⟨⟨hn, fun h => absurd h (by decide)⟩, fun W hW hE => eval_lit1⟩
 ·exact ⟨⟨hn, fun _ => h⟩, fun W hW hE => eval_lit2⟩
 ·exact ⟨⟨heldI_R64 _, fun h => absurd h (by decide)⟩, fun W hW hE => eval_rep hE.1⟩
 ·obtain ⟨i, rfl⟩ := Int.eq_ofNat_of_zero_le h0
  have hi : i < v.wins.length := by omega
  obtain ⟨⟨r, y⟩, hr⟩ : ∃ z, v.wins[i]? = some z := ⟨_, List.getElem?_eq_getElem hi⟩
  have hg := henv.2.2.2.1 i _ hr
  have el : leafE v 4 (i : Int) = if r = 0 then .num y else .stop r := by
   unfold leafE
   rw [if_neg (by decide), if_neg (by decide), if_pos rfl]
   simp only [Int.toNat_natCast, hr]
  rw [el]
  by_cases h : r = 0
  ·rw [if_pos h]
   exact ⟨⟨hg.2.1, fun h => absurd h (by decide)⟩, fun W hW hE => eval_win_fine h hr hE⟩
  ·rw [if_neg h]
   exact ⟨⟨hg.1, h⟩, fun W hW hE => eval_win_stop h hr hE⟩
 ·obtain ⟨i, rfl⟩ := Int.eq_ofNat_of_zero_le h0
  have hi : i < v.crons.length := by omega
  obtain ⟨b, hb⟩ : ∃ z, v.crons[i]? = some z := ⟨_, List.getElem?_eq_getElem hi⟩
  have el : leafE v 5 (i : Int) = .num (if b then 1 else 0) := by
   unfold leafE
   rw [if_neg (by decide), if_neg (by decide), if_neg (by decide), if_pos rfl]
   simp only [Int.toNat_natCast, hb]
  rw [el]
  refine ⟨⟨?_, fun _ => ?_⟩, fun W hW hE => eval_cron hb hE⟩
  ·cases b
   ·show R64 0
    unfold R64
    omega
   ·show R64 1
    unfold R64
    omega
  ·cases b
   ·exact .inl rfl
   ·exact .inr rfl
 ·have el : leafE v 6 n = .stop n := by
   unfold leafE
   rw [if_neg (by decide), if_neg (by decide), if_neg (by decide), if_neg (by decide)]
  rw [el]
  exact ⟨⟨hn, by omega⟩, fun W hW hE => eval_fail⟩

theorem evalG_one {v : En} {op n m : Int} {at_ : Option Addr} {cap : Nat} {k : Cr} (ih : EvalG v k) : EvalG v (.node op n m at_ cap [k]) := by
 intro w0 hl henv x hx h12
 rw [sortS_eq] at hx
 have hx : oneS 256 op n m (sortS v.wins.length v.crons.length 256 k) = x := hx
 obtain ⟨p, rfl⟩ : ∃ p, at_ = some p := by
  obtain ⟨b, hb, -⟩ := hl.kids.cells (i := 0) (k := k) rfl
  exact ⟨b, hb⟩
 have inv := oneS_inv hx h12
 simp only [Cr.op_node, Cr.n_node, Cr.m_node] at inv
 have hk : sortS v.wins.length v.crons.length 256 k = 1 ∨ sortS v.wins.length v.crons.length 256 k = 2 := by omega
 obtain ⟨gk, ek⟩ := ih w0 (hl.kid (by simp)) henv _ rfl hk
 have hop : op = 7 ∨ op = 8 ∨ op = 9 ∨ op = 10 ∨ op = 11 ∨ op = 12 ∨ op = 13 := by
  rcases inv with h | h | h | h
  ·exact .inl h.1
  ·have := h.1
   omega
  ·have := h.1
   omega
  ·have := h.1
   omega
 have h6 : 6 < op := by omega
 have h27 : ¬ op = 27 := by omega
 have e : evalS v (.node op n m (some p) cap [k]) = (match evalS v k with | .stop r => .stop r | .num a => .num (unE op n m a)) := by rw [evalS]; first | done | rfl
 rw [e]
 cases hev : evalS v k with
 | stop q =>
  rw [hev] at gk ek
  simp only
  exact ⟨gk, fun W hW hE => eval_stop h6 h27 rfl rfl hW hE ek⟩
 | num a =>
  rw [hev] at gk ek
  simp only
  have ha : R64 a := gk.1
  have h0 : R64 0 := by unfold R64; omega
  have hn : R64 n := hl.ints.2.1
  have hm : R64 m := hl.ints.2.2
  refine ⟨?_, fun W hW hE => eval_onward h6 rfl rfl hW hE ek fun W' hW' hE' => ?_⟩
  ·rcases inv with ⟨rfl, hs⟩ | ⟨ho, hs, rfl⟩ | ⟨rfl, hs, rfl⟩ | ⟨rfl, h1, h2, hs, rfl⟩
   ·rw [hs]
    exact gk
   ·have : unE op n m a = fnS op a 0 := by
     unfold unE
     rw [if_neg (by omega), if_neg (by omega)]
    rw [this]
    exact ⟨fnS_R64 ha h0 (by omega), fun h => absurd h (by decide)⟩
   ·have : unE 9 n m a = wrap64 (1 - a) := rfl
    rw [this]
    rcases gk.2 hs with rfl | rfl
    ·exact ⟨by unfold R64 wrap64; omega, fun _ => .inr (by unfold wrap64; omega)⟩
    ·exact ⟨by unfold R64 wrap64; omega, fun _ => .inl (by unfold wrap64; omega)⟩
   ·have : unE 13 n m a = if n < 0 ∨ m < 1 then 0 else heldI (a * n / m) := rfl
    rw [this]
    exact ⟨iteP (P := R64) (fun _ => h0) (fun _ => heldI_R64 _), fun h => absurd h (by decide)⟩
  ·have hun : ∀ f, (op, f) ∈ opsT → op ≤ 12 → ¬ op = 7 → ¬ op = 13 → Calls Tryd.prog 39 #[.agg #[.int .i64 op, .int .i64 n, .int .i64 m, .slice (some p) 1 cap], .int .i64 a, .agg #[.int .i64 v.rep, .slice v.wa v.wins.length v.wcap, .slice v.ca v.crons.length v.ccap]] W' fun e w' => RetE (.num (unE op n m a)) e w' ∧ Below W'.heap.size W' w' := by
    intro f hf h12' h7 h13
    have : unE op n m a = fnS op a 0 := by
     unfold unE
     rw [if_neg h7, if_neg h13]
    rw [this]
    exact (onward_un hf h12' ha).mono fun e w' h => h
   rcases inv with ⟨rfl, hs⟩ | ⟨ho, hs, -⟩ | ⟨rfl, hs, -⟩ | ⟨rfl, h1, h2, hs, -⟩
   ·exact onward_memo.mono fun e w' h => h
   ·obtain ⟨f, hf⟩ := opsT_mem (k := op) (by omega)
    exact hun f hf (by omega) (by omega) (by omega)
   ·obtain ⟨f, hf⟩ := opsT_mem (k := 9) (by omega)
    exact hun f hf (by omega) (by omega) (by omega)
   ·exact (onward_scale ha hn hm).mono fun e w' h => h

theorem evalG_three {v : En} {op n m : Int} {at_ : Option Addr} {cap : Nat} {ka kb kc : Cr} (ia : EvalG v ka) (ib : EvalG v kb) (ic : EvalG v kc) : EvalG v (.node op n m at_ cap [ka, kb, kc]) := by
 intro w0 hl henv x hx h12
 rw [sortS_eq] at hx
 have hx : moreS (sortS v.wins.length v.crons.length 256) op n m [ka, kb, kc] = x := hx
 obtain ⟨p, rfl⟩ : ∃ p, at_ = some p := by
  obtain ⟨b, hb, -⟩ := hl.kids.cells (i := 0) (k := ka) rfl
  exact ⟨b, hb⟩
 rcases moreS_inv hx h12 with ⟨rfl, a', b', c', e3, h1, h2, h3⟩ | ⟨a', b', e2, -⟩
 ·injection e3 with e3 e4
  injection e4 with e4 e5
  injection e5 with e5 e6
  subst e3 e4 e5
  obtain ⟨ga, ea⟩ := ia w0 (hl.kid (by simp)) henv _ rfl (.inr h1)
  obtain ⟨gb, eb⟩ := ib w0 (hl.kid (by simp)) henv x h2 h12
  obtain ⟨gc, ec⟩ := ic w0 (hl.kid (by simp)) henv x h3 h12
  have e : evalS v (.node 28 n m (some p) cap [ka, kb, kc]) = (match evalS v ka with | .stop r => .stop r | .num a => if a = 1 then evalS v kb else evalS v kc) := by rw [evalS]; first | done | rfl
  rw [e]
  cases hev : evalS v ka with
  | stop q =>
   rw [hev] at ga ea
   exact ⟨ga, fun W hW hE => eval_stop (op := 28) (by decide) (by decide) rfl rfl hW hE ea⟩
  | num a =>
   rw [hev] at ga ea
   simp only
   rcases ga.2 h1 with h0 | h0
   ·rw [if_neg (by omega)]
    exact ⟨gc, fun W hW hE => eval_onward (op := 28) (by decide) rfl rfl hW hE ea fun W' hW' hE' => onward_if0 h0 hW'.kids hE' ec⟩
   ·rw [if_pos h0]
    exact ⟨gb, fun W hW hE => eval_onward (op := 28) (by decide) rfl rfl hW hE ea fun W' hW' hE' => onward_if1 h0 hW'.kids hE' eb⟩
 ·cases e2

theorem evalG_two {v : En} {op n m : Int} {at_ : Option Addr} {cap : Nat} {ka kb : Cr} (ia : EvalG v ka) (ib : EvalG v kb) : EvalG v (.node op n m at_ cap [ka, kb]) := by
 intro w0 hl henv x hx h12
 rw [sortS_eq] at hx
 have hx : moreS (sortS v.wins.length v.crons.length 256) op n m [ka, kb] = x := hx
 obtain ⟨p, rfl⟩ : ∃ p, at_ = some p := by
  obtain ⟨b, hb, -⟩ := hl.kids.cells (i := 0) (k := ka) rfl
  exact ⟨b, hb⟩
 rcases moreS_inv hx h12 with ⟨-, a', b', c', e3, -⟩ | ⟨a', b', e2, inv⟩
 ·cases e3
 ·injection e2 with e2 e3
  injection e3 with e3 e4
  subst e2 e3
  simp only [Cr.op_node] at inv
  have hsa : sortS v.wins.length v.crons.length 256 ka = 1 ∨ sortS v.wins.length v.crons.length 256 ka = 2 := by omega
  have hsb : sortS v.wins.length v.crons.length 256 kb = 1 ∨ sortS v.wins.length v.crons.length 256 kb = 2 := by omega
  obtain ⟨ga, ea⟩ := ia w0 (hl.kid (by simp)) henv _ rfl hsa
  obtain ⟨gb, eb⟩ := ib w0 (hl.kid (by simp)) henv _ rfl hsb
  have h6 : 6 < op := by omega
  have e : evalS v (.node op n m (some p) cap [ka, kb]) = (match evalS v ka with
   | .stop r => if op = 27 then evalS v kb else .stop r
   | .num a => if op = 27 then .num a else if op = 25 then (if a = 0 then .num 0 else evalS v kb) else if op = 26 then (if a = 1 then .num 1 else evalS v kb)
    else match evalS v kb with
     | .stop r => .stop r
     | .num b => binE op a b) := by rw [evalS]; first | done | rfl
  rw [e]
  cases hev : evalS v ka with
  | stop q =>
   rw [hev] at ga ea
   simp only
   by_cases h27 : op = 27
   ·subst h27
    rw [if_pos rfl]
    have hxb : sortS v.wins.length v.crons.length 256 kb = x := by omega
    obtain ⟨gb, -⟩ := ib w0 (hl.kid (by simp)) henv x hxb h12
    exact ⟨gb, fun W hW hE => eval_either hW hE ea eb⟩
   ·rw [if_neg h27]
    exact ⟨ga, fun W hW hE => eval_stop h6 h27 rfl rfl hW hE ea⟩
  | num a =>
   rw [hev] at ga ea
   have ha : R64 a := ga.1
   simp only
   by_cases h27 : op = 27
   ·subst h27
    rw [if_pos rfl]
    have hxa : sortS v.wins.length v.crons.length 256 ka = x := by omega
    rw [hxa] at ga
    exact ⟨ga, fun W hW hE => eval_onward (op := 27) (by decide) rfl rfl hW hE ea fun W' hW' hE' => onward_either.mono fun e w' h => h⟩
   ·rw [if_neg h27]
    by_cases h25 : op = 25
    ·subst h25
     rw [if_pos rfl]
     have hxb : sortS v.wins.length v.crons.length 256 kb = x := by omega
     obtain ⟨gb, -⟩ := ib w0 (hl.kid (by simp)) henv x hxb h12
     by_cases h0 : a = 0
     ·rw [if_pos h0]
      exact ⟨⟨by unfold R64; omega, fun _ => .inl rfl⟩, fun W hW hE => eval_onward (op := 25) (by decide) rfl rfl hW hE ea fun W' hW' hE' => (onward_and0 h0).mono fun e w' h => h⟩
     ·rw [if_neg h0]
      exact ⟨gb, fun W hW hE => eval_onward (op := 25) (by decide) rfl rfl hW hE ea fun W' hW' hE' => onward_and1 h0 hW'.kids hE' eb⟩
    ·rw [if_neg h25]
     by_cases h26 : op = 26
     ·subst h26
      rw [if_pos rfl]
      have hxb : sortS v.wins.length v.crons.length 256 kb = x := by omega
      obtain ⟨gb, -⟩ := ib w0 (hl.kid (by simp)) henv x hxb h12
      by_cases h0 : a = 1
      ·rw [if_pos h0]
       exact ⟨⟨by unfold R64; omega, fun _ => .inr rfl⟩, fun W hW hE => eval_onward (op := 26) (by decide) rfl rfl hW hE ea fun W' hW' hE' => (onward_or1 h0).mono fun e w' h => h⟩
      ·rw [if_neg h0]
       exact ⟨gb, fun W hW hE => eval_onward (op := 26) (by decide) rfl rfl hW hE ea fun W' hW' hE' => onward_or0 h0 hW'.kids hE' eb⟩
     ·rw [if_neg h26]
      obtain ⟨f, hf⟩ := opsT_mem (k := op) (by omega)
      have h14 : 14 ≤ op := by omega
      cases hevb : evalS v kb with
      | stop q =>
       rw [hevb] at gb eb
       exact ⟨gb, fun W hW hE => eval_onward h6 rfl rfl hW hE ea fun W' hW' hE' => onward_bin_stop hf h14 hW'.kids hE' eb⟩
      | num b =>
       rw [hevb] at gb eb
       have hb : R64 b := gb.1
       simp only [binE]
       by_cases hz : op = 17 ∧ b = 0
       ·rw [if_pos hz]
        exact ⟨⟨by unfold R64; omega, by decide⟩, fun W hW hE => eval_onward h6 rfl rfl hW hE ea fun W' hW' hE' => onward_bin_zero hf hz.1 hz.2 hW'.kids hE' eb⟩
       ·rw [if_neg hz]
        refine ⟨⟨fnS_R64 ha hb (by omega), fun h2 => fnS_truth (by omega)⟩, fun W hW hE => eval_onward h6 rfl rfl hW hE ea fun W' hW' hE' => ?_⟩
        by_cases h17 : op = 17
        ·exact (onward_bin_div hf h14 ha hb h17 (fun h0 => hz ⟨h17, h0⟩) hW'.kids hE' eb).mono fun e w' h => h
        ·exact (onward_bin_num hf h14 ha hb h17 hW'.kids hE' eb).mono fun e w' h => h

theorem eval_good (v : En) (c : Cr) : EvalG v c := by
 refine Cr.ind (P := EvalG v) (fun c ih => ?_) c
 obtain ⟨op, n, m, at_, cap, l⟩ := c
 match l, ih with
 | [], _ => exact evalG_leaf
 | [k], ih => exact evalG_one (ih k (by simp))
 | [a, b], ih => exact evalG_two (ih a (by simp)) (ih b (by simp))
 | [a, b, c], ih => exact evalG_three (ih a (by simp)) (ih b (by simp)) (ih c (by simp))
 | a :: b :: c :: d :: t, ih =>
  intro w0 hl henv x hx h12
  rw [sortS_eq] at hx
  have hx : moreS (sortS v.wins.length v.crons.length 256) op n m (a :: b :: c :: d :: t) = x := hx
  rcases moreS_inv hx h12 with ⟨-, a', b', c', e3, -⟩ | ⟨a', b', e2, -⟩
  ·cases e3
  ·cases e2
end Go.Proofs.YtpljkcakijkklaaDoor

end
