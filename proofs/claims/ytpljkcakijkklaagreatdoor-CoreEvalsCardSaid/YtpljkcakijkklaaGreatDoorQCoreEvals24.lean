/-
  Texts of this seat, joined, less what CoreEvals does not lean on: Eval10, Awake15, REval0, REval1, REval2, REval3, CEvalsLaw.
-/
import Derived.Test.YtpljkcakijkklaaGreatDoorQCoreEvals21
import Derived.Test.YtpljkcakijkklaaGreatDoorQCoreEvals23
import Derived.Test.YtpljkcakijkklaaGreatDoorQCoreEvals11
import Derived.Test.YtpljkcakijkklaaGreatDoorQCoreEvals19
import Derived.Test.YtpljkcakijkklaaGreatDoorQCoreEvals12
set_option linter.unusedVariables false
set_option linter.unusedSimpArgs false
set_option maxHeartbeats 8000000
set_option maxRecDepth 100000
section
namespace Go.Proofs.YtpljkcakijkklaaGreatDoor
set_option linter.unusedVariables false
set_option linter.unusedSimpArgs false
open Go.RowKit Go.Proofs.YtpljkcakijkklaaGreatDoorW.PrintWords Go.Proofs.YtpljkcakijkklaaGreatDoorW.PrintLast Go.Proofs.YtpljkcakijkklaaGreatDoorW.PrintMore

noncomputable def EvalR (v : En) (c : Cr) : Int × Int × Int :=
 if sortS v.wins.length v.crons.length 256 c = 1 ∨ sortS v.wins.length v.crons.length 256 c = 2 then (match evalS v c with | .num n => (0, n, 0) | .stop q => (q, 0, 0)) else (0, 0, 1)
theorem box3 (w : World) (o o2 o3 : Obj) : ∃ w1, ((w.alloc o).alloc o2).alloc o3 = w1 ∧ Below w.heap.size w w1 ∧ w1.heap[w.heap.size]? = some o ∧ w1.heap[w.heap.size + 1]? = some o2 ∧ w1.heap[w.heap.size + 1 + 1]? = some o3 ∧ w1.heap.size = w.heap.size + 3 := by
 obtain ⟨w2, e2, b2, k1, k2, s2⟩ := box2 w o o2
 rw [e2]
 refine ⟨_, rfl, below_alloc b2 _, blk_alloc k1 _, blk_alloc k2 _, ?_, by simp [s2]⟩
 have := blk_new w2 o3
 rw [s2] at this
 exact this
def ErrT (w : World) : Prop := w.cell? ⟨1, 0, none⟩ = some (.iface 162 (.agg #[.pointer (some ⟨4, 66, none⟩)]))
theorem ErrT.below {w w' : World} (h : ErrT w) (hb : Below w.heap.size w w') : ErrT w' := pw_cell_below hb h
theorem res_put {w : World} {g : Nat} {a b c d : Value} (h : w.heap[g]? = some (.cells #[a, b] 33 (0, 0))) : ((w.setCell ⟨g, 0, none⟩ c).setCell ⟨g, 1, none⟩ d).heap[g]? = some (.cells #[c, d] 33 (0, 0)) := blk_put (blk_put h 0 c rfl) 1 d rfl

theorem below_two {w w1 w2 : World} {c d : Value} (b1 : Below w.heap.size w w1) (b2 : Below w1.heap.size w1 w2) : Below w.heap.size w ((w2.setCell ⟨w.heap.size + 1 + 1, 0, none⟩ c).setCell ⟨w.heap.size + 1 + 1, 1, none⟩ d) :=
 ((b1.trans (b2.mono b1.size)).setCell (p := ⟨w.heap.size + 1 + 1, 0, none⟩) (by show w.heap.size ≤ w.heap.size + 1 + 1; omega) c).setCell (p := ⟨w.heap.size + 1 + 1, 1, none⟩) (by show w.heap.size ≤ w.heap.size + 1 + 1; omega) d
theorem Eval_calls {c : Cr} {v : En} {w : World} (hl : Lies w c) (henv : EnvL w v) (ht : ErrT w) : Calls Tryz.prog 9 #[.agg #[.int .i64 c.op, .int .i64 c.n, .int .i64 c.m, .slice c.at_ c.kids.length c.cap], .agg #[.int .i64 v.rep, .slice v.wa v.wins.length v.wcap, .slice v.ca v.crons.length v.ccap]] w
  fun e w' => e = .returned (.tuple #[.agg #[.int .i64 (EvalR v c).1, .int .i64 (EvalR v c).2.1], .int .i64 (EvalR v c).2.2]) ∧ Below w.heap.size w w' := by
 obtain ⟨w1, e1, b1, k1, k2, k3, s1⟩ := box3 w (.cells #[.int .i64 c.op, .int .i64 c.n, .int .i64 c.m, .slice c.at_ c.kids.length c.cap] 24) (.cells #[.int .i64 v.rep, .slice v.wa v.wins.length v.wcap, .slice v.ca v.crons.length v.ccap] 28) (.cells #[.int .i64 0, .int .i64 0] 33)
 have HE := Lib.hid e1
 have B1 := Lib.hid b1
 have HL := Lib.hid (hl.below b1)
 have HV := Lib.hid (henv.below b1)
 have HT := Lib.hid (ht.below b1)
 have HS := Lib.hid (Sort_calls (rw := v.wins.length) (rc := v.crons.length) (rl := 256) (hl.below b1))
 have HG := Lib.hid fun x hx h12 => (eval_good v c w1 (hl.below b1) (henv.below b1) x hx h12).2
 have HC := Lib.hid fun (w' : World) (hb : Below w1.heap.size w1 w') => (show _ ∧ _ ∧ _ from ⟨core_cells (blk_below k1 hb), env_cells (blk_below k2 hb), blk_below k3 hb⟩)
 obtain ⟨⟨ra, rb, re⟩, hR⟩ : ∃ R, EvalR v c = R := ⟨_, rfl⟩
 have HR := Lib.hid hR
 rw [hR]
 clear hl henv ht k1 k2 k3 e1 b1 s1 hR
 go_enter Tryz.func9, Tryz.ntmps9
 go_wp2_with fail
 rw [HE.out]
 refine HS.out.mono ?_
 rintro e w2 ⟨rfl, hb2⟩
 obtain ⟨s, hs⟩ : ∃ s, sortS v.wins.length v.crons.length 256 c = s := ⟨_, rfl⟩
 rw [hs]
 have HSS := Lib.hid hs
 have HB2 := Lib.hid hb2
 by_cases h12 : s = 1 ∨ s = 2
 ·obtain ⟨⟨y0, y1, y2, y3⟩, ⟨x0, x1, x2⟩, kr⟩ := HC.out w2 hb2
  have hEC := HG.out s hs h12 w2 (HL.out.below hb2) (HV.out.below hb2)
  have HEC := Lib.hid hEC
  have eR : EvalR v c = (match evalS v c with | .num n => (0, n, 0) | .stop q => (q, 0, 0)) := by
   unfold EvalR
   rw [hs, if_pos h12]
  have HER := Lib.hid (eR.symm.trans HR.out)
  obtain ⟨bb, hbb⟩ : ∃ bb, (s != 1) = bb := ⟨_, rfl⟩
  have h2 : bb = true → (s != 2) = false := by
   intro h
   rw [← hbb] at h
   rcases h12 with rfl | rfl
   ·simp at h
   ·rfl
  clear hEC hs eR hb2 kr
  have HBB := Lib.hid h2
  clear h2 h12
  cases bb with
  | false =>
   clear HBB
   go_wp2_with fail
   refine HEC.out.mono ?_
   rintro e w3 ⟨hret, hb3⟩
   obtain ⟨-, -, kr⟩ := HC.out w3 (HB2.out.trans (hb3.mono HB2.out.size))
   have r0 := (blk_cell kr 0).trans rfl
   have r1 := (blk_cell kr 1).trans rfl
   have f0 := blk_frozen kr 0
   have f1 := blk_frozen kr 1
   have HK := Lib.hid kr
   have HB3 := Lib.hid (HB2.out.trans (hb3.mono HB2.out.size))
   clear kr hb3 HG HEC HC y0 y1 y2 y3 x0 x1 x2
   cases hev : evalS v c with
   | num n =>
    rw [hev] at hret
    obtain rfl := hret
    obtain ⟨rfl, rfl, rfl⟩ : ra = 0 ∧ rb = n ∧ re = 0 := by
     have h := HER.out
     rw [hev] at h
     simp only [Prod.mk.injEq] at h
     exact ⟨h.1.symm, h.2.1.symm, h.2.2.symm⟩
    clear hev HER HR
    go_wp2_with fail
    refine bodyPost_ret (results_ct rfl _ _ (w.heap.size + 1 + 1) 33 _ (0, 0) _ rfl (res_put HK.out) Tryz.underlying33 rfl (by kernel_rfl)) rfl ?_
    exact ⟨by first | rfl | simp, below_two B1.out HB3.out⟩
   | stop q =>
    rw [hev] at hret
    obtain ⟨g, rfl, hg⟩ := hret
    obtain ⟨rfl, rfl, rfl⟩ : ra = q ∧ rb = 0 ∧ re = 0 := by
     have h := HER.out
     rw [hev] at h
     simp only [Prod.mk.injEq] at h
     exact ⟨h.1.symm, h.2.1.symm, h.2.2.symm⟩
    clear hev HER HR
    go_wp2_with fail
    refine (why_calls g _ _ (HT.out.below HB3.out) hg).mono ?_
    rintro e w4 ⟨rfl, hb4⟩
    have k4 := blk_below HK.out hb4
    have r0 := (blk_cell k4 0).trans rfl
    have r1 := (blk_cell k4 1).trans rfl
    have f0 := blk_frozen k4 0
    have f1 := blk_frozen k4 1
    have H4 := Lib.hid k4
    have HB4 := Lib.hid (HB3.out.trans (hb4.mono HB3.out.size))
    clear k4 hb4
    go_wp2_with fail
    refine bodyPost_ret (results_ct rfl _ _ (w.heap.size + 1 + 1) 33 _ (0, 0) _ rfl (res_put H4.out) Tryz.underlying33 rfl (by kernel_rfl)) rfl ?_
    exact ⟨by first | rfl | simp, below_two B1.out HB4.out⟩
  | true =>
   have h3 := HBB.out rfl
   clear HBB
   go_wp2_with fail
   refine HEC.out.mono ?_
   rintro e w3 ⟨hret, hb3⟩
   obtain ⟨-, -, kr⟩ := HC.out w3 (HB2.out.trans (hb3.mono HB2.out.size))
   have r0 := (blk_cell kr 0).trans rfl
   have r1 := (blk_cell kr 1).trans rfl
   have f0 := blk_frozen kr 0
   have f1 := blk_frozen kr 1
   have HK := Lib.hid kr
   have HB3 := Lib.hid (HB2.out.trans (hb3.mono HB2.out.size))
   clear kr hb3 HG HEC HC y0 y1 y2 y3 x0 x1 x2
   cases hev : evalS v c with
   | num n =>
    rw [hev] at hret
    obtain rfl := hret
    obtain ⟨rfl, rfl, rfl⟩ : ra = 0 ∧ rb = n ∧ re = 0 := by
     have h := HER.out
     rw [hev] at h
     simp only [Prod.mk.injEq] at h
     exact ⟨h.1.symm, h.2.1.symm, h.2.2.symm⟩
    clear hev HER HR
    go_wp2_with fail
    refine bodyPost_ret (results_ct rfl _ _ (w.heap.size + 1 + 1) 33 _ (0, 0) _ rfl (res_put HK.out) Tryz.underlying33 rfl (by kernel_rfl)) rfl ?_
    exact ⟨by first | rfl | simp, below_two B1.out HB3.out⟩
   | stop q =>
    rw [hev] at hret
    obtain ⟨g, rfl, hg⟩ := hret
    obtain ⟨rfl, rfl, rfl⟩ : ra = q ∧ rb = 0 ∧ re = 0 := by
     have h := HER.out
     rw [hev] at h
     simp only [Prod.mk.injEq] at h
     exact ⟨h.1.symm, h.2.1.symm, h.2.2.symm⟩
    clear hev HER HR
    go_wp2_with fail
    refine (why_calls g _ _ (HT.out.below HB3.out) hg).mono ?_
    rintro e w4 ⟨rfl, hb4⟩
    have k4 := blk_below HK.out hb4
    have r0 := (blk_cell k4 0).trans rfl
    have r1 := (blk_cell k4 1).trans rfl
    have f0 := blk_frozen k4 0
    have f1 := blk_frozen k4 1
    have H4 := Lib.hid k4
    have HB4 := Lib.hid (HB3.out.trans (hb4.mono HB3.out.size))
    clear k4 hb4
    go_wp2_with fail
    refine bodyPost_ret (results_ct rfl _ _ (w.heap.size + 1 + 1) 33 _ (0, 0) _ rfl (res_put H4.out) Tryz.underlying33 rfl (by kernel_rfl)) rfl ?_
    exact ⟨by first | rfl | simp, below_two B1.out HB4.out⟩
 ·have eR : EvalR v c = (0, 0, 1) := by
   unfold EvalR
   rw [hs, if_neg h12]
  obtain ⟨rfl, rfl, rfl⟩ : ra = 0 ∧ rb = 0 ∧ re = 1 := by
   have h := eR.symm.trans HR.out
   simp only [Prod.mk.injEq] at h
   exact ⟨h.1.symm, h.2.1.symm, h.2.2.symm⟩
  obtain ⟨-, -, kr⟩ := HC.out w2 hb2
  have r0 := (blk_cell kr 0).trans rfl
  have r1 := (blk_cell kr 1).trans rfl
  have f0 := blk_frozen kr 0
  have f1 := blk_frozen kr 1
  have g1 : (s != 1) = true := by simp; omega
  have g2 : (s != 2) = true := by simp; omega
  have HK := Lib.hid kr
  clear hs eR hb2 h12 kr
  go_wp2_with fail
  refine bodyPost_ret (results_ct rfl _ _ (w.heap.size + 1 + 1) 33 _ (0, 0) _ rfl (res_put HK.out) Tryz.underlying33 rfl (by kernel_rfl)) rfl ?_
  exact ⟨by first | rfl | simp, below_two B1.out HB2.out⟩
end Go.Proofs.YtpljkcakijkklaaGreatDoor

end
section
namespace Go.Proofs.YtpljkcakijkklaaGreatDoor
set_option linter.unusedVariables false
set_option linter.unusedSimpArgs false
open Go.RowKit Go.Proofs.YtpljkcakijkklaaGreatDoorW.PrintWords Go.Proofs.YtpljkcakijkklaaGreatDoorW.PrintLast Go.Proofs.YtpljkcakijkklaaGreatDoorW.PrintMore

def numC (n : Int) : Cr := .node 1 n 0 none 0 []
theorem numC_lies {n : Int} (hn : R64 n) (w : World) : Lies w (numC n) := by
 unfold numC
 rw [Lies, LiesL]
 exact ⟨⟨by unfold I64; omega, hn, by unfold I64; omega⟩, by decide, trivial⟩
theorem num_calls (n : Int) (w : World) : Calls Tryz.prog 19 #[.int .i64 n] w fun e w' => e = .returned (.agg #[.int .i64 1, .int .i64 n, .int .i64 0, .slice none 0 0]) ∧ Below w.heap.size w w' := by
 go_enter Tryz.func19, Tryz.ntmps19
 go_wp2_with fail
 refine bodyPost_ret (results_cell_row (fn := Tryz.f19) (p := 2) rfl _ _ w.heap.size 24 #[.int .i64 1, .int .i64 n, .int .i64 0, .slice none 0 0] (0, 0) _ rfl (blk_new _ _) Tryz.underlying24 rfl (by kernel_rfl)) rfl ?_
 exact ⟨rfl, below_alloc (Below.refl _ _) _⟩
theorem small_calls {c : Cr} {w : World} (hl : Lies w c) {b : Bool} (hb : decide (c.total ≤ 4096) = b) : Calls Tryz.prog 8 #[.agg #[.int .i64 c.op, .int .i64 c.n, .int .i64 c.m, .slice c.at_ c.kids.length c.cap]] w fun e w' => e = .returned (.bool b) ∧ Below w.heap.size w w' := by
 obtain ⟨w1, e1, b1, k2, s1⟩ := box1 w (.cells #[.int .i64 c.op, .int .i64 c.n, .int .i64 c.m, .slice c.at_ c.kids.length c.cap] 24)
 obtain ⟨r, hr⟩ : ∃ r, min c.total 4097 = r := ⟨_, rfl⟩
 have hcl := rNodes_calls c _ (hl.below b1)
 rw [hr] at hcl
 have HE := Lib.hid e1
 have B1 := Lib.hid b1
 have HS := Lib.hid hcl
 have hb2 : decide ((r : Int) ≤ 4096) = b := by
  rw [← hb]
  congr 1
  apply propext
  omega
 have hb3 : decide (r ≤ 4096) = b := by
  rw [← hb]
  congr 1
  apply propext
  omega
 clear hl k2 e1 b1 s1 hcl hr hb
 go_enter Tryz.func8, Tryz.ntmps8
 go_wp2_with fail
 rw [HE.out]
 refine HS.out.mono ?_
 rintro e w2 ⟨rfl, hb7⟩
 go_wp2_with fail
 go_ret
 exact ⟨by simp [hb3], B1.out.trans (hb7.mono B1.out.size)⟩
theorem of_calls (op : Int) (a b : Cr) (w : World) : Calls Tryz.prog 20 #[.int .i64 op, .agg #[.int .i64 a.op, .int .i64 a.n, .int .i64 a.m, .slice a.at_ a.kids.length a.cap], .agg #[.int .i64 b.op, .int .i64 b.n, .int .i64 b.m, .slice b.at_ b.kids.length b.cap]] w
  fun e w' => (∃ g, e = .returned (.agg #[.int .i64 op, .int .i64 0, .int .i64 0, .slice (some ⟨g, 0, none⟩) 2 2]) ∧ w'.heap[g]? = some (.cells #[.int .i64 a.op, .int .i64 a.n, .int .i64 a.m, .slice a.at_ a.kids.length a.cap, .int .i64 b.op, .int .i64 b.n, .int .i64 b.m, .slice b.at_ b.kids.length b.cap] 24 (0, 0))) ∧ Below w.heap.size w w' := by
 go_enter Tryz.func20, Tryz.ntmps20
 go_wp2_with fail
 generalize hA : Obj.cells #[.int .i64 a.op, .int .i64 a.n, .int .i64 a.m, .slice a.at_ a.kids.length a.cap] 24 = oa
 generalize hB : Obj.cells #[.int .i64 b.op, .int .i64 b.n, .int .i64 b.m, .slice b.at_ b.kids.length b.cap] 24 = ob
 refine bodyPost_ret (results_cell_row (fn := Tryz.f20) (p := 6) rfl _ _ (w.heap.size + 1 + 1) 24 #[.int .i64 op, .int .i64 0, .int .i64 0, .slice (some ⟨w.heap.size + 1 + 1 + 1, 0, none⟩) 2 2] (0, 0) _ rfl (by
   obtain ⟨w1, e1, b1, k1, k2, k3, s1⟩ := box3 w oa ob (.cells #[.int .i64 op, .int .i64 0, .int .i64 0, .slice (some ⟨w.heap.size + 1 + 1 + 1, 0, none⟩) 2 2] 24)
   rw [e1]
   exact blk_alloc k3 _) Tryz.underlying24 rfl (by kernel_rfl)) rfl ?_
 refine ⟨⟨w.heap.size + 1 + 1 + 1, rfl, ?_⟩, below_alloc (below_alloc (below_alloc (below_alloc (Below.refl _ _) _) _) _) _⟩
 obtain ⟨w1, e1, b1, k1, k2, k3, s1⟩ := box3 w oa ob (.cells #[.int .i64 op, .int .i64 0, .int .i64 0, .slice (some ⟨w.heap.size + 1 + 1 + 1, 0, none⟩) 2 2] 24)
 rw [e1]
 have := blk_new w1 (.cells #[.int .i64 a.op, .int .i64 a.n, .int .i64 a.m, .slice a.at_ a.kids.length a.cap, .int .i64 b.op, .int .i64 b.n, .int .i64 b.m, .slice b.at_ b.kids.length b.cap] 24)
 rw [s1] at this
 exact this
theorem of_lies {op : Int} {a b : Cr} {g : Nat} {w : World} (h : w.heap[g]? = some (.cells #[.int .i64 a.op, .int .i64 a.n, .int .i64 a.m, .slice a.at_ a.kids.length a.cap, .int .i64 b.op, .int .i64 b.n, .int .i64 b.m, .slice b.at_ b.kids.length b.cap] 24 (0, 0)))
  (ho : R64 op) (ha : Lies w a) (hb : Lies w b) : Lies w (.node op 0 0 (some ⟨g, 0, none⟩) 2 [a, b]) := by
 rw [Lies, LiesL, LiesL, LiesL]
 refine ⟨⟨ho, by unfold I64; omega, by unfold I64; omega⟩, by simp, ⟨⟨_, rfl, ?_⟩, ha, ⟨⟨_, rfl, ?_⟩, hb, trivial⟩⟩⟩
 ·refine World.cells?_of_each (Nat.zero_le _) rfl fun i hi => ?_
  match i, hi with
  | 0, _ => exact (blk_cell h 0).trans rfl
  | 1, _ => exact (blk_cell h 1).trans rfl
  | 2, _ => exact (blk_cell h 2).trans rfl
  | 3, _ => exact (blk_cell h 3).trans rfl
 ·refine World.cells?_of_each (Nat.zero_le _) rfl fun i hi => ?_
  match i, hi with
  | 0, _ => exact (blk_cell h 4).trans rfl
  | 1, _ => exact (blk_cell h 5).trans rfl
  | 2, _ => exact (blk_cell h 6).trans rfl
  | 3, _ => exact (blk_cell h 7).trans rfl
def en3 : En := ⟨3, none, 0, [], none, 0, []⟩
def en0 : En := ⟨0, none, 0, [], none, 0, []⟩
theorem en3_lies (w : World) : EnvL w en3 := ⟨by show R64 3; unfold R64; omega, by decide, by decide, fun i x h => by simp [en3] at h, fun i x h => by simp [en3] at h⟩
theorem en0_lies (w : World) : EnvL w en0 := ⟨by show R64 0; unfold R64; omega, by decide, by decide, fun i x h => by simp [en0] at h, fun i x h => by simp [en0] at h⟩
def repC : Cr := .node 3 0 0 none 0 []
theorem repC_lies (w : World) : Lies w repC := by
 unfold repC
 rw [Lies, LiesL]
 exact ⟨⟨by unfold I64; omega, by unfold I64; omega, by unfold I64; omega⟩, by decide, trivial⟩
theorem sort_num (rw rc rl n : Int) : sortS rw rc rl (numC n) = 1 := by
 rw [sortS_eq]
 rfl
theorem sort_rep (rw rc rl : Int) : sortS rw rc rl repC = 1 := by
 rw [sortS_eq]
 rfl
theorem sort_bin (rw rc rl : Int) {op : Int} {a b : Cr} {p : Option Addr} {k : Nat} (ho : 14 ≤ op ∧ op ≤ 17) (ha : sortS rw rc rl a = 1) (hb : sortS rw rc rl b = 1) : sortS rw rc rl (.node op 0 0 p k [a, b]) = 1 := by
 rw [sortS_eq]
 show moreS (sortS rw rc rl) op 0 0 [a, b] = 1
 unfold moreS
 rw [if_pos ⟨rfl, rfl⟩, if_neg (fun h => by have := h.1; omega), if_neg (fun h => by have := h.1; omega)]
 show twoS (sortS rw rc rl) op [a, b] = 1
 unfold twoS
 simp only
 rw [if_pos (by omega), ha, hb]
 rfl
theorem evalR_3 (g : Nat) : EvalR en3 (.node 14 0 0 (some ⟨g, 0, none⟩) 2 [repC, numC 500000]) = (0, 3500000, 0) := by
 have h := sort_bin en3.wins.length en3.crons.length 256 (op := 14) (p := some ⟨g, 0, none⟩) (k := 2) (by omega) (sort_rep en3.wins.length en3.crons.length 256) (sort_num en3.wins.length en3.crons.length 256 500000)
 unfold EvalR
 rw [h, if_pos (.inl rfl)]
 have e1 : evalS en3 repC = .num 3000000 := by unfold repC; rw [evalS]; rfl
 have e2 : evalS en3 (numC 500000) = .num 500000 := by unfold numC; rw [evalS]; rfl
 rw [evalS, e1, e2]
 rfl
theorem evalR_0 (g : Nat) : EvalR en0 (.node 17 0 0 (some ⟨g, 0, none⟩) 2 [numC 1, numC 0]) = (2, 0, 0) := by
 have h := sort_bin en0.wins.length en0.crons.length 256 (op := 17) (p := some ⟨g, 0, none⟩) (k := 2) (by omega) (sort_num en0.wins.length en0.crons.length 256 1) (sort_num en0.wins.length en0.crons.length 256 0)
 unfold EvalR
 rw [h, if_pos (.inl rfl)]
 have e1 : evalS en0 (numC 1) = .num 1 := by unfold numC; rw [evalS]; rfl
 have e2 : evalS en0 (numC 0) = .num 0 := by unfold numC; rw [evalS]; rfl
 rw [evalS, e1, e2]
 rfl
theorem awake15 (w : World) (ht : ErrT w) : Calls Tryz.prog 7 #[] w fun e w' => e = .returned (.bool true) ∧ Below w.heap.size w w' := by
 have HT := Lib.hid ht
 clear ht
 go_enter Tryz.func7, Tryz.ntmps7
 go_wp2_with fail
 refine (num_calls 500000 _).mono ?_
 rintro e w1 ⟨rfl, b1⟩
 go_wp2_with fail
 refine (of_calls 14 repC (numC 500000) _).mono ?_
 rintro e w2 ⟨⟨g, rfl, hg⟩, b2⟩
 have HL := Lib.hid (of_lies (op := 14) (a := repC) (b := numC 500000) hg (by unfold R64; omega) (repC_lies w2) (numC_lies (n := 500000) (by unfold R64; omega) w2))
 have B2 := Lib.hid (b1.trans (b2.mono b1.size))
 clear hg b1 b2
 go_wp2_with fail
 have hE := Eval_calls HL.out (en3_lies w2) (HT.out.below B2.out)
 rw [evalR_3] at hE
 refine hE.mono ?_
 clear hE
 rintro e w3 ⟨rfl, b3⟩
 have B3 := Lib.hid (B2.out.trans (b3.mono B2.out.size))
 clear b3 HL
 go_wp2_with fail
 obtain ⟨w4, e4, b4, k4, s4⟩ := box1 w3 (.cells #[.int .i64 0, .int .i64 3500000] 33)
 rw [e4]
 obtain ⟨g1, hg1⟩ : ∃ g, w3.heap.size = g := ⟨_, rfl⟩
 rw [hg1] at k4 ⊢
 have K4 := Lib.hid k4
 have B4 := Lib.hid (B3.out.trans (b4.mono B3.out.size))
 clear e4 b4 k4 s4 hg1
 refine (num_calls 1 _).mono ?_
 rintro e w5 ⟨rfl, b5⟩
 go_wp2_with fail
 refine (num_calls 0 _).mono ?_
 rintro e w6 ⟨rfl, b6⟩
 go_wp2_with fail
 refine (of_calls 17 (numC 1) (numC 0) _).mono ?_
 rintro e w7 ⟨⟨g2, rfl, hg⟩, b7⟩
 have HL := Lib.hid (of_lies (op := 17) (a := numC 1) (b := numC 0) hg (by unfold R64; omega) (numC_lies (n := 1) (by unfold R64; omega) w7) (numC_lies (n := 0) (by unfold R64; omega) w7))
 have b47 := b5.trans ((b6.trans (b7.mono b6.size)).mono b5.size)
 have B7 := Lib.hid (B4.out.trans (b47.mono B4.out.size))
 have K7 := Lib.hid (blk_below K4.out b47)
 clear hg b5 b6 b7 b47 K4
 go_wp2_with fail
 have hE := Eval_calls HL.out (en0_lies w7) (HT.out.below B7.out)
 rw [evalR_0] at hE
 refine hE.mono ?_
 clear hE
 rintro e w8 ⟨rfl, b8⟩
 have B8 := Lib.hid (B7.out.trans (b8.mono B7.out.size))
 have K8 := Lib.hid (blk_below K7.out b8)
 clear b8 HL K7
 have r0 := (blk_cell K8.out 0).trans rfl
 have r1 := (blk_cell K8.out 1).trans rfl
 have lt1 := blk_lt K8.out
 have n1 : ¬ g1 = w8.heap.size := by omega
 have n2 : ¬ w8.heap.size = g1 := by omega
 go_wp2_with fail
 refine (num_calls 1 _).mono ?_
 rintro e w9 ⟨rfl, b9⟩
 have B9 := Lib.hid (B8.out.trans (Below.mono (below_alloc (Below.refl _ _) _ |>.trans (b9.mono (by simp))) B8.out.size))
 clear b9 r0 r1 n1 n2 lt1
 go_wp2_with fail
 have hS := Sort_calls (rw := 0) (rc := 0) (rl := 0) (numC_lies (n := 1) (by unfold R64; omega) w9)
 rw [sort_num] at hS
 refine hS.mono ?_
 rintro e w10 ⟨rfl, b10⟩
 go_wp2_with fail
 go_ret
 exact ⟨rfl, B9.out.trans (b10.mono B9.out.size)⟩
end Go.Proofs.YtpljkcakijkklaaGreatDoor

end
section
namespace Go.Proofs.YtpljkcakijkklaaGreatDoor
set_option linter.unusedVariables false
set_option linter.unusedSimpArgs false
open Go.RowKit Go.Proofs.YtpljkcakijkklaaGreatDoor.Big Go.Proofs.YtpljkcakijkklaaGreatDoor.XRef01 Go.Proofs.YtpljkcakijkklaaGreatDoorW.PrintWords Go.Proofs.YtpljkcakijkklaaGreatDoorW.PrintLast Go.Proofs.YtpljkcakijkklaaGreatDoorW.PrintMore

theorem below_in2 {w w1 w2 : World} {c d : Value} (b1 : Below w.heap.size w w1) (b2 : Below w1.heap.size w1 w2) : Below w.heap.size w ((w2.setCell ⟨w.heap.size + 1, 0, none⟩ c).setCell ⟨w.heap.size + 1, 1, none⟩ d) :=
 ((b1.trans (b2.mono b1.size)).setCell (p := ⟨w.heap.size + 1, 0, none⟩) (Nat.le_succ _) c).setCell (p := ⟨w.heap.size + 1, 1, none⟩) (Nat.le_succ _) d
theorem below_in1 {w w1 w2 : World} {c d : Value} (b1 : Below w.heap.size w w1) (b2 : Below w1.heap.size w1 w2) : Below w.heap.size w ((w2.setCell ⟨w.heap.size, 0, none⟩ c).setCell ⟨w.heap.size, 1, none⟩ d) :=
 ((b1.trans (b2.mono b1.size)).setCell (p := ⟨w.heap.size, 0, none⟩) (Nat.le_refl _) c).setCell (p := ⟨w.heap.size, 1, none⟩) (Nat.le_refl _) d
theorem rnum_calls (n : Int) (w : World) : Calls Tryz.prog 28 #[.int .i64 n] w fun e w' => e = .returned (.agg #[.int .i64 0, .int .i64 (n)]) ∧ Below w.heap.size w w' := by
 go_enter Tryz.func28, Tryz.ntmps28
 go_wp2_with fail
 refine bodyPost_ret (results_cell_row (fn := Tryz.f28) (p := 2) rfl _ _ w.heap.size 33 #[.int .i64 0, .int .i64 n] (0, 0) _ rfl (blk_new _ _) Tryz.underlying33 rfl (by kernel_rfl)) rfl ?_
 exact ⟨rfl, below_alloc (Below.refl _ _) _⟩
theorem rtruth_true (w : World) : Calls Tryz.prog 30 #[.bool true] w fun e w' => e = .returned (.agg #[.int .i64 0, .int .i64 (1)]) ∧ Below w.heap.size w w' := by
 go_enter Tryz.func30, Tryz.ntmps30
 go_wp2_with fail
 refine bodyPost_ret (results_cell_row (fn := Tryz.f30) (p := 2) rfl _ _ w.heap.size 33 #[.int .i64 0, .int .i64 1] (0, 0) _ rfl (blk_new _ _) Tryz.underlying33 rfl (by kernel_rfl)) rfl ?_
 exact ⟨rfl, below_alloc (Below.refl _ _) _⟩
theorem rtruth_false (w : World) : Calls Tryz.prog 30 #[.bool false] w fun e w' => e = .returned (.agg #[.int .i64 0, .int .i64 (0)]) ∧ Below w.heap.size w w' := by
 go_enter Tryz.func30, Tryz.ntmps30
 go_wp2_with fail
 refine bodyPost_ret (results_cell_row (fn := Tryz.f30) (p := 2) rfl _ _ w.heap.size 33 #[.int .i64 0, .int .i64 0] (0, 0) _ rfl (blk_new _ _) Tryz.underlying33 rfl (by kernel_rfl)) rfl ?_
 exact ⟨rfl, below_alloc (Below.refl _ _) _⟩
theorem rtruth_calls (b : Bool) {r : Int} (hr : (if b then (1 : Int) else 0) = r) (w : World) : Calls Tryz.prog 30 #[.bool b] w fun e w' => e = .returned (.agg #[.int .i64 0, .int .i64 (r)]) ∧ Below w.heap.size w w' := by
 subst hr
 cases b
 ·exact rtruth_false w
 ·exact rtruth_true w
theorem run_7 {n m a : Int} {at_ : Option Addr} {len cap : Nat} (w : World) : Calls Tryz.prog 31 #[.agg #[.int .i64 7, .int .i64 n, .int .i64 m, .slice at_ len cap], .int .i64 a] w fun e w' => e = .returned (.agg #[.int .i64 0, .int .i64 (a)]) ∧ Below w.heap.size w w' := by
 obtain ⟨w1, e1, b1, k1, k2, s1⟩ := box2 w (.cells #[.int .i64 7, .int .i64 n, .int .i64 m, .slice at_ len cap] 24) (.cells #[.int .i64 0, .int .i64 0] 33)
 obtain ⟨r, hr⟩ : ∃ r, a = r := ⟨_, rfl⟩
 rw [hr]
 have HE := Lib.hid e1
 have B1 := Lib.hid b1
 have HK := Lib.hid fun (w' : World) (hb : Below w1.heap.size w1 w') => blk_below k2 hb
 obtain ⟨y0, y1, y2, y3⟩ := core_cells k1
 clear k1 k2 e1 b1 s1 hr
 go_enter Tryz.func31, Tryz.ntmps31
 go_wp2_with fail
 rw [HE.out]
 go_wp2_with fail
 have B2 := Lib.hid (Below.refl w1.heap.size w1)
 refine (rnum_calls _ _).mono ?_
 rintro e w3 ⟨rfl, b3⟩
 have B3 := Lib.hid (B2.out.trans (b3.mono B2.out.size))
 clear b3 y0 y1 y2 y3
 have kr := HK.out w3 B3.out
 have KR := Lib.hid kr
 have r0 := (blk_cell kr 0).trans rfl
 have r1 := (blk_cell kr 1).trans rfl
 have f0 := blk_frozen kr 0
 have f1 := blk_frozen kr 1
 clear kr
 go_wp2_with fail
 refine bodyPost_ret (results_cell_row (fn := Tryz.f31) (p := 4) rfl _ _ (w.heap.size + 1) 33 #[.int .i64 0, .int .i64 r] (0, 0) _ rfl (res_put KR.out) Tryz.underlying33 rfl (by kernel_rfl)) rfl ?_
 exact ⟨rfl, below_in2 B1.out B3.out⟩
theorem run_8 {n m a : Int} {at_ : Option Addr} {len cap : Nat} (ha : R64 a) (w : World) : Calls Tryz.prog 31 #[.agg #[.int .i64 8, .int .i64 n, .int .i64 m, .slice at_ len cap], .int .i64 a] w fun e w' => e = .returned (.agg #[.int .i64 0, .int .i64 (heldI (-a))]) ∧ Below w.heap.size w w' := by
 obtain ⟨w1, e1, b1, k1, k2, s1⟩ := box2 w (.cells #[.int .i64 8, .int .i64 n, .int .i64 m, .slice at_ len cap] 24) (.cells #[.int .i64 0, .int .i64 0] 33)
 obtain ⟨r, hr⟩ : ∃ r, heldI (-a) = r := ⟨_, rfl⟩
 have HS := Lib.hid (show capstanref01_Neg.f 40 a = some r by rw [← hr]; exact neg_ref ha)
 clear ha
 rw [hr]
 have HE := Lib.hid e1
 have B1 := Lib.hid b1
 have HK := Lib.hid fun (w' : World) (hb : Below w1.heap.size w1 w') => blk_below k2 hb
 obtain ⟨y0, y1, y2, y3⟩ := core_cells k1
 clear k1 k2 e1 b1 s1 hr
 go_enter Tryz.func31, Tryz.ntmps31
 go_wp2_with fail
 rw [HE.out]
 go_wp2_with fail
 refine (capstanref01_Neg.calls 40 a r _ HS.out).mono ?_
 rintro e w2 ⟨rfl, b2⟩
 have B2 := Lib.hid b2
 clear b2
 go_wp2_with fail
 refine (rnum_calls _ _).mono ?_
 rintro e w3 ⟨rfl, b3⟩
 have B3 := Lib.hid (B2.out.trans (b3.mono B2.out.size))
 clear b3 y0 y1 y2 y3
 have kr := HK.out w3 B3.out
 have KR := Lib.hid kr
 have r0 := (blk_cell kr 0).trans rfl
 have r1 := (blk_cell kr 1).trans rfl
 have f0 := blk_frozen kr 0
 have f1 := blk_frozen kr 1
 clear kr
 go_wp2_with fail
 refine bodyPost_ret (results_cell_row (fn := Tryz.f31) (p := 4) rfl _ _ (w.heap.size + 1) 33 #[.int .i64 0, .int .i64 r] (0, 0) _ rfl (res_put KR.out) Tryz.underlying33 rfl (by kernel_rfl)) rfl ?_
 exact ⟨rfl, below_in2 B1.out B3.out⟩
theorem run_9 {n m a : Int} {at_ : Option Addr} {len cap : Nat} (w : World) : Calls Tryz.prog 31 #[.agg #[.int .i64 9, .int .i64 n, .int .i64 m, .slice at_ len cap], .int .i64 a] w fun e w' => e = .returned (.agg #[.int .i64 0, .int .i64 ((if (a == 0) then (1 : Int) else 0))]) ∧ Below w.heap.size w w' := by
 obtain ⟨w1, e1, b1, k1, k2, s1⟩ := box2 w (.cells #[.int .i64 9, .int .i64 n, .int .i64 m, .slice at_ len cap] 24) (.cells #[.int .i64 0, .int .i64 0] 33)
 obtain ⟨r, hr⟩ : ∃ r, (if (a == 0) then (1 : Int) else 0) = r := ⟨_, rfl⟩
 have HS := Lib.hid hr
 rw [hr]
 have HE := Lib.hid e1
 have B1 := Lib.hid b1
 have HK := Lib.hid fun (w' : World) (hb : Below w1.heap.size w1 w') => blk_below k2 hb
 obtain ⟨y0, y1, y2, y3⟩ := core_cells k1
 clear k1 k2 e1 b1 s1 hr
 go_enter Tryz.func31, Tryz.ntmps31
 go_wp2_with fail
 rw [HE.out]
 go_wp2_with fail
 have B2 := Lib.hid (Below.refl w1.heap.size w1)
 refine (rtruth_calls _ HS.out _).mono ?_
 rintro e w3 ⟨rfl, b3⟩
 have B3 := Lib.hid (B2.out.trans (b3.mono B2.out.size))
 clear b3 y0 y1 y2 y3
 have kr := HK.out w3 B3.out
 have KR := Lib.hid kr
 have r0 := (blk_cell kr 0).trans rfl
 have r1 := (blk_cell kr 1).trans rfl
 have f0 := blk_frozen kr 0
 have f1 := blk_frozen kr 1
 clear kr
 go_wp2_with fail
 refine bodyPost_ret (results_cell_row (fn := Tryz.f31) (p := 4) rfl _ _ (w.heap.size + 1) 33 #[.int .i64 0, .int .i64 r] (0, 0) _ rfl (res_put KR.out) Tryz.underlying33 rfl (by kernel_rfl)) rfl ?_
 exact ⟨rfl, below_in2 B1.out B3.out⟩
theorem run_10 {n m a : Int} {at_ : Option Addr} {len cap : Nat} (ha : R64 a) (w : World) : Calls Tryz.prog 31 #[.agg #[.int .i64 10, .int .i64 n, .int .i64 m, .slice at_ len cap], .int .i64 a] w fun e w' => e = .returned (.agg #[.int .i64 0, .int .i64 (heldI (if a < 0 then -a else a))]) ∧ Below w.heap.size w w' := by
 obtain ⟨w1, e1, b1, k1, k2, s1⟩ := box2 w (.cells #[.int .i64 10, .int .i64 n, .int .i64 m, .slice at_ len cap] 24) (.cells #[.int .i64 0, .int .i64 0] 33)
 obtain ⟨r, hr⟩ : ∃ r, heldI (if a < 0 then -a else a) = r := ⟨_, rfl⟩
 have HS := Lib.hid (show capstanref01_Abs.f 40 a = some r by rw [← hr]; exact abs_ref ha)
 clear ha
 rw [hr]
 have HE := Lib.hid e1
 have B1 := Lib.hid b1
 have HK := Lib.hid fun (w' : World) (hb : Below w1.heap.size w1 w') => blk_below k2 hb
 obtain ⟨y0, y1, y2, y3⟩ := core_cells k1
 clear k1 k2 e1 b1 s1 hr
 go_enter Tryz.func31, Tryz.ntmps31
 go_wp2_with fail
 rw [HE.out]
 go_wp2_with fail
 refine (capstanref01_Abs.calls 40 a r _ HS.out).mono ?_
 rintro e w2 ⟨rfl, b2⟩
 have B2 := Lib.hid b2
 clear b2
 go_wp2_with fail
 refine (rnum_calls _ _).mono ?_
 rintro e w3 ⟨rfl, b3⟩
 have B3 := Lib.hid (B2.out.trans (b3.mono B2.out.size))
 clear b3 y0 y1 y2 y3
 have kr := HK.out w3 B3.out
 have KR := Lib.hid kr
 have r0 := (blk_cell kr 0).trans rfl
 have r1 := (blk_cell kr 1).trans rfl
 have f0 := blk_frozen kr 0
 have f1 := blk_frozen kr 1
 clear kr
 go_wp2_with fail
 refine bodyPost_ret (results_cell_row (fn := Tryz.f31) (p := 4) rfl _ _ (w.heap.size + 1) 33 #[.int .i64 0, .int .i64 r] (0, 0) _ rfl (res_put KR.out) Tryz.underlying33 rfl (by kernel_rfl)) rfl ?_
 exact ⟨rfl, below_in2 B1.out B3.out⟩
theorem run_11 {n m a : Int} {at_ : Option Addr} {len cap : Nat} (ha : R64 a) (w : World) : Calls Tryz.prog 31 #[.agg #[.int .i64 11, .int .i64 n, .int .i64 m, .slice at_ len cap], .int .i64 a] w fun e w' => e = .returned (.agg #[.int .i64 0, .int .i64 (heldI (-(-a / 1000000) * 1000000))]) ∧ Below w.heap.size w w' := by
 obtain ⟨w1, e1, b1, k1, k2, s1⟩ := box2 w (.cells #[.int .i64 11, .int .i64 n, .int .i64 m, .slice at_ len cap] 24) (.cells #[.int .i64 0, .int .i64 0] 33)
 obtain ⟨r, hr⟩ : ∃ r, heldI (-(-a / 1000000) * 1000000) = r := ⟨_, rfl⟩
 have HS := Lib.hid (show capstanref01_Ceil.f 1000 a = some r by rw [← hr]; exact ceil_ref 1000 (Nat.le_refl _) ha)
 clear ha
 rw [hr]
 have HE := Lib.hid e1
 have B1 := Lib.hid b1
 have HK := Lib.hid fun (w' : World) (hb : Below w1.heap.size w1 w') => blk_below k2 hb
 obtain ⟨y0, y1, y2, y3⟩ := core_cells k1
 clear k1 k2 e1 b1 s1 hr
 go_enter Tryz.func31, Tryz.ntmps31
 go_wp2_with fail
 rw [HE.out]
 go_wp2_with fail
 refine (capstanref01_Ceil.calls 1000 a r _ HS.out).mono ?_
 rintro e w2 ⟨rfl, b2⟩
 have B2 := Lib.hid b2
 clear b2
 go_wp2_with fail
 refine (rnum_calls _ _).mono ?_
 rintro e w3 ⟨rfl, b3⟩
 have B3 := Lib.hid (B2.out.trans (b3.mono B2.out.size))
 clear b3 y0 y1 y2 y3
 have kr := HK.out w3 B3.out
 have KR := Lib.hid kr
 have r0 := (blk_cell kr 0).trans rfl
 have r1 := (blk_cell kr 1).trans rfl
 have f0 := blk_frozen kr 0
 have f1 := blk_frozen kr 1
 clear kr
 go_wp2_with fail
 refine bodyPost_ret (results_cell_row (fn := Tryz.f31) (p := 4) rfl _ _ (w.heap.size + 1) 33 #[.int .i64 0, .int .i64 r] (0, 0) _ rfl (res_put KR.out) Tryz.underlying33 rfl (by kernel_rfl)) rfl ?_
 exact ⟨rfl, below_in2 B1.out B3.out⟩
theorem run_12 {n m a : Int} {at_ : Option Addr} {len cap : Nat} (ha : R64 a) (w : World) : Calls Tryz.prog 31 #[.agg #[.int .i64 12, .int .i64 n, .int .i64 m, .slice at_ len cap], .int .i64 a] w fun e w' => e = .returned (.agg #[.int .i64 0, .int .i64 (heldI (a / 1000000 * 1000000))]) ∧ Below w.heap.size w w' := by
 obtain ⟨w1, e1, b1, k1, k2, s1⟩ := box2 w (.cells #[.int .i64 12, .int .i64 n, .int .i64 m, .slice at_ len cap] 24) (.cells #[.int .i64 0, .int .i64 0] 33)
 obtain ⟨r, hr⟩ : ∃ r, heldI (a / 1000000 * 1000000) = r := ⟨_, rfl⟩
 have HS := Lib.hid (show capstanref01_Floor.f 1000 a = some r by rw [← hr]; exact floor_ref 1000 (Nat.le_refl _) ha)
 clear ha
 rw [hr]
 have HE := Lib.hid e1
 have B1 := Lib.hid b1
 have HK := Lib.hid fun (w' : World) (hb : Below w1.heap.size w1 w') => blk_below k2 hb
 obtain ⟨y0, y1, y2, y3⟩ := core_cells k1
 clear k1 k2 e1 b1 s1 hr
 go_enter Tryz.func31, Tryz.ntmps31
 go_wp2_with fail
 rw [HE.out]
 go_wp2_with fail
 refine (capstanref01_Floor.calls 1000 a r _ HS.out).mono ?_
 rintro e w2 ⟨rfl, b2⟩
 have B2 := Lib.hid b2
 clear b2
 go_wp2_with fail
 refine (rnum_calls _ _).mono ?_
 rintro e w3 ⟨rfl, b3⟩
 have B3 := Lib.hid (B2.out.trans (b3.mono B2.out.size))
 clear b3 y0 y1 y2 y3
 have kr := HK.out w3 B3.out
 have KR := Lib.hid kr
 have r0 := (blk_cell kr 0).trans rfl
 have r1 := (blk_cell kr 1).trans rfl
 have f0 := blk_frozen kr 0
 have f1 := blk_frozen kr 1
 clear kr
 go_wp2_with fail
 refine bodyPost_ret (results_cell_row (fn := Tryz.f31) (p := 4) rfl _ _ (w.heap.size + 1) 33 #[.int .i64 0, .int .i64 r] (0, 0) _ rfl (res_put KR.out) Tryz.underlying33 rfl (by kernel_rfl)) rfl ?_
 exact ⟨rfl, below_in2 B1.out B3.out⟩
theorem run_13 {n m a : Int} {at_ : Option Addr} {len cap : Nat} (ha : R64 a) (hn : R64 n) (hm : R64 m) (w : World) : Calls Tryz.prog 31 #[.agg #[.int .i64 13, .int .i64 n, .int .i64 m, .slice at_ len cap], .int .i64 a] w fun e w' => e = .returned (.agg #[.int .i64 0, .int .i64 ((if n < 0 ∨ m < 1 then 0 else heldI (a * n / m)))]) ∧ Below w.heap.size w w' := by
 obtain ⟨w1, e1, b1, k1, k2, s1⟩ := box2 w (.cells #[.int .i64 13, .int .i64 n, .int .i64 m, .slice at_ len cap] 24) (.cells #[.int .i64 0, .int .i64 0] 33)
 obtain ⟨r, hr⟩ : ∃ r, (if n < 0 ∨ m < 1 then 0 else heldI (a * n / m)) = r := ⟨_, rfl⟩
 have HS := Lib.hid (show capstanref01_Scale.f 1001 a n m = some r by rw [← hr]; exact scale_ref 1001 (Nat.le_refl _) ha hn hm)
 clear ha hn hm
 rw [hr]
 have HE := Lib.hid e1
 have B1 := Lib.hid b1
 have HK := Lib.hid fun (w' : World) (hb : Below w1.heap.size w1 w') => blk_below k2 hb
 obtain ⟨y0, y1, y2, y3⟩ := core_cells k1
 clear k1 k2 e1 b1 s1 hr
 go_enter Tryz.func31, Tryz.ntmps31
 go_wp2_with fail
 rw [HE.out]
 go_wp2_with fail
 refine (capstanref01_Scale.calls 1001 a n m r _ HS.out).mono ?_
 rintro e w2 ⟨rfl, b2⟩
 have B2 := Lib.hid b2
 clear b2
 go_wp2_with fail
 refine (rnum_calls _ _).mono ?_
 rintro e w3 ⟨rfl, b3⟩
 have B3 := Lib.hid (B2.out.trans (b3.mono B2.out.size))
 clear b3 y0 y1 y2 y3
 have kr := HK.out w3 B3.out
 have KR := Lib.hid kr
 have r0 := (blk_cell kr 0).trans rfl
 have r1 := (blk_cell kr 1).trans rfl
 have f0 := blk_frozen kr 0
 have f1 := blk_frozen kr 1
 clear kr
 go_wp2_with fail
 refine bodyPost_ret (results_cell_row (fn := Tryz.f31) (p := 4) rfl _ _ (w.heap.size + 1) 33 #[.int .i64 0, .int .i64 r] (0, 0) _ rfl (res_put KR.out) Tryz.underlying33 rfl (by kernel_rfl)) rfl ?_
 exact ⟨rfl, below_in2 B1.out B3.out⟩
theorem rbin_14 {a b : Int} (ha : R64 a) (hb : R64 b) (w : World) : Calls Tryz.prog 32 #[.int .i64 14, .int .i64 a, .int .i64 b] w fun e w' => e = .returned (.agg #[.int .i64 0, .int .i64 (heldI (a + b))]) ∧ Below w.heap.size w w' := by
 obtain ⟨w1, e1, b1, k1, s1⟩ := box1 w (.cells #[.int .i64 0, .int .i64 0] 33)
 obtain ⟨r, hr⟩ : ∃ r, heldI (a + b) = r := ⟨_, rfl⟩
 have HS := Lib.hid (show capstanref01_Add.f 40 a b = some r by rw [← hr]; exact add_ref ha hb)
 clear ha hb
 rw [hr]
 have HE := Lib.hid e1
 have B1 := Lib.hid b1
 have HK := Lib.hid fun (w' : World) (hb : Below w1.heap.size w1 w') => blk_below k1 hb
 clear k1 e1 b1 s1 hr
 go_enter Tryz.func32, Tryz.ntmps32
 go_wp2_with fail
 rw [HE.out]
 go_wp2_with fail
 refine (capstanref01_Add.calls 40 a b r _ HS.out).mono ?_
 rintro e w2 ⟨rfl, b2⟩
 have B2 := Lib.hid b2
 clear b2
 go_wp2_with fail
 refine (rnum_calls _ _).mono ?_
 rintro e w3 ⟨rfl, b3⟩
 have B3 := Lib.hid (B2.out.trans (b3.mono B2.out.size))
 clear b3
 have kr := HK.out w3 B3.out
 have KR := Lib.hid kr
 have r0 := (blk_cell kr 0).trans rfl
 have r1 := (blk_cell kr 1).trans rfl
 have f0 := blk_frozen kr 0
 have f1 := blk_frozen kr 1
 clear kr
 go_wp2_with fail
 refine bodyPost_ret (results_cell_row (fn := Tryz.f32) (p := 6) rfl _ _ w.heap.size 33 #[.int .i64 0, .int .i64 (r)] (0, 0) _ rfl (res_put KR.out) Tryz.underlying33 rfl (by kernel_rfl)) rfl ?_
 exact ⟨rfl, below_in1 B1.out B3.out⟩
theorem rbin_15 {a b : Int} (ha : R64 a) (hb : R64 b) (w : World) : Calls Tryz.prog 32 #[.int .i64 15, .int .i64 a, .int .i64 b] w fun e w' => e = .returned (.agg #[.int .i64 0, .int .i64 (heldI (a + -b))]) ∧ Below w.heap.size w w' := by
 obtain ⟨w1, e1, b1, k1, s1⟩ := box1 w (.cells #[.int .i64 0, .int .i64 0] 33)
 obtain ⟨r, hr⟩ : ∃ r, heldI (a + -b) = r := ⟨_, rfl⟩
 have HS := Lib.hid (show capstanref01_Sub.f 40 a b = some r by rw [← hr]; exact sub_ref ha hb)
 clear ha hb
 rw [hr]
 have HE := Lib.hid e1
 have B1 := Lib.hid b1
 have HK := Lib.hid fun (w' : World) (hb : Below w1.heap.size w1 w') => blk_below k1 hb
 clear k1 e1 b1 s1 hr
 go_enter Tryz.func32, Tryz.ntmps32
 go_wp2_with fail
 rw [HE.out]
 go_wp2_with fail
 refine (capstanref01_Sub.calls 40 a b r _ HS.out).mono ?_
 rintro e w2 ⟨rfl, b2⟩
 have B2 := Lib.hid b2
 clear b2
 go_wp2_with fail
 refine (rnum_calls _ _).mono ?_
 rintro e w3 ⟨rfl, b3⟩
 have B3 := Lib.hid (B2.out.trans (b3.mono B2.out.size))
 clear b3
 have kr := HK.out w3 B3.out
 have KR := Lib.hid kr
 have r0 := (blk_cell kr 0).trans rfl
 have r1 := (blk_cell kr 1).trans rfl
 have f0 := blk_frozen kr 0
 have f1 := blk_frozen kr 1
 clear kr
 go_wp2_with fail
 refine bodyPost_ret (results_cell_row (fn := Tryz.f32) (p := 6) rfl _ _ w.heap.size 33 #[.int .i64 0, .int .i64 (r)] (0, 0) _ rfl (res_put KR.out) Tryz.underlying33 rfl (by kernel_rfl)) rfl ?_
 exact ⟨rfl, below_in1 B1.out B3.out⟩
theorem rbin_16 {a b : Int} (ha : R64 a) (hb : R64 b) (w : World) : Calls Tryz.prog 32 #[.int .i64 16, .int .i64 a, .int .i64 b] w fun e w' => e = .returned (.agg #[.int .i64 0, .int .i64 (heldI (a * b / 1000000))]) ∧ Below w.heap.size w w' := by
 obtain ⟨w1, e1, b1, k1, s1⟩ := box1 w (.cells #[.int .i64 0, .int .i64 0] 33)
 obtain ⟨r, hr⟩ : ∃ r, heldI (a * b / 1000000) = r := ⟨_, rfl⟩
 have HS := Lib.hid (show capstanref01_Mul.f 1000 a b = some r by rw [← hr]; exact mul_ref 1000 (Nat.le_refl _) ha hb)
 clear ha hb
 rw [hr]
 have HE := Lib.hid e1
 have B1 := Lib.hid b1
 have HK := Lib.hid fun (w' : World) (hb : Below w1.heap.size w1 w') => blk_below k1 hb
 clear k1 e1 b1 s1 hr
 go_enter Tryz.func32, Tryz.ntmps32
 go_wp2_with fail
 rw [HE.out]
 go_wp2_with fail
 refine (capstanref01_Mul.calls 1000 a b r _ HS.out).mono ?_
 rintro e w2 ⟨rfl, b2⟩
 have B2 := Lib.hid b2
 clear b2
 go_wp2_with fail
 refine (rnum_calls _ _).mono ?_
 rintro e w3 ⟨rfl, b3⟩
 have B3 := Lib.hid (B2.out.trans (b3.mono B2.out.size))
 clear b3
 have kr := HK.out w3 B3.out
 have KR := Lib.hid kr
 have r0 := (blk_cell kr 0).trans rfl
 have r1 := (blk_cell kr 1).trans rfl
 have f0 := blk_frozen kr 0
 have f1 := blk_frozen kr 1
 clear kr
 go_wp2_with fail
 refine bodyPost_ret (results_cell_row (fn := Tryz.f32) (p := 6) rfl _ _ w.heap.size 33 #[.int .i64 0, .int .i64 (r)] (0, 0) _ rfl (res_put KR.out) Tryz.underlying33 rfl (by kernel_rfl)) rfl ?_
 exact ⟨rfl, below_in1 B1.out B3.out⟩
theorem rbin_17 {a b : Int} (ha : R64 a) (hb : R64 b) (h0 : ¬ b = 0) (w : World) : Calls Tryz.prog 32 #[.int .i64 17, .int .i64 a, .int .i64 b] w fun e w' => e = .returned (.agg #[.int .i64 0, .int .i64 (heldI (quotI a b))]) ∧ Below w.heap.size w w' := by
 obtain ⟨w1, e1, b1, k1, s1⟩ := box1 w (.cells #[.int .i64 0, .int .i64 0] 33)
 obtain ⟨r, hr⟩ : ∃ r, heldI (quotI a b) = r := ⟨_, rfl⟩
 have HS := Lib.hid (show capstanref01_Div.f 1000 a b = some (r, true) by rw [← hr, div_ref 1000 (Nat.le_refl _) ha hb, if_neg h0])
 clear ha hb h0
 rw [hr]
 have HE := Lib.hid e1
 have B1 := Lib.hid b1
 have HK := Lib.hid fun (w' : World) (hb : Below w1.heap.size w1 w') => blk_below k1 hb
 clear k1 e1 b1 s1 hr
 go_enter Tryz.func32, Tryz.ntmps32
 go_wp2_with fail
 rw [HE.out]
 go_wp2_with fail
 refine (capstanref01_Div.calls 1000 a b r true _ HS.out).mono ?_
 rintro e w2 ⟨rfl, b2⟩
 have B2 := Lib.hid b2
 clear b2
 go_wp2_with fail
 refine (rnum_calls _ _).mono ?_
 rintro e w3 ⟨rfl, b3⟩
 have B3 := Lib.hid (B2.out.trans (b3.mono B2.out.size))
 clear b3
 have kr := HK.out w3 B3.out
 have KR := Lib.hid kr
 have r0 := (blk_cell kr 0).trans rfl
 have r1 := (blk_cell kr 1).trans rfl
 have f0 := blk_frozen kr 0
 have f1 := blk_frozen kr 1
 clear kr
 go_wp2_with fail
 refine bodyPost_ret (results_cell_row (fn := Tryz.f32) (p := 6) rfl _ _ w.heap.size 33 #[.int .i64 0, .int .i64 (r)] (0, 0) _ rfl (res_put KR.out) Tryz.underlying33 rfl (by kernel_rfl)) rfl ?_
 exact ⟨rfl, below_in1 B1.out B3.out⟩
theorem rbin_17z {a b : Int} (ha : R64 a) (hb : R64 b) (h0 : b = 0) (w : World) : Calls Tryz.prog 32 #[.int .i64 17, .int .i64 a, .int .i64 b] w fun e w' => e = .returned (.agg #[.int .i64 2, .int .i64 (0)]) ∧ Below w.heap.size w w' := by
 obtain ⟨w1, e1, b1, k1, s1⟩ := box1 w (.cells #[.int .i64 0, .int .i64 0] 33)
 have HS := Lib.hid (show capstanref01_Div.f 1000 a b = some (0, false) by rw [div_ref 1000 (Nat.le_refl _) ha hb, if_pos h0])
 clear ha hb h0
 have HE := Lib.hid e1
 have B1 := Lib.hid b1
 have HK := Lib.hid fun (w' : World) (hb : Below w1.heap.size w1 w') => blk_below k1 hb
 clear k1 e1 b1 s1
 go_enter Tryz.func32, Tryz.ntmps32
 go_wp2_with fail
 rw [HE.out]
 go_wp2_with fail
 refine (capstanref01_Div.calls 1000 a b 0 false _ HS.out).mono ?_
 rintro e w2 ⟨rfl, b2⟩
 have B2 := Lib.hid b2
 clear b2
 have kr := HK.out w2 B2.out
 have KR := Lib.hid kr
 have r0 := (blk_cell kr 0).trans rfl
 have r1 := (blk_cell kr 1).trans rfl
 have f0 := blk_frozen kr 0
 have f1 := blk_frozen kr 1
 clear kr
 go_wp2_with fail
 refine bodyPost_ret (results_cell_row (fn := Tryz.f32) (p := 6) rfl _ _ w.heap.size 33 #[.int .i64 2, .int .i64 (0)] (0, 0) _ rfl (res_put KR.out) Tryz.underlying33 rfl (by kernel_rfl)) rfl ?_
 exact ⟨rfl, below_in1 B1.out B2.out⟩
theorem rbin_18 {a b : Int} (w : World) : Calls Tryz.prog 32 #[.int .i64 18, .int .i64 a, .int .i64 b] w fun e w' => e = .returned (.agg #[.int .i64 0, .int .i64 ((if (decide (a < b)) then (1 : Int) else 0))]) ∧ Below w.heap.size w w' := by
 obtain ⟨w1, e1, b1, k1, s1⟩ := box1 w (.cells #[.int .i64 0, .int .i64 0] 33)
 obtain ⟨r, hr⟩ : ∃ r, (if (decide (a < b)) then (1 : Int) else 0) = r := ⟨_, rfl⟩
 have HS := Lib.hid hr
 rw [hr]
 have HE := Lib.hid e1
 have B1 := Lib.hid b1
 have HK := Lib.hid fun (w' : World) (hb : Below w1.heap.size w1 w') => blk_below k1 hb
 clear k1 e1 b1 s1 hr
 go_enter Tryz.func32, Tryz.ntmps32
 go_wp2_with fail
 rw [HE.out]
 go_wp2_with fail
 have B2 := Lib.hid (Below.refl w1.heap.size w1)
 refine (rtruth_calls _ HS.out _).mono ?_
 rintro e w3 ⟨rfl, b3⟩
 have B3 := Lib.hid (B2.out.trans (b3.mono B2.out.size))
 clear b3
 have kr := HK.out w3 B3.out
 have KR := Lib.hid kr
 have r0 := (blk_cell kr 0).trans rfl
 have r1 := (blk_cell kr 1).trans rfl
 have f0 := blk_frozen kr 0
 have f1 := blk_frozen kr 1
 clear kr
 go_wp2_with fail
 refine bodyPost_ret (results_cell_row (fn := Tryz.f32) (p := 6) rfl _ _ w.heap.size 33 #[.int .i64 0, .int .i64 (r)] (0, 0) _ rfl (res_put KR.out) Tryz.underlying33 rfl (by kernel_rfl)) rfl ?_
 exact ⟨rfl, below_in1 B1.out B3.out⟩
theorem rbin_19 {a b : Int} (w : World) : Calls Tryz.prog 32 #[.int .i64 19, .int .i64 a, .int .i64 b] w fun e w' => e = .returned (.agg #[.int .i64 0, .int .i64 ((if (decide (a ≤ b)) then (1 : Int) else 0))]) ∧ Below w.heap.size w w' := by
 obtain ⟨w1, e1, b1, k1, s1⟩ := box1 w (.cells #[.int .i64 0, .int .i64 0] 33)
 obtain ⟨r, hr⟩ : ∃ r, (if (decide (a ≤ b)) then (1 : Int) else 0) = r := ⟨_, rfl⟩
 have HS := Lib.hid hr
 rw [hr]
 have HE := Lib.hid e1
 have B1 := Lib.hid b1
 have HK := Lib.hid fun (w' : World) (hb : Below w1.heap.size w1 w') => blk_below k1 hb
 clear k1 e1 b1 s1 hr
 go_enter Tryz.func32, Tryz.ntmps32
 go_wp2_with fail
 rw [HE.out]
 go_wp2_with fail
 have B2 := Lib.hid (Below.refl w1.heap.size w1)
 refine (rtruth_calls _ HS.out _).mono ?_
 rintro e w3 ⟨rfl, b3⟩
 have B3 := Lib.hid (B2.out.trans (b3.mono B2.out.size))
 clear b3
 have kr := HK.out w3 B3.out
 have KR := Lib.hid kr
 have r0 := (blk_cell kr 0).trans rfl
 have r1 := (blk_cell kr 1).trans rfl
 have f0 := blk_frozen kr 0
 have f1 := blk_frozen kr 1
 clear kr
 go_wp2_with fail
 refine bodyPost_ret (results_cell_row (fn := Tryz.f32) (p := 6) rfl _ _ w.heap.size 33 #[.int .i64 0, .int .i64 (r)] (0, 0) _ rfl (res_put KR.out) Tryz.underlying33 rfl (by kernel_rfl)) rfl ?_
 exact ⟨rfl, below_in1 B1.out B3.out⟩
theorem rbin_20 {a b : Int} (w : World) : Calls Tryz.prog 32 #[.int .i64 20, .int .i64 a, .int .i64 b] w fun e w' => e = .returned (.agg #[.int .i64 0, .int .i64 ((if (a == b) then (1 : Int) else 0))]) ∧ Below w.heap.size w w' := by
 obtain ⟨w1, e1, b1, k1, s1⟩ := box1 w (.cells #[.int .i64 0, .int .i64 0] 33)
 obtain ⟨r, hr⟩ : ∃ r, (if (a == b) then (1 : Int) else 0) = r := ⟨_, rfl⟩
 have HS := Lib.hid hr
 rw [hr]
 have HE := Lib.hid e1
 have B1 := Lib.hid b1
 have HK := Lib.hid fun (w' : World) (hb : Below w1.heap.size w1 w') => blk_below k1 hb
 clear k1 e1 b1 s1 hr
 go_enter Tryz.func32, Tryz.ntmps32
 go_wp2_with fail
 rw [HE.out]
 go_wp2_with fail
 have B2 := Lib.hid (Below.refl w1.heap.size w1)
 refine (rtruth_calls _ HS.out _).mono ?_
 rintro e w3 ⟨rfl, b3⟩
 have B3 := Lib.hid (B2.out.trans (b3.mono B2.out.size))
 clear b3
 have kr := HK.out w3 B3.out
 have KR := Lib.hid kr
 have r0 := (blk_cell kr 0).trans rfl
 have r1 := (blk_cell kr 1).trans rfl
 have f0 := blk_frozen kr 0
 have f1 := blk_frozen kr 1
 clear kr
 go_wp2_with fail
 refine bodyPost_ret (results_cell_row (fn := Tryz.f32) (p := 6) rfl _ _ w.heap.size 33 #[.int .i64 0, .int .i64 (r)] (0, 0) _ rfl (res_put KR.out) Tryz.underlying33 rfl (by kernel_rfl)) rfl ?_
 exact ⟨rfl, below_in1 B1.out B3.out⟩
theorem rbin_21 {a b : Int} (w : World) : Calls Tryz.prog 32 #[.int .i64 21, .int .i64 a, .int .i64 b] w fun e w' => e = .returned (.agg #[.int .i64 0, .int .i64 ((if (decide (b < a)) then (1 : Int) else 0))]) ∧ Below w.heap.size w w' := by
 obtain ⟨w1, e1, b1, k1, s1⟩ := box1 w (.cells #[.int .i64 0, .int .i64 0] 33)
 obtain ⟨r, hr⟩ : ∃ r, (if (decide (b < a)) then (1 : Int) else 0) = r := ⟨_, rfl⟩
 have HS := Lib.hid hr
 rw [hr]
 have HE := Lib.hid e1
 have B1 := Lib.hid b1
 have HK := Lib.hid fun (w' : World) (hb : Below w1.heap.size w1 w') => blk_below k1 hb
 clear k1 e1 b1 s1 hr
 go_enter Tryz.func32, Tryz.ntmps32
 go_wp2_with fail
 rw [HE.out]
 go_wp2_with fail
 have B2 := Lib.hid (Below.refl w1.heap.size w1)
 refine (rtruth_calls _ HS.out _).mono ?_
 rintro e w3 ⟨rfl, b3⟩
 have B3 := Lib.hid (B2.out.trans (b3.mono B2.out.size))
 clear b3
 have kr := HK.out w3 B3.out
 have KR := Lib.hid kr
 have r0 := (blk_cell kr 0).trans rfl
 have r1 := (blk_cell kr 1).trans rfl
 have f0 := blk_frozen kr 0
 have f1 := blk_frozen kr 1
 clear kr
 go_wp2_with fail
 refine bodyPost_ret (results_cell_row (fn := Tryz.f32) (p := 6) rfl _ _ w.heap.size 33 #[.int .i64 0, .int .i64 (r)] (0, 0) _ rfl (res_put KR.out) Tryz.underlying33 rfl (by kernel_rfl)) rfl ?_
 exact ⟨rfl, below_in1 B1.out B3.out⟩
theorem rbin_22 {a b : Int} (w : World) : Calls Tryz.prog 32 #[.int .i64 22, .int .i64 a, .int .i64 b] w fun e w' => e = .returned (.agg #[.int .i64 0, .int .i64 ((if (decide (b ≤ a)) then (1 : Int) else 0))]) ∧ Below w.heap.size w w' := by
 obtain ⟨w1, e1, b1, k1, s1⟩ := box1 w (.cells #[.int .i64 0, .int .i64 0] 33)
 obtain ⟨r, hr⟩ : ∃ r, (if (decide (b ≤ a)) then (1 : Int) else 0) = r := ⟨_, rfl⟩
 have HS := Lib.hid hr
 rw [hr]
 have HE := Lib.hid e1
 have B1 := Lib.hid b1
 have HK := Lib.hid fun (w' : World) (hb : Below w1.heap.size w1 w') => blk_below k1 hb
 clear k1 e1 b1 s1 hr
 go_enter Tryz.func32, Tryz.ntmps32
 go_wp2_with fail
 rw [HE.out]
 go_wp2_with fail
 have B2 := Lib.hid (Below.refl w1.heap.size w1)
 refine (rtruth_calls _ HS.out _).mono ?_
 rintro e w3 ⟨rfl, b3⟩
 have B3 := Lib.hid (B2.out.trans (b3.mono B2.out.size))
 clear b3
 have kr := HK.out w3 B3.out
 have KR := Lib.hid kr
 have r0 := (blk_cell kr 0).trans rfl
 have r1 := (blk_cell kr 1).trans rfl
 have f0 := blk_frozen kr 0
 have f1 := blk_frozen kr 1
 clear kr
 go_wp2_with fail
 refine bodyPost_ret (results_cell_row (fn := Tryz.f32) (p := 6) rfl _ _ w.heap.size 33 #[.int .i64 0, .int .i64 (r)] (0, 0) _ rfl (res_put KR.out) Tryz.underlying33 rfl (by kernel_rfl)) rfl ?_
 exact ⟨rfl, below_in1 B1.out B3.out⟩
theorem rbin_23 {a b : Int} (w : World) : Calls Tryz.prog 32 #[.int .i64 23, .int .i64 a, .int .i64 b] w fun e w' => e = .returned (.agg #[.int .i64 0, .int .i64 (min a b)]) ∧ Below w.heap.size w w' := by
 obtain ⟨w1, e1, b1, k1, s1⟩ := box1 w (.cells #[.int .i64 0, .int .i64 0] 33)
 have HE := Lib.hid e1
 have B1 := Lib.hid b1
 have HK := Lib.hid fun (w' : World) (hb : Below w1.heap.size w1 w') => blk_below k1 hb
 clear k1 e1 b1 s1
 go_enter Tryz.func32, Tryz.ntmps32
 go_wp2_with fail
 rw [HE.out]
 go_wp2_with fail
 have B2 := Lib.hid (Below.refl w1.heap.size w1)
 refine (rnum_calls _ _).mono ?_
 rintro e w3 ⟨rfl, b3⟩
 have B3 := Lib.hid (B2.out.trans (b3.mono B2.out.size))
 clear b3
 have kr := HK.out w3 B3.out
 have KR := Lib.hid kr
 have r0 := (blk_cell kr 0).trans rfl
 have r1 := (blk_cell kr 1).trans rfl
 have f0 := blk_frozen kr 0
 have f1 := blk_frozen kr 1
 clear kr
 go_wp2_with fail
 refine bodyPost_ret (results_cell_row (fn := Tryz.f32) (p := 6) rfl _ _ w.heap.size 33 #[.int .i64 0, .int .i64 (min a b)] (0, 0) _ rfl (res_put KR.out) Tryz.underlying33 rfl (by kernel_rfl)) rfl ?_
 exact ⟨rfl, below_in1 B1.out B3.out⟩
theorem rbin_24 {a b : Int} (w : World) : Calls Tryz.prog 32 #[.int .i64 24, .int .i64 a, .int .i64 b] w fun e w' => e = .returned (.agg #[.int .i64 0, .int .i64 (max a b)]) ∧ Below w.heap.size w w' := by
 obtain ⟨w1, e1, b1, k1, s1⟩ := box1 w (.cells #[.int .i64 0, .int .i64 0] 33)
 have HE := Lib.hid e1
 have B1 := Lib.hid b1
 have HK := Lib.hid fun (w' : World) (hb : Below w1.heap.size w1 w') => blk_below k1 hb
 clear k1 e1 b1 s1
 go_enter Tryz.func32, Tryz.ntmps32
 go_wp2_with fail
 rw [HE.out]
 go_wp2_with fail
 have B2 := Lib.hid (Below.refl w1.heap.size w1)
 refine (rnum_calls _ _).mono ?_
 rintro e w3 ⟨rfl, b3⟩
 have B3 := Lib.hid (B2.out.trans (b3.mono B2.out.size))
 clear b3
 have kr := HK.out w3 B3.out
 have KR := Lib.hid kr
 have r0 := (blk_cell kr 0).trans rfl
 have r1 := (blk_cell kr 1).trans rfl
 have f0 := blk_frozen kr 0
 have f1 := blk_frozen kr 1
 clear kr
 go_wp2_with fail
 refine bodyPost_ret (results_cell_row (fn := Tryz.f32) (p := 6) rfl _ _ w.heap.size 33 #[.int .i64 0, .int .i64 (max a b)] (0, 0) _ rfl (res_put KR.out) Tryz.underlying33 rfl (by kernel_rfl)) rfl ?_
 exact ⟨rfl, below_in1 B1.out B3.out⟩
end Go.Proofs.YtpljkcakijkklaaGreatDoor

end
section
namespace Go.Proofs.YtpljkcakijkklaaGreatDoor
set_option linter.unusedVariables false
set_option linter.unusedSimpArgs false
open Go.RowKit Go.Proofs.YtpljkcakijkklaaGreatDoorW.PrintWords Go.Proofs.YtpljkcakijkklaaGreatDoorW.PrintLast Go.Proofs.YtpljkcakijkklaaGreatDoorW.PrintMore

abbrev KA (w' : World) (p : Addr) (k : Cr) : Prop := w'.cell? p = some (.int .i64 k.op) ∧ w'.cell? ⟨p.block, p.off + 1, none⟩ = some (.int .i64 k.n) ∧ w'.cell? ⟨p.block, p.off + 2, none⟩ = some (.int .i64 k.m) ∧ w'.cell? ⟨p.block, p.off + 3, none⟩ = some (.slice k.at_ k.kids.length k.cap)
abbrev KB (w' : World) (p : Addr) (o : Nat) (k : Cr) : Prop := w'.cell? ⟨p.block, p.off + o, none⟩ = some (.int .i64 k.op) ∧ w'.cell? ⟨p.block, p.off + o + 1, none⟩ = some (.int .i64 k.n) ∧ w'.cell? ⟨p.block, p.off + o + 2, none⟩ = some (.int .i64 k.m) ∧ w'.cell? ⟨p.block, p.off + o + 3, none⟩ = some (.slice k.at_ k.kids.length k.cap)
abbrev CC (w' : World) (g : Nat) (o n m : Int) (s : Value) : Prop := w'.cell? ⟨g, 0, none⟩ = some (.int .i64 o) ∧ w'.cell? ⟨g, 1, none⟩ = some (.int .i64 n) ∧ w'.cell? ⟨g, 2, none⟩ = some (.int .i64 m) ∧ w'.cell? ⟨g, 3, none⟩ = some s
abbrev EC (w' : World) (g : Nat) (v : En) : Prop := w'.cell? ⟨g, 0, none⟩ = some (.int .i64 v.rep) ∧ w'.cell? ⟨g, 1, none⟩ = some (.slice v.wa v.wins.length v.wcap) ∧ w'.cell? ⟨g, 2, none⟩ = some (.slice v.ca v.crons.length v.ccap)
abbrev resO : Obj := .cells #[.int .i64 0, .int .i64 0] 33 (0, 0)
structure Fr2 (n : Nat) (w1 : World) (g : Nat) (T : TypeId) (w' : World) : Prop where
 bel : Below n w1 w'
 blk : ∃ a b : Value, w'.heap[g]? = some (.cells #[a, b] T (0, 0))
theorem Fr2.step {n g : Nat} {T : TypeId} {w1 w' w2 : World} (h : Fr2 n w1 g T w') (hb : Below w'.heap.size w' w2) (hn : n ≤ w1.heap.size) : Fr2 n w1 g T w2 := by
 obtain ⟨a, b, k⟩ := h.blk
 exact ⟨h.bel.trans (hb.mono (Nat.le_trans hn h.bel.size)), a, b, blk_below k hb⟩
theorem Fr2.put {n g : Nat} {T : TypeId} {w1 w' : World} (h : Fr2 n w1 g T w') (hg : n ≤ g) (c d : Value) : Fr2 n w1 g T ((w'.setCell ⟨g, 0, none⟩ c).setCell ⟨g, 1, none⟩ d) := by
 obtain ⟨a, b, k⟩ := h.blk
 exact ⟨(h.bel.setCell (p := ⟨g, 0, none⟩) hg c).setCell (p := ⟨g, 1, none⟩) hg d, c, d, blk_put (blk_put k 0 c rfl) 1 d rfl⟩
theorem fr_bel {w w1 w' : World} {g : Nat} {T : TypeId} (b1 : Below w.heap.size w w1) (h : Fr2 (w.heap.size + 1 + 1) w1 g T w') : Below w.heap.size w w' := b1.trans (h.bel.mono (Nat.le_trans (Nat.le_succ _) (Nat.le_succ _)))
theorem Fr2.drew {n g : Nat} {T : TypeId} {w1 w' : World} (h : Fr2 n w1 g T w') : Fr2 n w1 g T w'.drew := ⟨h.bel.drew, h.blk⟩
theorem below_put2 {w w7 : World} (h : Below w.heap.size w w7) {g : Nat} (hg : w.heap.size ≤ g) (c d : Value) : Below w.heap.size w ((w7.setCell ⟨g, 0, none⟩ c).setCell ⟨g, 1, none⟩ d) :=
 (h.setCell (p := ⟨g, 0, none⟩) hg c).setCell (p := ⟨g, 1, none⟩) hg d
def REvalC (v : En) (k : Cr) (a b : Int) : Prop :=
 ∀ W, Lies W k → EnvL W v → Calls Tryz.prog 11 #[.agg #[.int .i64 k.op, .int .i64 k.n, .int .i64 k.m, .slice k.at_ k.kids.length k.cap], .agg #[.int .i64 v.rep, .slice v.wa v.wins.length v.wcap, .slice v.ca v.crons.length v.ccap]] W fun e w' => e = .returned (.agg #[.int .i64 a, .int .i64 b]) ∧ Below W.heap.size W w'
section
variable {op n m : Int} {v : En} {p : Addr} {cap : Nat} {w : World} {ka kb kc : Cr}
theorem rev_stop {ra rn : Int} {l : List Cr} (h6 : 6 < op) (h27 : ¬ op = 27) (hra : ¬ ra = 0) (hk0 : l[0]? = some ka) (hl : Lies w (.node op n m (some p) cap l)) (henv : EnvL w v) (hE : REvalC v ka ra rn) :
  Calls Tryz.prog 11 #[.agg #[.int .i64 op, .int .i64 n, .int .i64 m, .slice (some p) l.length cap], .agg #[.int .i64 v.rep, .slice v.wa v.wins.length v.wcap, .slice v.ca v.crons.length v.ccap]] w fun e w' => e = .returned (.agg #[.int .i64 ra, .int .i64 rn]) ∧ Below w.heap.size w w' := by
 have p1 : (op == 1) = false := by simp; omega
 have p2 : (op == 2) = false := by simp; omega
 have p3 : (op == 3) = false := by simp; omega
 have p4 : (op == 4) = false := by simp; omega
 have p5 : (op == 5) = false := by simp; omega
 have p6 : (op == 6) = false := by simp; omega
 have p27 : (op == 27) = false := by simpa using h27
 have z0 : (ra != 0) = true := by simpa using hra
 have z1 : (ra == 0) = false := by simpa using hra
 have hpos : 0 < l.length := (List.getElem?_eq_some_iff.1 hk0).1
 have p40 : (0 < l.length) = True := eq_true hpos
 have p41 : ((0 : Int) < (l.length : Int)) = True := eq_true (by omega)
 obtain ⟨w1, e1, b1, k1, k2, k3, s1⟩ := box3 w (.cells #[.int .i64 op, .int .i64 n, .int .i64 m, .slice (some p) l.length cap] 24) (.cells #[.int .i64 v.rep, .slice v.wa v.wins.length v.wcap, .slice v.ca v.crons.length v.ccap] 28) (.cells #[.int .i64 0, .int .i64 0] 33)
 have HE := Lib.hid e1
 have B1 := Lib.hid b1
 have hl1 := hl.below b1
 have HENV := Lib.hid (henv.below b1)
 have HC := Lib.hid fun (w' : World) (hb : Below w1.heap.size w1 w') => (show CC w' w.heap.size op n m (.slice (some p) l.length cap) ∧ EC w' (w.heap.size + 1) v ∧ KA w' p ka from
  ⟨core_cells (blk_below k1 hb), env_cells (blk_below k2 hb), hl1.kids.lit0 hb (k := ka) hk0⟩)
 have HR := Lib.hid fun (w' : World) (hb : Below w1.heap.size w1 w') => blk_below k3 hb
 have Lka := Lib.hid (LiesL.lies hl1.kids (List.mem_of_getElem? hk0))
 have E0 := Lib.hid hE
 obtain ⟨⟨y0, y1, y2, y3⟩, -⟩ := HC.out w1 (Below.refl _ _)
 clear hl hl1 henv hE k1 k2 k3 e1 b1 s1 h6 h27 hra hpos hk0
 go_enter Tryz.func11, Tryz.ntmps11
 go_wp2_with fail
 rw [HE.out]
 go_wp2_with fail
 clear y0 y1 y2 y3
 refine wp_region_held_drew (S := fun w' => Aside0 (Below w1.heap.size w1 w')) (by kernel_rfl) ?_ (fun hHeld => ?_)
 ·exact ⟨(Below.refl _ _).drew⟩
 generalize World.drew _ = wDa at hHeld ⊢
 have HCr := HC
 refine' tk 0 ?_
 try simp only [pt]
 refine' tk 1 ?_
 try simp only [pt]
 refine' tk 2 ?_
 try simp only [pt]
 refine' tk 3 ?_
 try simp only [pt]
 refine' tk 4 ?_
 try simp only [pt]
 refine' share (F := fun g W' => Below w1.heap.size w1 W' ∧ W'.heap[g]? = some (resO) ∧ w1.heap.size ≤ g) (fun hX => ?boa5) ?rea5
 case boa5 =>
  have HX := Lib.hid hX
  clear hX
  refine wpAnyH_ready (rs := [5, 6]) (by kernel_rfl) (by simp) ?_
  refine AllReadyH.cons (o := ?oi_a5a) ?hi_a5a (fun K hK => ?kk_a5a) (AllReadyH.cons (o := ?oi_a5b) ?hi_a5b (fun K hK => ?kk_a5b) AllReadyH.nil)
  case hi_a5a => (simp only [List.getElem?_toArray, List.getElem?_cons_succ, List.getElem?_cons_zero]; rfl)
  case hi_a5b => (simp only [List.getElem?_toArray, List.getElem?_cons_succ, List.getElem?_cons_zero]; rfl)
  case kk_a5a =>
   go_simp
   refine (E0.out _ (Lka.out.below hHeld.out) (HENV.out.below hHeld.out)).mono ?_
   rintro e w7 ⟨rfl, hb2⟩
   have hZ : w1.heap.size ≤ w7.heap.size := (hHeld.out.trans (hb2.mono hHeld.out.size)).size
   refine hK.out _ _ ⟨hHeld.out.trans (hb2.mono hHeld.out.size)⟩ (fun hHeld => ?_)
   clear hK K
   try simp only [pt]
   refine' cm 6 (fun K hK => ?_)
   go_simp
   refine hK.out _ _ ⟨hHeld.out.alloc hHeld.out.size _⟩ (fun hHeld => ?_)
   clear hK K
   try simp only [pt]
   have HF : Below w1.heap.size w1 _ ∧ _ ∧ w1.heap.size ≤ w7.heap.size := ⟨hHeld.out, blk_new w7 (.cells #[.int .i64 0, .int .i64 0] 33), hZ⟩
   revert HF
   clear hZ hHeld
   generalize w7.heap.size = gT
   generalize World.alloc w7 _ = wT
   intro HF
   exact HX.out gT wT HF
  case kk_a5b =>
   go_simp
   have hg0 := blk_new wDa (.cells #[.int .i64 0, .int .i64 0] 33)
   have hg1 := hHeld.out.size
   refine hK.out _ _ ⟨hHeld.out.alloc hHeld.out.size _⟩ (fun hHeld => ?_)
   clear hK K
   try simp only [pt]
   refine' cm 5 (fun K hK => ?_)
   go_simp
   refine (E0.out _ (Lka.out.below hHeld.out) (HENV.out.below hHeld.out)).mono ?_
   rintro e w7 ⟨rfl, hb2⟩
   have hg2 := blk_below hg0 hb2
   refine hK.out _ _ ⟨hHeld.out.trans (hb2.mono hHeld.out.size)⟩ (fun hHeld => ?_)
   clear hK K
   try simp only [pt]
   exact HX.out _ w7 ⟨hHeld.out, hg2, hg1⟩
 case rea5 =>
  intro gA wA hF
  obtain ⟨bA, kA, geA⟩ := hF
  have hHeld : Aside0 (Below w1.heap.size w1 wA) := ⟨bA⟩
  have KA := Lib.hid kA
  have GEgA := Lib.hid geA
  have r0 := (blk_cell kA 0).trans rfl
  have r1 := (blk_cell kA 1).trans rfl
  have f0 := blk_frozen kA 0
  have f1 := blk_frozen kA 1
  clear bA kA geA
  refine' cm 7 (fun K hK => ?_)
  go_simp
  refine hK.out _ _ ⟨(hHeld.out.setCell (p := ⟨gA, 0, none⟩) GEgA.out _).setCell (p := ⟨gA, 1, none⟩) GEgA.out _⟩ (fun hHeld => ?_)
  clear hK K
  try simp only [pt]
  refine wpAnyH_done (by kernel_rfl) ?_ _
  have kgA := res_put (c := .int .i64 ra) (d := .int .i64 rn) KA.out
  clear r0 r1 f0 f1 KA
  generalize World.setCell (World.setCell _ _ _) _ _ = wSgA at hHeld kgA ⊢
  have KgA := Lib.hid kgA
  have BgA := Lib.hid hHeld.out
  have q0 := (blk_cell KgA.out 0).trans rfl
  have q1 := (blk_cell KgA.out 1).trans rfl
  have kr := HR.out _ BgA.out
  have KR := Lib.hid kr
  have r0 := (blk_cell kr 0).trans rfl
  have r1 := (blk_cell kr 1).trans rfl
  have f0 := blk_frozen kr 0
  have f1 := blk_frozen kr 1
  clear kr
  obtain ⟨⟨y0, y1, y2, y3⟩, -⟩ := HC.out _ BgA.out
  go_wp2_with fail
  refine bodyPost_ret (results_cell_row (fn := Tryz.f11) (p := 4) rfl _ _ (w.heap.size + 1 + 1) 33 #[.int .i64 ra, .int .i64 rn] (0, 0) _ rfl (res_put KR.out) Tryz.underlying33 rfl (by kernel_rfl)) rfl ?_
  exact ⟨by first | rfl | simp, below_two B1.out BgA.out⟩
theorem rev_either {ra rn ra2 rn2 : Int} (hra : ¬ ra = 0) (hE2 : REvalC v kb ra2 rn2) (hl : Lies w (.node 27 n m (some p) cap [ka, kb])) (henv : EnvL w v) (hE : REvalC v ka ra rn) :
  Calls Tryz.prog 11 #[.agg #[.int .i64 27, .int .i64 n, .int .i64 m, .slice (some p) 2 cap], .agg #[.int .i64 v.rep, .slice v.wa v.wins.length v.wcap, .slice v.ca v.crons.length v.ccap]] w fun e w' => e = .returned (.agg #[.int .i64 ra2, .int .i64 rn2]) ∧ Below w.heap.size w w' := by
 have z0 : (ra != 0) = true := by simpa using hra
 have z1 : (ra == 0) = false := by simpa using hra
 obtain ⟨w1, e1, b1, k1, k2, k3, s1⟩ := box3 w (.cells #[.int .i64 27, .int .i64 n, .int .i64 m, .slice (some p) 2 cap] 24) (.cells #[.int .i64 v.rep, .slice v.wa v.wins.length v.wcap, .slice v.ca v.crons.length v.ccap] 28) (.cells #[.int .i64 0, .int .i64 0] 33)
 have HE := Lib.hid e1
 have B1 := Lib.hid b1
 have hl1 := hl.below b1
 have HENV := Lib.hid (henv.below b1)
 have HC := Lib.hid fun (w' : World) (hb : Below w1.heap.size w1 w') => (show CC w' w.heap.size 27 n m (.slice (some p) 2 cap) ∧ EC w' (w.heap.size + 1) v ∧ KA w' p ka ∧ KB w' p 4 kb from
  ⟨core_cells (blk_below k1 hb), env_cells (blk_below k2 hb), hl1.kids.lit0 hb (k := ka) rfl, hl1.kids.lit hb 0 rfl⟩)
 have HR := Lib.hid fun (w' : World) (hb : Below w1.heap.size w1 w') => blk_below k3 hb
 have Lka := Lib.hid (LiesL.lies hl1.kids (List.mem_of_getElem? (show ([ka, kb] : List Cr)[0]? = some ka from rfl)))
 have Lkb := Lib.hid (LiesL.lies hl1.kids (List.mem_of_getElem? (show ([ka, kb] : List Cr)[1]? = some kb from rfl)))
 have E0 := Lib.hid hE
 obtain ⟨⟨y0, y1, y2, y3⟩, -⟩ := HC.out w1 (Below.refl _ _)
 have N1 := Lib.hid (show w.heap.size + 1 + 1 < w1.heap.size by omega)
 have HX := Lib.hid fun (w' : World) (h : Fr2 (w.heap.size + 1 + 1) w1 (w.heap.size + 1 + 1) 33 w') => (show CC w' w.heap.size 27 n m (.slice (some p) 2 cap) ∧ EC w' (w.heap.size + 1) v ∧ KA w' p ka ∧ KB w' p 4 kb from
  ⟨core_cells ((h.bel.block _ (by omega)).trans k1), env_cells ((h.bel.block _ (by omega)).trans k2), hl.kids.lit0 (fr_bel b1 h) (k := ka) rfl, hl.kids.lit (fr_bel b1 h) 0 rfl⟩)
 have HW := Lib.hid fun (w' : World) (h : Fr2 (w.heap.size + 1 + 1) w1 (w.heap.size + 1 + 1) 33 w') => fr_bel b1 h
 have HF := Lib.hid fun (w' : World) (h : Below w1.heap.size w1 w') => (show Fr2 (w.heap.size + 1 + 1) w1 (w.heap.size + 1 + 1) 33 w' from ⟨h.mono (by omega), _, _, blk_below k3 h⟩)
 have Mka := Lib.hid (LiesL.lies hl.kids (List.mem_of_getElem? (show ([ka, kb] : List Cr)[0]? = some ka from rfl)))
 have Mkb := Lib.hid (LiesL.lies hl.kids (List.mem_of_getElem? (show ([ka, kb] : List Cr)[1]? = some kb from rfl)))
 have HV := Lib.hid henv
 have E2 := Lib.hid hE2
 clear hl hl1 henv hE k1 k2 k3 e1 b1 s1 hra hE2
 go_enter Tryz.func11, Tryz.ntmps11
 go_wp2_with fail
 rw [HE.out]
 go_wp2_with fail
 clear y0 y1 y2 y3
 refine wp_region_held_drew (S := fun w' => Aside0 (Below w1.heap.size w1 w')) (by kernel_rfl) ?_ (fun hHeld => ?_)
 ·exact ⟨(Below.refl _ _).drew⟩
 generalize World.drew _ = wDa at hHeld ⊢
 have HCr := HC
 refine' tk 0 ?_
 try simp only [pt]
 refine' tk 1 ?_
 try simp only [pt]
 refine' tk 2 ?_
 try simp only [pt]
 refine' tk 3 ?_
 try simp only [pt]
 refine' tk 4 ?_
 try simp only [pt]
 refine' share (F := fun g W' => Below w1.heap.size w1 W' ∧ W'.heap[g]? = some (resO) ∧ w1.heap.size ≤ g) (fun hX => ?boa5) ?rea5
 case boa5 =>
  have HX := Lib.hid hX
  clear hX
  refine wpAnyH_ready (rs := [5, 6]) (by kernel_rfl) (by simp) ?_
  refine AllReadyH.cons (o := ?oi_a5a) ?hi_a5a (fun K hK => ?kk_a5a) (AllReadyH.cons (o := ?oi_a5b) ?hi_a5b (fun K hK => ?kk_a5b) AllReadyH.nil)
  case hi_a5a => (simp only [List.getElem?_toArray, List.getElem?_cons_succ, List.getElem?_cons_zero]; rfl)
  case hi_a5b => (simp only [List.getElem?_toArray, List.getElem?_cons_succ, List.getElem?_cons_zero]; rfl)
  case kk_a5a =>
   go_simp
   refine (E0.out _ (Lka.out.below hHeld.out) (HENV.out.below hHeld.out)).mono ?_
   rintro e w7 ⟨rfl, hb2⟩
   have hZ : w1.heap.size ≤ w7.heap.size := (hHeld.out.trans (hb2.mono hHeld.out.size)).size
   refine hK.out _ _ ⟨hHeld.out.trans (hb2.mono hHeld.out.size)⟩ (fun hHeld => ?_)
   clear hK K
   try simp only [pt]
   refine' cm 6 (fun K hK => ?_)
   go_simp
   refine hK.out _ _ ⟨hHeld.out.alloc hHeld.out.size _⟩ (fun hHeld => ?_)
   clear hK K
   try simp only [pt]
   have HF : Below w1.heap.size w1 _ ∧ _ ∧ w1.heap.size ≤ w7.heap.size := ⟨hHeld.out, blk_new w7 (.cells #[.int .i64 0, .int .i64 0] 33), hZ⟩
   revert HF
   clear hZ hHeld
   generalize w7.heap.size = gT
   generalize World.alloc w7 _ = wT
   intro HF
   exact HX.out gT wT HF
  case kk_a5b =>
   go_simp
   have hg0 := blk_new wDa (.cells #[.int .i64 0, .int .i64 0] 33)
   have hg1 := hHeld.out.size
   refine hK.out _ _ ⟨hHeld.out.alloc hHeld.out.size _⟩ (fun hHeld => ?_)
   clear hK K
   try simp only [pt]
   refine' cm 5 (fun K hK => ?_)
   go_simp
   refine (E0.out _ (Lka.out.below hHeld.out) (HENV.out.below hHeld.out)).mono ?_
   rintro e w7 ⟨rfl, hb2⟩
   have hg2 := blk_below hg0 hb2
   refine hK.out _ _ ⟨hHeld.out.trans (hb2.mono hHeld.out.size)⟩ (fun hHeld => ?_)
   clear hK K
   try simp only [pt]
   exact HX.out _ w7 ⟨hHeld.out, hg2, hg1⟩
 case rea5 =>
  intro gA wA hF
  obtain ⟨bA, kA, geA⟩ := hF
  have hHeld : Aside0 (Below w1.heap.size w1 wA) := ⟨bA⟩
  have KA := Lib.hid kA
  have GEgA := Lib.hid geA
  have r0 := (blk_cell kA 0).trans rfl
  have r1 := (blk_cell kA 1).trans rfl
  have f0 := blk_frozen kA 0
  have f1 := blk_frozen kA 1
  clear bA kA geA
  refine' cm 7 (fun K hK => ?_)
  go_simp
  refine hK.out _ _ ⟨(hHeld.out.setCell (p := ⟨gA, 0, none⟩) GEgA.out _).setCell (p := ⟨gA, 1, none⟩) GEgA.out _⟩ (fun hHeld => ?_)
  clear hK K
  try simp only [pt]
  refine wpAnyH_done (by kernel_rfl) ?_ _
  have kgA := res_put (c := .int .i64 ra) (d := .int .i64 rn) KA.out
  clear r0 r1 f0 f1 KA
  generalize World.setCell (World.setCell _ _ _) _ _ = wSgA at hHeld kgA ⊢
  have KgA := Lib.hid kgA
  have BgA := Lib.hid hHeld.out
  have q0 := (blk_cell KgA.out 0).trans rfl
  have q1 := (blk_cell KgA.out 1).trans rfl
  obtain ⟨⟨y0, y1, y2, y3⟩, -⟩ := HC.out _ BgA.out
  go_wp2_with fail
  clear y0 y1 y2 y3 q0 q1
  refine wp_region_held_drew (S := fun w' => Aside0 (Fr2 (w.heap.size + 1 + 1) w1 (w.heap.size + 1 + 1) 33 w')) (by kernel_rfl) ?_ (fun hHeld => ?_)
  ·exact ⟨(HF.out _ BgA.out).drew⟩
  generalize World.drew _ = wDb at hHeld ⊢
  have HCr := HX
  refine' tk 0 ?_
  try simp only [pt]
  refine' tk 1 ?_
  try simp only [pt]
  refine' tk 2 ?_
  try simp only [pt]
  refine' tk 3 ?_
  try simp only [pt]
  refine' tk 4 ?_
  try simp only [pt]
  refine' cm 5 (fun K hK => ?_)
  go_simp
  refine (E2.out _ (Mkb.out.below (HW.out _ hHeld.out)) (HV.out.below (HW.out _ hHeld.out))).mono ?_
  rintro e w7 ⟨rfl, hb2⟩
  refine hK.out _ _ ⟨hHeld.out.step hb2 (Nat.le_of_lt N1.out)⟩ (fun hHeld => ?_)
  clear hK K
  try simp only [pt]
  have BR := Lib.hid (HW.out _ hHeld.out)
  obtain ⟨qa, qb, kr⟩ := hHeld.out.blk
  have KR := Lib.hid kr
  have r0 := (blk_cell kr 0).trans rfl
  have r1 := (blk_cell kr 1).trans rfl
  have f0 := blk_frozen kr 0
  have f1 := blk_frozen kr 1
  clear kr
  refine' cm 6 (fun K hK => ?_)
  go_simp
  refine hK.out _ _ ⟨hHeld.out.put (Nat.le_refl _) _ _⟩ (fun hHeld => ?_)
  clear hK K
  try simp only [pt]
  refine wpAnyH_done (by kernel_rfl) ?_ _
  go_wp2_with fail
  refine bodyPost_ret (results_cell_row (fn := Tryz.f11) (p := 4) rfl _ _ (w.heap.size + 1 + 1) 33 #[.int .i64 ra2, .int .i64 rn2] (0, 0) _ rfl (res_put KR.out) Tryz.underlying33 rfl (by kernel_rfl)) rfl ?_
  exact ⟨by first | rfl | simp, below_put2 BR.out (Nat.le_trans (Nat.le_succ _) (Nat.le_succ _)) _ _⟩
theorem rev_either_num {rn : Int} (hl : Lies w (.node 27 n m (some p) cap [ka, kb])) (henv : EnvL w v) (hE : REvalC v ka 0 rn) :
  Calls Tryz.prog 11 #[.agg #[.int .i64 27, .int .i64 n, .int .i64 m, .slice (some p) 2 cap], .agg #[.int .i64 v.rep, .slice v.wa v.wins.length v.wcap, .slice v.ca v.crons.length v.ccap]] w fun e w' => e = .returned (.agg #[.int .i64 0, .int .i64 rn]) ∧ Below w.heap.size w w' := by
 obtain ⟨w1, e1, b1, k1, k2, k3, s1⟩ := box3 w (.cells #[.int .i64 27, .int .i64 n, .int .i64 m, .slice (some p) 2 cap] 24) (.cells #[.int .i64 v.rep, .slice v.wa v.wins.length v.wcap, .slice v.ca v.crons.length v.ccap] 28) (.cells #[.int .i64 0, .int .i64 0] 33)
 have HE := Lib.hid e1
 have B1 := Lib.hid b1
 have hl1 := hl.below b1
 have HENV := Lib.hid (henv.below b1)
 have HC := Lib.hid fun (w' : World) (hb : Below w1.heap.size w1 w') => (show CC w' w.heap.size 27 n m (.slice (some p) 2 cap) ∧ EC w' (w.heap.size + 1) v ∧ KA w' p ka ∧ KB w' p 4 kb from
  ⟨core_cells (blk_below k1 hb), env_cells (blk_below k2 hb), hl1.kids.lit0 hb (k := ka) rfl, hl1.kids.lit hb 0 rfl⟩)
 have HR := Lib.hid fun (w' : World) (hb : Below w1.heap.size w1 w') => blk_below k3 hb
 have Lka := Lib.hid (LiesL.lies hl1.kids (List.mem_of_getElem? (show ([ka, kb] : List Cr)[0]? = some ka from rfl)))
 have Lkb := Lib.hid (LiesL.lies hl1.kids (List.mem_of_getElem? (show ([ka, kb] : List Cr)[1]? = some kb from rfl)))
 have E0 := Lib.hid hE
 obtain ⟨⟨y0, y1, y2, y3⟩, -⟩ := HC.out w1 (Below.refl _ _)
 clear hl hl1 henv hE k1 k2 k3 e1 b1 s1
 go_enter Tryz.func11, Tryz.ntmps11
 go_wp2_with fail
 rw [HE.out]
 go_wp2_with fail
 clear y0 y1 y2 y3
 refine wp_region_held_drew (S := fun w' => Aside0 (Below w1.heap.size w1 w')) (by kernel_rfl) ?_ (fun hHeld => ?_)
 ·exact ⟨(Below.refl _ _).drew⟩
 generalize World.drew _ = wDa at hHeld ⊢
 have HCr := HC
 refine' tk 0 ?_
 try simp only [pt]
 refine' tk 1 ?_
 try simp only [pt]
 refine' tk 2 ?_
 try simp only [pt]
 refine' tk 3 ?_
 try simp only [pt]
 refine' tk 4 ?_
 try simp only [pt]
 refine' share (F := fun g W' => Below w1.heap.size w1 W' ∧ W'.heap[g]? = some (resO) ∧ w1.heap.size ≤ g) (fun hX => ?boa5) ?rea5
 case boa5 =>
  have HX := Lib.hid hX
  clear hX
  refine wpAnyH_ready (rs := [5, 6]) (by kernel_rfl) (by simp) ?_
  refine AllReadyH.cons (o := ?oi_a5a) ?hi_a5a (fun K hK => ?kk_a5a) (AllReadyH.cons (o := ?oi_a5b) ?hi_a5b (fun K hK => ?kk_a5b) AllReadyH.nil)
  case hi_a5a => (simp only [List.getElem?_toArray, List.getElem?_cons_succ, List.getElem?_cons_zero]; rfl)
  case hi_a5b => (simp only [List.getElem?_toArray, List.getElem?_cons_succ, List.getElem?_cons_zero]; rfl)
  case kk_a5a =>
   go_simp
   refine (E0.out _ (Lka.out.below hHeld.out) (HENV.out.below hHeld.out)).mono ?_
   rintro e w7 ⟨rfl, hb2⟩
   have hZ : w1.heap.size ≤ w7.heap.size := (hHeld.out.trans (hb2.mono hHeld.out.size)).size
   refine hK.out _ _ ⟨hHeld.out.trans (hb2.mono hHeld.out.size)⟩ (fun hHeld => ?_)
   clear hK K
   try simp only [pt]
   refine' cm 6 (fun K hK => ?_)
   go_simp
   refine hK.out _ _ ⟨hHeld.out.alloc hHeld.out.size _⟩ (fun hHeld => ?_)
   clear hK K
   try simp only [pt]
   have HF : Below w1.heap.size w1 _ ∧ _ ∧ w1.heap.size ≤ w7.heap.size := ⟨hHeld.out, blk_new w7 (.cells #[.int .i64 0, .int .i64 0] 33), hZ⟩
   revert HF
   clear hZ hHeld
   generalize w7.heap.size = gT
   generalize World.alloc w7 _ = wT
   intro HF
   exact HX.out gT wT HF
  case kk_a5b =>
   go_simp
   have hg0 := blk_new wDa (.cells #[.int .i64 0, .int .i64 0] 33)
   have hg1 := hHeld.out.size
   refine hK.out _ _ ⟨hHeld.out.alloc hHeld.out.size _⟩ (fun hHeld => ?_)
   clear hK K
   try simp only [pt]
   refine' cm 5 (fun K hK => ?_)
   go_simp
   refine (E0.out _ (Lka.out.below hHeld.out) (HENV.out.below hHeld.out)).mono ?_
   rintro e w7 ⟨rfl, hb2⟩
   have hg2 := blk_below hg0 hb2
   refine hK.out _ _ ⟨hHeld.out.trans (hb2.mono hHeld.out.size)⟩ (fun hHeld => ?_)
   clear hK K
   try simp only [pt]
   exact HX.out _ w7 ⟨hHeld.out, hg2, hg1⟩
 case rea5 =>
  intro gA wA hF
  obtain ⟨bA, kA, geA⟩ := hF
  have hHeld : Aside0 (Below w1.heap.size w1 wA) := ⟨bA⟩
  have KA := Lib.hid kA
  have GEgA := Lib.hid geA
  have r0 := (blk_cell kA 0).trans rfl
  have r1 := (blk_cell kA 1).trans rfl
  have f0 := blk_frozen kA 0
  have f1 := blk_frozen kA 1
  clear bA kA geA
  refine' cm 7 (fun K hK => ?_)
  go_simp
  refine hK.out _ _ ⟨(hHeld.out.setCell (p := ⟨gA, 0, none⟩) GEgA.out _).setCell (p := ⟨gA, 1, none⟩) GEgA.out _⟩ (fun hHeld => ?_)
  clear hK K
  try simp only [pt]
  refine wpAnyH_done (by kernel_rfl) ?_ _
  have kgA := res_put (c := .int .i64 0) (d := .int .i64 rn) KA.out
  clear r0 r1 f0 f1 KA
  generalize World.setCell (World.setCell _ _ _) _ _ = wSgA at hHeld kgA ⊢
  have KgA := Lib.hid kgA
  have BgA := Lib.hid hHeld.out
  have q0 := (blk_cell KgA.out 0).trans rfl
  have q1 := (blk_cell KgA.out 1).trans rfl
  have kr := HR.out _ BgA.out
  have KR := Lib.hid kr
  have r0 := (blk_cell kr 0).trans rfl
  have r1 := (blk_cell kr 1).trans rfl
  have f0 := blk_frozen kr 0
  have f1 := blk_frozen kr 1
  clear kr
  obtain ⟨⟨y0, y1, y2, y3⟩, -⟩ := HC.out _ BgA.out
  go_wp2_with fail
  refine bodyPost_ret (results_cell_row (fn := Tryz.f11) (p := 4) rfl _ _ (w.heap.size + 1 + 1) 33 #[.int .i64 0, .int .i64 rn] (0, 0) _ rfl (res_put KR.out) Tryz.underlying33 rfl (by kernel_rfl)) rfl ?_
  exact ⟨by first | rfl | simp, below_two B1.out BgA.out⟩
theorem rev_and_no (hl : Lies w (.node 25 n m (some p) cap [ka, kb])) (henv : EnvL w v) (hE : REvalC v ka 0 0) :
  Calls Tryz.prog 11 #[.agg #[.int .i64 25, .int .i64 n, .int .i64 m, .slice (some p) 2 cap], .agg #[.int .i64 v.rep, .slice v.wa v.wins.length v.wcap, .slice v.ca v.crons.length v.ccap]] w fun e w' => e = .returned (.agg #[.int .i64 0, .int .i64 0]) ∧ Below w.heap.size w w' := by
 obtain ⟨w1, e1, b1, k1, k2, k3, s1⟩ := box3 w (.cells #[.int .i64 25, .int .i64 n, .int .i64 m, .slice (some p) 2 cap] 24) (.cells #[.int .i64 v.rep, .slice v.wa v.wins.length v.wcap, .slice v.ca v.crons.length v.ccap] 28) (.cells #[.int .i64 0, .int .i64 0] 33)
 have HE := Lib.hid e1
 have B1 := Lib.hid b1
 have hl1 := hl.below b1
 have HENV := Lib.hid (henv.below b1)
 have HC := Lib.hid fun (w' : World) (hb : Below w1.heap.size w1 w') => (show CC w' w.heap.size 25 n m (.slice (some p) 2 cap) ∧ EC w' (w.heap.size + 1) v ∧ KA w' p ka ∧ KB w' p 4 kb from
  ⟨core_cells (blk_below k1 hb), env_cells (blk_below k2 hb), hl1.kids.lit0 hb (k := ka) rfl, hl1.kids.lit hb 0 rfl⟩)
 have HR := Lib.hid fun (w' : World) (hb : Below w1.heap.size w1 w') => blk_below k3 hb
 have Lka := Lib.hid (LiesL.lies hl1.kids (List.mem_of_getElem? (show ([ka, kb] : List Cr)[0]? = some ka from rfl)))
 have Lkb := Lib.hid (LiesL.lies hl1.kids (List.mem_of_getElem? (show ([ka, kb] : List Cr)[1]? = some kb from rfl)))
 have E0 := Lib.hid hE
 obtain ⟨⟨y0, y1, y2, y3⟩, -⟩ := HC.out w1 (Below.refl _ _)
 clear hl hl1 henv hE k1 k2 k3 e1 b1 s1
 go_enter Tryz.func11, Tryz.ntmps11
 go_wp2_with fail
 rw [HE.out]
 go_wp2_with fail
 clear y0 y1 y2 y3
 refine wp_region_held_drew (S := fun w' => Aside0 (Below w1.heap.size w1 w')) (by kernel_rfl) ?_ (fun hHeld => ?_)
 ·exact ⟨(Below.refl _ _).drew⟩
 generalize World.drew _ = wDa at hHeld ⊢
 have HCr := HC
 refine' tk 0 ?_
 try simp only [pt]
 refine' tk 1 ?_
 try simp only [pt]
 refine' tk 2 ?_
 try simp only [pt]
 refine' tk 3 ?_
 try simp only [pt]
 refine' tk 4 ?_
 try simp only [pt]
 refine' share (F := fun g W' => Below w1.heap.size w1 W' ∧ W'.heap[g]? = some (resO) ∧ w1.heap.size ≤ g) (fun hX => ?boa5) ?rea5
 case boa5 =>
  have HX := Lib.hid hX
  clear hX
  refine wpAnyH_ready (rs := [5, 6]) (by kernel_rfl) (by simp) ?_
  refine AllReadyH.cons (o := ?oi_a5a) ?hi_a5a (fun K hK => ?kk_a5a) (AllReadyH.cons (o := ?oi_a5b) ?hi_a5b (fun K hK => ?kk_a5b) AllReadyH.nil)
  case hi_a5a => (simp only [List.getElem?_toArray, List.getElem?_cons_succ, List.getElem?_cons_zero]; rfl)
  case hi_a5b => (simp only [List.getElem?_toArray, List.getElem?_cons_succ, List.getElem?_cons_zero]; rfl)
  case kk_a5a =>
   go_simp
   refine (E0.out _ (Lka.out.below hHeld.out) (HENV.out.below hHeld.out)).mono ?_
   rintro e w7 ⟨rfl, hb2⟩
   have hZ : w1.heap.size ≤ w7.heap.size := (hHeld.out.trans (hb2.mono hHeld.out.size)).size
   refine hK.out _ _ ⟨hHeld.out.trans (hb2.mono hHeld.out.size)⟩ (fun hHeld => ?_)
   clear hK K
   try simp only [pt]
   refine' cm 6 (fun K hK => ?_)
   go_simp
   refine hK.out _ _ ⟨hHeld.out.alloc hHeld.out.size _⟩ (fun hHeld => ?_)
   clear hK K
   try simp only [pt]
   have HF : Below w1.heap.size w1 _ ∧ _ ∧ w1.heap.size ≤ w7.heap.size := ⟨hHeld.out, blk_new w7 (.cells #[.int .i64 0, .int .i64 0] 33), hZ⟩
   revert HF
   clear hZ hHeld
   generalize w7.heap.size = gT
   generalize World.alloc w7 _ = wT
   intro HF
   exact HX.out gT wT HF
  case kk_a5b =>
   go_simp
   have hg0 := blk_new wDa (.cells #[.int .i64 0, .int .i64 0] 33)
   have hg1 := hHeld.out.size
   refine hK.out _ _ ⟨hHeld.out.alloc hHeld.out.size _⟩ (fun hHeld => ?_)
   clear hK K
   try simp only [pt]
   refine' cm 5 (fun K hK => ?_)
   go_simp
   refine (E0.out _ (Lka.out.below hHeld.out) (HENV.out.below hHeld.out)).mono ?_
   rintro e w7 ⟨rfl, hb2⟩
   have hg2 := blk_below hg0 hb2
   refine hK.out _ _ ⟨hHeld.out.trans (hb2.mono hHeld.out.size)⟩ (fun hHeld => ?_)
   clear hK K
   try simp only [pt]
   exact HX.out _ w7 ⟨hHeld.out, hg2, hg1⟩
 case rea5 =>
  intro gA wA hF
  obtain ⟨bA, kA, geA⟩ := hF
  have hHeld : Aside0 (Below w1.heap.size w1 wA) := ⟨bA⟩
  have KA := Lib.hid kA
  have GEgA := Lib.hid geA
  have r0 := (blk_cell kA 0).trans rfl
  have r1 := (blk_cell kA 1).trans rfl
  have f0 := blk_frozen kA 0
  have f1 := blk_frozen kA 1
  clear bA kA geA
  refine' cm 7 (fun K hK => ?_)
  go_simp
  refine hK.out _ _ ⟨(hHeld.out.setCell (p := ⟨gA, 0, none⟩) GEgA.out _).setCell (p := ⟨gA, 1, none⟩) GEgA.out _⟩ (fun hHeld => ?_)
  clear hK K
  try simp only [pt]
  refine wpAnyH_done (by kernel_rfl) ?_ _
  have kgA := res_put (c := .int .i64 0) (d := .int .i64 0) KA.out
  clear r0 r1 f0 f1 KA
  generalize World.setCell (World.setCell _ _ _) _ _ = wSgA at hHeld kgA ⊢
  have KgA := Lib.hid kgA
  have BgA := Lib.hid hHeld.out
  have q0 := (blk_cell KgA.out 0).trans rfl
  have q1 := (blk_cell KgA.out 1).trans rfl
  have kr := HR.out _ BgA.out
  have KR := Lib.hid kr
  have r0 := (blk_cell kr 0).trans rfl
  have r1 := (blk_cell kr 1).trans rfl
  have f0 := blk_frozen kr 0
  have f1 := blk_frozen kr 1
  clear kr
  obtain ⟨⟨y0, y1, y2, y3⟩, -⟩ := HC.out _ BgA.out
  go_wp2_with fail
  refine bodyPost_ret (results_cell_row (fn := Tryz.f11) (p := 4) rfl _ _ (w.heap.size + 1 + 1) 33 #[.int .i64 0, .int .i64 0] (0, 0) _ rfl (res_put KR.out) Tryz.underlying33 rfl (by kernel_rfl)) rfl ?_
  exact ⟨by first | rfl | simp, below_two B1.out BgA.out⟩
theorem rev_or_yes (hl : Lies w (.node 26 n m (some p) cap [ka, kb])) (henv : EnvL w v) (hE : REvalC v ka 0 1) :
  Calls Tryz.prog 11 #[.agg #[.int .i64 26, .int .i64 n, .int .i64 m, .slice (some p) 2 cap], .agg #[.int .i64 v.rep, .slice v.wa v.wins.length v.wcap, .slice v.ca v.crons.length v.ccap]] w fun e w' => e = .returned (.agg #[.int .i64 0, .int .i64 1]) ∧ Below w.heap.size w w' := by
 obtain ⟨w1, e1, b1, k1, k2, k3, s1⟩ := box3 w (.cells #[.int .i64 26, .int .i64 n, .int .i64 m, .slice (some p) 2 cap] 24) (.cells #[.int .i64 v.rep, .slice v.wa v.wins.length v.wcap, .slice v.ca v.crons.length v.ccap] 28) (.cells #[.int .i64 0, .int .i64 0] 33)
 have HE := Lib.hid e1
 have B1 := Lib.hid b1
 have hl1 := hl.below b1
 have HENV := Lib.hid (henv.below b1)
 have HC := Lib.hid fun (w' : World) (hb : Below w1.heap.size w1 w') => (show CC w' w.heap.size 26 n m (.slice (some p) 2 cap) ∧ EC w' (w.heap.size + 1) v ∧ KA w' p ka ∧ KB w' p 4 kb from
  ⟨core_cells (blk_below k1 hb), env_cells (blk_below k2 hb), hl1.kids.lit0 hb (k := ka) rfl, hl1.kids.lit hb 0 rfl⟩)
 have HR := Lib.hid fun (w' : World) (hb : Below w1.heap.size w1 w') => blk_below k3 hb
 have Lka := Lib.hid (LiesL.lies hl1.kids (List.mem_of_getElem? (show ([ka, kb] : List Cr)[0]? = some ka from rfl)))
 have Lkb := Lib.hid (LiesL.lies hl1.kids (List.mem_of_getElem? (show ([ka, kb] : List Cr)[1]? = some kb from rfl)))
 have E0 := Lib.hid hE
 obtain ⟨⟨y0, y1, y2, y3⟩, -⟩ := HC.out w1 (Below.refl _ _)
 clear hl hl1 henv hE k1 k2 k3 e1 b1 s1
 go_enter Tryz.func11, Tryz.ntmps11
 go_wp2_with fail
 rw [HE.out]
 go_wp2_with fail
 clear y0 y1 y2 y3
 refine wp_region_held_drew (S := fun w' => Aside0 (Below w1.heap.size w1 w')) (by kernel_rfl) ?_ (fun hHeld => ?_)
 ·exact ⟨(Below.refl _ _).drew⟩
 generalize World.drew _ = wDa at hHeld ⊢
 have HCr := HC
 refine' tk 0 ?_
 try simp only [pt]
 refine' tk 1 ?_
 try simp only [pt]
 refine' tk 2 ?_
 try simp only [pt]
 refine' tk 3 ?_
 try simp only [pt]
 refine' tk 4 ?_
 try simp only [pt]
 refine' share (F := fun g W' => Below w1.heap.size w1 W' ∧ W'.heap[g]? = some (resO) ∧ w1.heap.size ≤ g) (fun hX => ?boa5) ?rea5
 case boa5 =>
  have HX := Lib.hid hX
  clear hX
  refine wpAnyH_ready (rs := [5, 6]) (by kernel_rfl) (by simp) ?_
  refine AllReadyH.cons (o := ?oi_a5a) ?hi_a5a (fun K hK => ?kk_a5a) (AllReadyH.cons (o := ?oi_a5b) ?hi_a5b (fun K hK => ?kk_a5b) AllReadyH.nil)
  case hi_a5a => (simp only [List.getElem?_toArray, List.getElem?_cons_succ, List.getElem?_cons_zero]; rfl)
  case hi_a5b => (simp only [List.getElem?_toArray, List.getElem?_cons_succ, List.getElem?_cons_zero]; rfl)
  case kk_a5a =>
   go_simp
   refine (E0.out _ (Lka.out.below hHeld.out) (HENV.out.below hHeld.out)).mono ?_
   rintro e w7 ⟨rfl, hb2⟩
   have hZ : w1.heap.size ≤ w7.heap.size := (hHeld.out.trans (hb2.mono hHeld.out.size)).size
   refine hK.out _ _ ⟨hHeld.out.trans (hb2.mono hHeld.out.size)⟩ (fun hHeld => ?_)
   clear hK K
   try simp only [pt]
   refine' cm 6 (fun K hK => ?_)
   go_simp
   refine hK.out _ _ ⟨hHeld.out.alloc hHeld.out.size _⟩ (fun hHeld => ?_)
   clear hK K
   try simp only [pt]
   have HF : Below w1.heap.size w1 _ ∧ _ ∧ w1.heap.size ≤ w7.heap.size := ⟨hHeld.out, blk_new w7 (.cells #[.int .i64 0, .int .i64 0] 33), hZ⟩
   revert HF
   clear hZ hHeld
   generalize w7.heap.size = gT
   generalize World.alloc w7 _ = wT
   intro HF
   exact HX.out gT wT HF
  case kk_a5b =>
   go_simp
   have hg0 := blk_new wDa (.cells #[.int .i64 0, .int .i64 0] 33)
   have hg1 := hHeld.out.size
   refine hK.out _ _ ⟨hHeld.out.alloc hHeld.out.size _⟩ (fun hHeld => ?_)
   clear hK K
   try simp only [pt]
   refine' cm 5 (fun K hK => ?_)
   go_simp
   refine (E0.out _ (Lka.out.below hHeld.out) (HENV.out.below hHeld.out)).mono ?_
   rintro e w7 ⟨rfl, hb2⟩
   have hg2 := blk_below hg0 hb2
   refine hK.out _ _ ⟨hHeld.out.trans (hb2.mono hHeld.out.size)⟩ (fun hHeld => ?_)
   clear hK K
   try simp only [pt]
   exact HX.out _ w7 ⟨hHeld.out, hg2, hg1⟩
 case rea5 =>
  intro gA wA hF
  obtain ⟨bA, kA, geA⟩ := hF
  have hHeld : Aside0 (Below w1.heap.size w1 wA) := ⟨bA⟩
  have KA := Lib.hid kA
  have GEgA := Lib.hid geA
  have r0 := (blk_cell kA 0).trans rfl
  have r1 := (blk_cell kA 1).trans rfl
  have f0 := blk_frozen kA 0
  have f1 := blk_frozen kA 1
  clear bA kA geA
  refine' cm 7 (fun K hK => ?_)
  go_simp
  refine hK.out _ _ ⟨(hHeld.out.setCell (p := ⟨gA, 0, none⟩) GEgA.out _).setCell (p := ⟨gA, 1, none⟩) GEgA.out _⟩ (fun hHeld => ?_)
  clear hK K
  try simp only [pt]
  refine wpAnyH_done (by kernel_rfl) ?_ _
  have kgA := res_put (c := .int .i64 0) (d := .int .i64 1) KA.out
  clear r0 r1 f0 f1 KA
  generalize World.setCell (World.setCell _ _ _) _ _ = wSgA at hHeld kgA ⊢
  have KgA := Lib.hid kgA
  have BgA := Lib.hid hHeld.out
  have q0 := (blk_cell KgA.out 0).trans rfl
  have q1 := (blk_cell KgA.out 1).trans rfl
  have kr := HR.out _ BgA.out
  have KR := Lib.hid kr
  have r0 := (blk_cell kr 0).trans rfl
  have r1 := (blk_cell kr 1).trans rfl
  have f0 := blk_frozen kr 0
  have f1 := blk_frozen kr 1
  clear kr
  obtain ⟨⟨y0, y1, y2, y3⟩, -⟩ := HC.out _ BgA.out
  go_wp2_with fail
  refine bodyPost_ret (results_cell_row (fn := Tryz.f11) (p := 4) rfl _ _ (w.heap.size + 1 + 1) 33 #[.int .i64 0, .int .i64 1] (0, 0) _ rfl (res_put KR.out) Tryz.underlying33 rfl (by kernel_rfl)) rfl ?_
  exact ⟨by first | rfl | simp, below_two B1.out BgA.out⟩
theorem rev_and {rn ra2 rn2 : Int} (hrn : ¬ rn = 0) (hE2 : REvalC v kb ra2 rn2) (hl : Lies w (.node 25 n m (some p) cap [ka, kb])) (henv : EnvL w v) (hE : REvalC v ka 0 rn) :
  Calls Tryz.prog 11 #[.agg #[.int .i64 25, .int .i64 n, .int .i64 m, .slice (some p) 2 cap], .agg #[.int .i64 v.rep, .slice v.wa v.wins.length v.wcap, .slice v.ca v.crons.length v.ccap]] w fun e w' => e = .returned (.agg #[.int .i64 ra2, .int .i64 rn2]) ∧ Below w.heap.size w w' := by
 have z0 : (rn == 0) = false := by simpa using hrn
 obtain ⟨w1, e1, b1, k1, k2, k3, s1⟩ := box3 w (.cells #[.int .i64 25, .int .i64 n, .int .i64 m, .slice (some p) 2 cap] 24) (.cells #[.int .i64 v.rep, .slice v.wa v.wins.length v.wcap, .slice v.ca v.crons.length v.ccap] 28) (.cells #[.int .i64 0, .int .i64 0] 33)
 have HE := Lib.hid e1
 have B1 := Lib.hid b1
 have hl1 := hl.below b1
 have HENV := Lib.hid (henv.below b1)
 have HC := Lib.hid fun (w' : World) (hb : Below w1.heap.size w1 w') => (show CC w' w.heap.size 25 n m (.slice (some p) 2 cap) ∧ EC w' (w.heap.size + 1) v ∧ KA w' p ka ∧ KB w' p 4 kb from
  ⟨core_cells (blk_below k1 hb), env_cells (blk_below k2 hb), hl1.kids.lit0 hb (k := ka) rfl, hl1.kids.lit hb 0 rfl⟩)
 have HR := Lib.hid fun (w' : World) (hb : Below w1.heap.size w1 w') => blk_below k3 hb
 have Lka := Lib.hid (LiesL.lies hl1.kids (List.mem_of_getElem? (show ([ka, kb] : List Cr)[0]? = some ka from rfl)))
 have Lkb := Lib.hid (LiesL.lies hl1.kids (List.mem_of_getElem? (show ([ka, kb] : List Cr)[1]? = some kb from rfl)))
 have E0 := Lib.hid hE
 obtain ⟨⟨y0, y1, y2, y3⟩, -⟩ := HC.out w1 (Below.refl _ _)
 have N1 := Lib.hid (show w.heap.size + 1 + 1 < w1.heap.size by omega)
 have HX := Lib.hid fun (w' : World) (h : Fr2 (w.heap.size + 1 + 1) w1 (w.heap.size + 1 + 1) 33 w') => (show CC w' w.heap.size 25 n m (.slice (some p) 2 cap) ∧ EC w' (w.heap.size + 1) v ∧ KA w' p ka ∧ KB w' p 4 kb from
  ⟨core_cells ((h.bel.block _ (by omega)).trans k1), env_cells ((h.bel.block _ (by omega)).trans k2), hl.kids.lit0 (fr_bel b1 h) (k := ka) rfl, hl.kids.lit (fr_bel b1 h) 0 rfl⟩)
 have HW := Lib.hid fun (w' : World) (h : Fr2 (w.heap.size + 1 + 1) w1 (w.heap.size + 1 + 1) 33 w') => fr_bel b1 h
 have HF := Lib.hid fun (w' : World) (h : Below w1.heap.size w1 w') => (show Fr2 (w.heap.size + 1 + 1) w1 (w.heap.size + 1 + 1) 33 w' from ⟨h.mono (by omega), _, _, blk_below k3 h⟩)
 have Mka := Lib.hid (LiesL.lies hl.kids (List.mem_of_getElem? (show ([ka, kb] : List Cr)[0]? = some ka from rfl)))
 have Mkb := Lib.hid (LiesL.lies hl.kids (List.mem_of_getElem? (show ([ka, kb] : List Cr)[1]? = some kb from rfl)))
 have HV := Lib.hid henv
 have E2 := Lib.hid hE2
 clear hl hl1 henv hE k1 k2 k3 e1 b1 s1 hrn hE2
 go_enter Tryz.func11, Tryz.ntmps11
 go_wp2_with fail
 rw [HE.out]
 go_wp2_with fail
 clear y0 y1 y2 y3
 refine wp_region_held_drew (S := fun w' => Aside0 (Below w1.heap.size w1 w')) (by kernel_rfl) ?_ (fun hHeld => ?_)
 ·exact ⟨(Below.refl _ _).drew⟩
 generalize World.drew _ = wDa at hHeld ⊢
 have HCr := HC
 refine' tk 0 ?_
 try simp only [pt]
 refine' tk 1 ?_
 try simp only [pt]
 refine' tk 2 ?_
 try simp only [pt]
 refine' tk 3 ?_
 try simp only [pt]
 refine' tk 4 ?_
 try simp only [pt]
 refine' share (F := fun g W' => Below w1.heap.size w1 W' ∧ W'.heap[g]? = some (resO) ∧ w1.heap.size ≤ g) (fun hX => ?boa5) ?rea5
 case boa5 =>
  have HX := Lib.hid hX
  clear hX
  refine wpAnyH_ready (rs := [5, 6]) (by kernel_rfl) (by simp) ?_
  refine AllReadyH.cons (o := ?oi_a5a) ?hi_a5a (fun K hK => ?kk_a5a) (AllReadyH.cons (o := ?oi_a5b) ?hi_a5b (fun K hK => ?kk_a5b) AllReadyH.nil)
  case hi_a5a => (simp only [List.getElem?_toArray, List.getElem?_cons_succ, List.getElem?_cons_zero]; rfl)
  case hi_a5b => (simp only [List.getElem?_toArray, List.getElem?_cons_succ, List.getElem?_cons_zero]; rfl)
  case kk_a5a =>
   go_simp
   refine (E0.out _ (Lka.out.below hHeld.out) (HENV.out.below hHeld.out)).mono ?_
   rintro e w7 ⟨rfl, hb2⟩
   have hZ : w1.heap.size ≤ w7.heap.size := (hHeld.out.trans (hb2.mono hHeld.out.size)).size
   refine hK.out _ _ ⟨hHeld.out.trans (hb2.mono hHeld.out.size)⟩ (fun hHeld => ?_)
   clear hK K
   try simp only [pt]
   refine' cm 6 (fun K hK => ?_)
   go_simp
   refine hK.out _ _ ⟨hHeld.out.alloc hHeld.out.size _⟩ (fun hHeld => ?_)
   clear hK K
   try simp only [pt]
   have HF : Below w1.heap.size w1 _ ∧ _ ∧ w1.heap.size ≤ w7.heap.size := ⟨hHeld.out, blk_new w7 (.cells #[.int .i64 0, .int .i64 0] 33), hZ⟩
   revert HF
   clear hZ hHeld
   generalize w7.heap.size = gT
   generalize World.alloc w7 _ = wT
   intro HF
   exact HX.out gT wT HF
  case kk_a5b =>
   go_simp
   have hg0 := blk_new wDa (.cells #[.int .i64 0, .int .i64 0] 33)
   have hg1 := hHeld.out.size
   refine hK.out _ _ ⟨hHeld.out.alloc hHeld.out.size _⟩ (fun hHeld => ?_)
   clear hK K
   try simp only [pt]
   refine' cm 5 (fun K hK => ?_)
   go_simp
   refine (E0.out _ (Lka.out.below hHeld.out) (HENV.out.below hHeld.out)).mono ?_
   rintro e w7 ⟨rfl, hb2⟩
   have hg2 := blk_below hg0 hb2
   refine hK.out _ _ ⟨hHeld.out.trans (hb2.mono hHeld.out.size)⟩ (fun hHeld => ?_)
   clear hK K
   try simp only [pt]
   exact HX.out _ w7 ⟨hHeld.out, hg2, hg1⟩
 case rea5 =>
  intro gA wA hF
  obtain ⟨bA, kA, geA⟩ := hF
  have hHeld : Aside0 (Below w1.heap.size w1 wA) := ⟨bA⟩
  have KA := Lib.hid kA
  have GEgA := Lib.hid geA
  have r0 := (blk_cell kA 0).trans rfl
  have r1 := (blk_cell kA 1).trans rfl
  have f0 := blk_frozen kA 0
  have f1 := blk_frozen kA 1
  clear bA kA geA
  refine' cm 7 (fun K hK => ?_)
  go_simp
  refine hK.out _ _ ⟨(hHeld.out.setCell (p := ⟨gA, 0, none⟩) GEgA.out _).setCell (p := ⟨gA, 1, none⟩) GEgA.out _⟩ (fun hHeld => ?_)
  clear hK K
  try simp only [pt]
  refine wpAnyH_done (by kernel_rfl) ?_ _
  have kgA := res_put (c := .int .i64 0) (d := .int .i64 rn) KA.out
  clear r0 r1 f0 f1 KA
  generalize World.setCell (World.setCell _ _ _) _ _ = wSgA at hHeld kgA ⊢
  have KgA := Lib.hid kgA
  have BgA := Lib.hid hHeld.out
  have q0 := (blk_cell KgA.out 0).trans rfl
  have q1 := (blk_cell KgA.out 1).trans rfl
  obtain ⟨⟨y0, y1, y2, y3⟩, -⟩ := HC.out _ BgA.out
  go_wp2_with fail
  clear y0 y1 y2 y3 q0 q1
  refine wp_region_held_drew (S := fun w' => Aside0 (Fr2 (w.heap.size + 1 + 1) w1 (w.heap.size + 1 + 1) 33 w')) (by kernel_rfl) ?_ (fun hHeld => ?_)
  ·exact ⟨(HF.out _ BgA.out).drew⟩
  generalize World.drew _ = wDb at hHeld ⊢
  have HCr := HX
  refine' tk 0 ?_
  try simp only [pt]
  refine' tk 1 ?_
  try simp only [pt]
  refine' tk 2 ?_
  try simp only [pt]
  refine' tk 3 ?_
  try simp only [pt]
  refine' tk 4 ?_
  try simp only [pt]
  refine' cm 5 (fun K hK => ?_)
  go_simp
  refine (E2.out _ (Mkb.out.below (HW.out _ hHeld.out)) (HV.out.below (HW.out _ hHeld.out))).mono ?_
  rintro e w7 ⟨rfl, hb2⟩
  refine hK.out _ _ ⟨hHeld.out.step hb2 (Nat.le_of_lt N1.out)⟩ (fun hHeld => ?_)
  clear hK K
  try simp only [pt]
  have BR := Lib.hid (HW.out _ hHeld.out)
  obtain ⟨qa, qb, kr⟩ := hHeld.out.blk
  have KR := Lib.hid kr
  have r0 := (blk_cell kr 0).trans rfl
  have r1 := (blk_cell kr 1).trans rfl
  have f0 := blk_frozen kr 0
  have f1 := blk_frozen kr 1
  clear kr
  refine' cm 6 (fun K hK => ?_)
  go_simp
  refine hK.out _ _ ⟨hHeld.out.put (Nat.le_refl _) _ _⟩ (fun hHeld => ?_)
  clear hK K
  try simp only [pt]
  refine wpAnyH_done (by kernel_rfl) ?_ _
  go_wp2_with fail
  refine bodyPost_ret (results_cell_row (fn := Tryz.f11) (p := 4) rfl _ _ (w.heap.size + 1 + 1) 33 #[.int .i64 ra2, .int .i64 rn2] (0, 0) _ rfl (res_put KR.out) Tryz.underlying33 rfl (by kernel_rfl)) rfl ?_
  exact ⟨by first | rfl | simp, below_put2 BR.out (Nat.le_trans (Nat.le_succ _) (Nat.le_succ _)) _ _⟩
theorem rev_or {rn ra2 rn2 : Int} (hrn : ¬ rn = 1) (hE2 : REvalC v kb ra2 rn2) (hl : Lies w (.node 26 n m (some p) cap [ka, kb])) (henv : EnvL w v) (hE : REvalC v ka 0 rn) :
  Calls Tryz.prog 11 #[.agg #[.int .i64 26, .int .i64 n, .int .i64 m, .slice (some p) 2 cap], .agg #[.int .i64 v.rep, .slice v.wa v.wins.length v.wcap, .slice v.ca v.crons.length v.ccap]] w fun e w' => e = .returned (.agg #[.int .i64 ra2, .int .i64 rn2]) ∧ Below w.heap.size w w' := by
 have z0 : (rn == 1) = false := by simpa using hrn
 obtain ⟨w1, e1, b1, k1, k2, k3, s1⟩ := box3 w (.cells #[.int .i64 26, .int .i64 n, .int .i64 m, .slice (some p) 2 cap] 24) (.cells #[.int .i64 v.rep, .slice v.wa v.wins.length v.wcap, .slice v.ca v.crons.length v.ccap] 28) (.cells #[.int .i64 0, .int .i64 0] 33)
 have HE := Lib.hid e1
 have B1 := Lib.hid b1
 have hl1 := hl.below b1
 have HENV := Lib.hid (henv.below b1)
 have HC := Lib.hid fun (w' : World) (hb : Below w1.heap.size w1 w') => (show CC w' w.heap.size 26 n m (.slice (some p) 2 cap) ∧ EC w' (w.heap.size + 1) v ∧ KA w' p ka ∧ KB w' p 4 kb from
  ⟨core_cells (blk_below k1 hb), env_cells (blk_below k2 hb), hl1.kids.lit0 hb (k := ka) rfl, hl1.kids.lit hb 0 rfl⟩)
 have HR := Lib.hid fun (w' : World) (hb : Below w1.heap.size w1 w') => blk_below k3 hb
 have Lka := Lib.hid (LiesL.lies hl1.kids (List.mem_of_getElem? (show ([ka, kb] : List Cr)[0]? = some ka from rfl)))
 have Lkb := Lib.hid (LiesL.lies hl1.kids (List.mem_of_getElem? (show ([ka, kb] : List Cr)[1]? = some kb from rfl)))
 have E0 := Lib.hid hE
 obtain ⟨⟨y0, y1, y2, y3⟩, -⟩ := HC.out w1 (Below.refl _ _)
 have N1 := Lib.hid (show w.heap.size + 1 + 1 < w1.heap.size by omega)
 have HX := Lib.hid fun (w' : World) (h : Fr2 (w.heap.size + 1 + 1) w1 (w.heap.size + 1 + 1) 33 w') => (show CC w' w.heap.size 26 n m (.slice (some p) 2 cap) ∧ EC w' (w.heap.size + 1) v ∧ KA w' p ka ∧ KB w' p 4 kb from
  ⟨core_cells ((h.bel.block _ (by omega)).trans k1), env_cells ((h.bel.block _ (by omega)).trans k2), hl.kids.lit0 (fr_bel b1 h) (k := ka) rfl, hl.kids.lit (fr_bel b1 h) 0 rfl⟩)
 have HW := Lib.hid fun (w' : World) (h : Fr2 (w.heap.size + 1 + 1) w1 (w.heap.size + 1 + 1) 33 w') => fr_bel b1 h
 have HF := Lib.hid fun (w' : World) (h : Below w1.heap.size w1 w') => (show Fr2 (w.heap.size + 1 + 1) w1 (w.heap.size + 1 + 1) 33 w' from ⟨h.mono (by omega), _, _, blk_below k3 h⟩)
 have Mka := Lib.hid (LiesL.lies hl.kids (List.mem_of_getElem? (show ([ka, kb] : List Cr)[0]? = some ka from rfl)))
 have Mkb := Lib.hid (LiesL.lies hl.kids (List.mem_of_getElem? (show ([ka, kb] : List Cr)[1]? = some kb from rfl)))
 have HV := Lib.hid henv
 have E2 := Lib.hid hE2
 clear hl hl1 henv hE k1 k2 k3 e1 b1 s1 hrn hE2
 go_enter Tryz.func11, Tryz.ntmps11
 go_wp2_with fail
 rw [HE.out]
 go_wp2_with fail
 clear y0 y1 y2 y3
 refine wp_region_held_drew (S := fun w' => Aside0 (Below w1.heap.size w1 w')) (by kernel_rfl) ?_ (fun hHeld => ?_)
 ·exact ⟨(Below.refl _ _).drew⟩
 generalize World.drew _ = wDa at hHeld ⊢
 have HCr := HC
 refine' tk 0 ?_
 try simp only [pt]
 refine' tk 1 ?_
 try simp only [pt]
 refine' tk 2 ?_
 try simp only [pt]
 refine' tk 3 ?_
 try simp only [pt]
 refine' tk 4 ?_
 try simp only [pt]
 refine' share (F := fun g W' => Below w1.heap.size w1 W' ∧ W'.heap[g]? = some (resO) ∧ w1.heap.size ≤ g) (fun hX => ?boa5) ?rea5
 case boa5 =>
  have HX := Lib.hid hX
  clear hX
  refine wpAnyH_ready (rs := [5, 6]) (by kernel_rfl) (by simp) ?_
  refine AllReadyH.cons (o := ?oi_a5a) ?hi_a5a (fun K hK => ?kk_a5a) (AllReadyH.cons (o := ?oi_a5b) ?hi_a5b (fun K hK => ?kk_a5b) AllReadyH.nil)
  case hi_a5a => (simp only [List.getElem?_toArray, List.getElem?_cons_succ, List.getElem?_cons_zero]; rfl)
  case hi_a5b => (simp only [List.getElem?_toArray, List.getElem?_cons_succ, List.getElem?_cons_zero]; rfl)
  case kk_a5a =>
   go_simp
   refine (E0.out _ (Lka.out.below hHeld.out) (HENV.out.below hHeld.out)).mono ?_
   rintro e w7 ⟨rfl, hb2⟩
   have hZ : w1.heap.size ≤ w7.heap.size := (hHeld.out.trans (hb2.mono hHeld.out.size)).size
   refine hK.out _ _ ⟨hHeld.out.trans (hb2.mono hHeld.out.size)⟩ (fun hHeld => ?_)
   clear hK K
   try simp only [pt]
   refine' cm 6 (fun K hK => ?_)
   go_simp
   refine hK.out _ _ ⟨hHeld.out.alloc hHeld.out.size _⟩ (fun hHeld => ?_)
   clear hK K
   try simp only [pt]
   have HF : Below w1.heap.size w1 _ ∧ _ ∧ w1.heap.size ≤ w7.heap.size := ⟨hHeld.out, blk_new w7 (.cells #[.int .i64 0, .int .i64 0] 33), hZ⟩
   revert HF
   clear hZ hHeld
   generalize w7.heap.size = gT
   generalize World.alloc w7 _ = wT
   intro HF
   exact HX.out gT wT HF
  case kk_a5b =>
   go_simp
   have hg0 := blk_new wDa (.cells #[.int .i64 0, .int .i64 0] 33)
   have hg1 := hHeld.out.size
   refine hK.out _ _ ⟨hHeld.out.alloc hHeld.out.size _⟩ (fun hHeld => ?_)
   clear hK K
   try simp only [pt]
   refine' cm 5 (fun K hK => ?_)
   go_simp
   refine (E0.out _ (Lka.out.below hHeld.out) (HENV.out.below hHeld.out)).mono ?_
   rintro e w7 ⟨rfl, hb2⟩
   have hg2 := blk_below hg0 hb2
   refine hK.out _ _ ⟨hHeld.out.trans (hb2.mono hHeld.out.size)⟩ (fun hHeld => ?_)
   clear hK K
   try simp only [pt]
   exact HX.out _ w7 ⟨hHeld.out, hg2, hg1⟩
 case rea5 =>
  intro gA wA hF
  obtain ⟨bA, kA, geA⟩ := hF
  have hHeld : Aside0 (Below w1.heap.size w1 wA) := ⟨bA⟩
  have KA := Lib.hid kA
  have GEgA := Lib.hid geA
  have r0 := (blk_cell kA 0).trans rfl
  have r1 := (blk_cell kA 1).trans rfl
  have f0 := blk_frozen kA 0
  have f1 := blk_frozen kA 1
  clear bA kA geA
  refine' cm 7 (fun K hK => ?_)
  go_simp
  refine hK.out _ _ ⟨(hHeld.out.setCell (p := ⟨gA, 0, none⟩) GEgA.out _).setCell (p := ⟨gA, 1, none⟩) GEgA.out _⟩ (fun hHeld => ?_)
  clear hK K
  try simp only [pt]
  refine wpAnyH_done (by kernel_rfl) ?_ _
  have kgA := res_put (c := .int .i64 0) (d := .int .i64 rn) KA.out
  clear r0 r1 f0 f1 KA
  generalize World.setCell (World.setCell _ _ _) _ _ = wSgA at hHeld kgA ⊢
  have KgA := Lib.hid kgA
  have BgA := Lib.hid hHeld.out
  have q0 := (blk_cell KgA.out 0).trans rfl
  have q1 := (blk_cell KgA.out 1).trans rfl
  obtain ⟨⟨y0, y1, y2, y3⟩, -⟩ := HC.out _ BgA.out
  go_wp2_with fail
  clear y0 y1 y2 y3 q0 q1
  refine wp_region_held_drew (S := fun w' => Aside0 (Fr2 (w.heap.size + 1 + 1) w1 (w.heap.size + 1 + 1) 33 w')) (by kernel_rfl) ?_ (fun hHeld => ?_)
  ·exact ⟨(HF.out _ BgA.out).drew⟩
  generalize World.drew _ = wDb at hHeld ⊢
  have HCr := HX
  refine' tk 0 ?_
  try simp only [pt]
  refine' tk 1 ?_
  try simp only [pt]
  refine' tk 2 ?_
  try simp only [pt]
  refine' tk 3 ?_
  try simp only [pt]
  refine' tk 4 ?_
  try simp only [pt]
  refine' cm 5 (fun K hK => ?_)
  go_simp
  refine (E2.out _ (Mkb.out.below (HW.out _ hHeld.out)) (HV.out.below (HW.out _ hHeld.out))).mono ?_
  rintro e w7 ⟨rfl, hb2⟩
  refine hK.out _ _ ⟨hHeld.out.step hb2 (Nat.le_of_lt N1.out)⟩ (fun hHeld => ?_)
  clear hK K
  try simp only [pt]
  have BR := Lib.hid (HW.out _ hHeld.out)
  obtain ⟨qa, qb, kr⟩ := hHeld.out.blk
  have KR := Lib.hid kr
  have r0 := (blk_cell kr 0).trans rfl
  have r1 := (blk_cell kr 1).trans rfl
  have f0 := blk_frozen kr 0
  have f1 := blk_frozen kr 1
  clear kr
  refine' cm 6 (fun K hK => ?_)
  go_simp
  refine hK.out _ _ ⟨hHeld.out.put (Nat.le_refl _) _ _⟩ (fun hHeld => ?_)
  clear hK K
  try simp only [pt]
  refine wpAnyH_done (by kernel_rfl) ?_ _
  go_wp2_with fail
  refine bodyPost_ret (results_cell_row (fn := Tryz.f11) (p := 4) rfl _ _ (w.heap.size + 1 + 1) 33 #[.int .i64 ra2, .int .i64 rn2] (0, 0) _ rfl (res_put KR.out) Tryz.underlying33 rfl (by kernel_rfl)) rfl ?_
  exact ⟨by first | rfl | simp, below_put2 BR.out (Nat.le_trans (Nat.le_succ _) (Nat.le_succ _)) _ _⟩
theorem rev_if {ra2 rn2 : Int} (hE2 : REvalC v kb ra2 rn2) (hl : Lies w (.node 28 n m (some p) cap [ka, kb, kc])) (henv : EnvL w v) (hE : REvalC v ka 0 1) :
  Calls Tryz.prog 11 #[.agg #[.int .i64 28, .int .i64 n, .int .i64 m, .slice (some p) 3 cap], .agg #[.int .i64 v.rep, .slice v.wa v.wins.length v.wcap, .slice v.ca v.crons.length v.ccap]] w fun e w' => e = .returned (.agg #[.int .i64 ra2, .int .i64 rn2]) ∧ Below w.heap.size w w' := by
 obtain ⟨w1, e1, b1, k1, k2, k3, s1⟩ := box3 w (.cells #[.int .i64 28, .int .i64 n, .int .i64 m, .slice (some p) 3 cap] 24) (.cells #[.int .i64 v.rep, .slice v.wa v.wins.length v.wcap, .slice v.ca v.crons.length v.ccap] 28) (.cells #[.int .i64 0, .int .i64 0] 33)
 have HE := Lib.hid e1
 have B1 := Lib.hid b1
 have hl1 := hl.below b1
 have HENV := Lib.hid (henv.below b1)
 have HC := Lib.hid fun (w' : World) (hb : Below w1.heap.size w1 w') => (show CC w' w.heap.size 28 n m (.slice (some p) 3 cap) ∧ EC w' (w.heap.size + 1) v ∧ KA w' p ka ∧ KB w' p 4 kb ∧ KB w' p 8 kc from
  ⟨core_cells (blk_below k1 hb), env_cells (blk_below k2 hb), hl1.kids.lit0 hb (k := ka) rfl, hl1.kids.lit hb 0 rfl, hl1.kids.lit hb 1 rfl⟩)
 have HR := Lib.hid fun (w' : World) (hb : Below w1.heap.size w1 w') => blk_below k3 hb
 have Lka := Lib.hid (LiesL.lies hl1.kids (List.mem_of_getElem? (show ([ka, kb, kc] : List Cr)[0]? = some ka from rfl)))
 have Lkb := Lib.hid (LiesL.lies hl1.kids (List.mem_of_getElem? (show ([ka, kb, kc] : List Cr)[1]? = some kb from rfl)))
 have Lkc := Lib.hid (LiesL.lies hl1.kids (List.mem_of_getElem? (show ([ka, kb, kc] : List Cr)[2]? = some kc from rfl)))
 have E0 := Lib.hid hE
 obtain ⟨⟨y0, y1, y2, y3⟩, -⟩ := HC.out w1 (Below.refl _ _)
 have N1 := Lib.hid (show w.heap.size + 1 + 1 < w1.heap.size by omega)
 have HX := Lib.hid fun (w' : World) (h : Fr2 (w.heap.size + 1 + 1) w1 (w.heap.size + 1 + 1) 33 w') => (show CC w' w.heap.size 28 n m (.slice (some p) 3 cap) ∧ EC w' (w.heap.size + 1) v ∧ KA w' p ka ∧ KB w' p 4 kb ∧ KB w' p 8 kc from
  ⟨core_cells ((h.bel.block _ (by omega)).trans k1), env_cells ((h.bel.block _ (by omega)).trans k2), hl.kids.lit0 (fr_bel b1 h) (k := ka) rfl, hl.kids.lit (fr_bel b1 h) 0 rfl, hl.kids.lit (fr_bel b1 h) 1 rfl⟩)
 have HW := Lib.hid fun (w' : World) (h : Fr2 (w.heap.size + 1 + 1) w1 (w.heap.size + 1 + 1) 33 w') => fr_bel b1 h
 have HF := Lib.hid fun (w' : World) (h : Below w1.heap.size w1 w') => (show Fr2 (w.heap.size + 1 + 1) w1 (w.heap.size + 1 + 1) 33 w' from ⟨h.mono (by omega), _, _, blk_below k3 h⟩)
 have Mka := Lib.hid (LiesL.lies hl.kids (List.mem_of_getElem? (show ([ka, kb, kc] : List Cr)[0]? = some ka from rfl)))
 have Mkb := Lib.hid (LiesL.lies hl.kids (List.mem_of_getElem? (show ([ka, kb, kc] : List Cr)[1]? = some kb from rfl)))
 have Mkc := Lib.hid (LiesL.lies hl.kids (List.mem_of_getElem? (show ([ka, kb, kc] : List Cr)[2]? = some kc from rfl)))
 have HV := Lib.hid henv
 have E2 := Lib.hid hE2
 clear hl hl1 henv hE k1 k2 k3 e1 b1 s1 hE2
 go_enter Tryz.func11, Tryz.ntmps11
 go_wp2_with fail
 rw [HE.out]
 go_wp2_with fail
 clear y0 y1 y2 y3
 refine wp_region_held_drew (S := fun w' => Aside0 (Below w1.heap.size w1 w')) (by kernel_rfl) ?_ (fun hHeld => ?_)
 ·exact ⟨(Below.refl _ _).drew⟩
 generalize World.drew _ = wDa at hHeld ⊢
 have HCr := HC
 refine' tk 0 ?_
 try simp only [pt]
 refine' tk 1 ?_
 try simp only [pt]
 refine' tk 2 ?_
 try simp only [pt]
 refine' tk 3 ?_
 try simp only [pt]
 refine' tk 4 ?_
 try simp only [pt]
 refine' share (F := fun g W' => Below w1.heap.size w1 W' ∧ W'.heap[g]? = some (resO) ∧ w1.heap.size ≤ g) (fun hX => ?boa5) ?rea5
 case boa5 =>
  have HX := Lib.hid hX
  clear hX
  refine wpAnyH_ready (rs := [5, 6]) (by kernel_rfl) (by simp) ?_
  refine AllReadyH.cons (o := ?oi_a5a) ?hi_a5a (fun K hK => ?kk_a5a) (AllReadyH.cons (o := ?oi_a5b) ?hi_a5b (fun K hK => ?kk_a5b) AllReadyH.nil)
  case hi_a5a => (simp only [List.getElem?_toArray, List.getElem?_cons_succ, List.getElem?_cons_zero]; rfl)
  case hi_a5b => (simp only [List.getElem?_toArray, List.getElem?_cons_succ, List.getElem?_cons_zero]; rfl)
  case kk_a5a =>
   go_simp
   refine (E0.out _ (Lka.out.below hHeld.out) (HENV.out.below hHeld.out)).mono ?_
   rintro e w7 ⟨rfl, hb2⟩
   have hZ : w1.heap.size ≤ w7.heap.size := (hHeld.out.trans (hb2.mono hHeld.out.size)).size
   refine hK.out _ _ ⟨hHeld.out.trans (hb2.mono hHeld.out.size)⟩ (fun hHeld => ?_)
   clear hK K
   try simp only [pt]
   refine' cm 6 (fun K hK => ?_)
   go_simp
   refine hK.out _ _ ⟨hHeld.out.alloc hHeld.out.size _⟩ (fun hHeld => ?_)
   clear hK K
   try simp only [pt]
   have HF : Below w1.heap.size w1 _ ∧ _ ∧ w1.heap.size ≤ w7.heap.size := ⟨hHeld.out, blk_new w7 (.cells #[.int .i64 0, .int .i64 0] 33), hZ⟩
   revert HF
   clear hZ hHeld
   generalize w7.heap.size = gT
   generalize World.alloc w7 _ = wT
   intro HF
   exact HX.out gT wT HF
  case kk_a5b =>
   go_simp
   have hg0 := blk_new wDa (.cells #[.int .i64 0, .int .i64 0] 33)
   have hg1 := hHeld.out.size
   refine hK.out _ _ ⟨hHeld.out.alloc hHeld.out.size _⟩ (fun hHeld => ?_)
   clear hK K
   try simp only [pt]
   refine' cm 5 (fun K hK => ?_)
   go_simp
   refine (E0.out _ (Lka.out.below hHeld.out) (HENV.out.below hHeld.out)).mono ?_
   rintro e w7 ⟨rfl, hb2⟩
   have hg2 := blk_below hg0 hb2
   refine hK.out _ _ ⟨hHeld.out.trans (hb2.mono hHeld.out.size)⟩ (fun hHeld => ?_)
   clear hK K
   try simp only [pt]
   exact HX.out _ w7 ⟨hHeld.out, hg2, hg1⟩
 case rea5 =>
  intro gA wA hF
  obtain ⟨bA, kA, geA⟩ := hF
  have hHeld : Aside0 (Below w1.heap.size w1 wA) := ⟨bA⟩
  have KA := Lib.hid kA
  have GEgA := Lib.hid geA
  have r0 := (blk_cell kA 0).trans rfl
  have r1 := (blk_cell kA 1).trans rfl
  have f0 := blk_frozen kA 0
  have f1 := blk_frozen kA 1
  clear bA kA geA
  refine' cm 7 (fun K hK => ?_)
  go_simp
  refine hK.out _ _ ⟨(hHeld.out.setCell (p := ⟨gA, 0, none⟩) GEgA.out _).setCell (p := ⟨gA, 1, none⟩) GEgA.out _⟩ (fun hHeld => ?_)
  clear hK K
  try simp only [pt]
  refine wpAnyH_done (by kernel_rfl) ?_ _
  have kgA := res_put (c := .int .i64 0) (d := .int .i64 1) KA.out
  clear r0 r1 f0 f1 KA
  generalize World.setCell (World.setCell _ _ _) _ _ = wSgA at hHeld kgA ⊢
  have KgA := Lib.hid kgA
  have BgA := Lib.hid hHeld.out
  have q0 := (blk_cell KgA.out 0).trans rfl
  have q1 := (blk_cell KgA.out 1).trans rfl
  obtain ⟨⟨y0, y1, y2, y3⟩, -⟩ := HC.out _ BgA.out
  go_wp2_with fail
  clear y0 y1 y2 y3 q0 q1
  refine wp_region_held_drew (S := fun w' => Aside0 (Fr2 (w.heap.size + 1 + 1) w1 (w.heap.size + 1 + 1) 33 w')) (by kernel_rfl) ?_ (fun hHeld => ?_)
  ·exact ⟨(HF.out _ BgA.out).drew⟩
  generalize World.drew _ = wDb at hHeld ⊢
  have HCr := HX
  refine' tk 0 ?_
  try simp only [pt]
  refine' tk 1 ?_
  try simp only [pt]
  refine' tk 2 ?_
  try simp only [pt]
  refine' tk 3 ?_
  try simp only [pt]
  refine' tk 4 ?_
  try simp only [pt]
  refine' cm 5 (fun K hK => ?_)
  go_simp
  refine (E2.out _ (Mkb.out.below (HW.out _ hHeld.out)) (HV.out.below (HW.out _ hHeld.out))).mono ?_
  rintro e w7 ⟨rfl, hb2⟩
  refine hK.out _ _ ⟨hHeld.out.step hb2 (Nat.le_of_lt N1.out)⟩ (fun hHeld => ?_)
  clear hK K
  try simp only [pt]
  have BR := Lib.hid (HW.out _ hHeld.out)
  obtain ⟨qa, qb, kr⟩ := hHeld.out.blk
  have KR := Lib.hid kr
  have r0 := (blk_cell kr 0).trans rfl
  have r1 := (blk_cell kr 1).trans rfl
  have f0 := blk_frozen kr 0
  have f1 := blk_frozen kr 1
  clear kr
  refine' cm 6 (fun K hK => ?_)
  go_simp
  refine hK.out _ _ ⟨hHeld.out.put (Nat.le_refl _) _ _⟩ (fun hHeld => ?_)
  clear hK K
  try simp only [pt]
  refine wpAnyH_done (by kernel_rfl) ?_ _
  go_wp2_with fail
  refine bodyPost_ret (results_cell_row (fn := Tryz.f11) (p := 4) rfl _ _ (w.heap.size + 1 + 1) 33 #[.int .i64 ra2, .int .i64 rn2] (0, 0) _ rfl (res_put KR.out) Tryz.underlying33 rfl (by kernel_rfl)) rfl ?_
  exact ⟨by first | rfl | simp, below_put2 BR.out (Nat.le_trans (Nat.le_succ _) (Nat.le_succ _)) _ _⟩
theorem rev_else {rn ra2 rn2 : Int} (hrn : ¬ rn = 1) (hE2 : REvalC v kc ra2 rn2) (hl : Lies w (.node 28 n m (some p) cap [ka, kb, kc])) (henv : EnvL w v) (hE : REvalC v ka 0 rn) :
  Calls Tryz.prog 11 #[.agg #[.int .i64 28, .int .i64 n, .int .i64 m, .slice (some p) 3 cap], .agg #[.int .i64 v.rep, .slice v.wa v.wins.length v.wcap, .slice v.ca v.crons.length v.ccap]] w fun e w' => e = .returned (.agg #[.int .i64 ra2, .int .i64 rn2]) ∧ Below w.heap.size w w' := by
 have z0 : (rn == 1) = false := by simpa using hrn
 obtain ⟨w1, e1, b1, k1, k2, k3, s1⟩ := box3 w (.cells #[.int .i64 28, .int .i64 n, .int .i64 m, .slice (some p) 3 cap] 24) (.cells #[.int .i64 v.rep, .slice v.wa v.wins.length v.wcap, .slice v.ca v.crons.length v.ccap] 28) (.cells #[.int .i64 0, .int .i64 0] 33)
 have HE := Lib.hid e1
 have B1 := Lib.hid b1
 have hl1 := hl.below b1
 have HENV := Lib.hid (henv.below b1)
 have HC := Lib.hid fun (w' : World) (hb : Below w1.heap.size w1 w') => (show CC w' w.heap.size 28 n m (.slice (some p) 3 cap) ∧ EC w' (w.heap.size + 1) v ∧ KA w' p ka ∧ KB w' p 4 kb ∧ KB w' p 8 kc from
  ⟨core_cells (blk_below k1 hb), env_cells (blk_below k2 hb), hl1.kids.lit0 hb (k := ka) rfl, hl1.kids.lit hb 0 rfl, hl1.kids.lit hb 1 rfl⟩)
 have HR := Lib.hid fun (w' : World) (hb : Below w1.heap.size w1 w') => blk_below k3 hb
 have Lka := Lib.hid (LiesL.lies hl1.kids (List.mem_of_getElem? (show ([ka, kb, kc] : List Cr)[0]? = some ka from rfl)))
 have Lkb := Lib.hid (LiesL.lies hl1.kids (List.mem_of_getElem? (show ([ka, kb, kc] : List Cr)[1]? = some kb from rfl)))
 have Lkc := Lib.hid (LiesL.lies hl1.kids (List.mem_of_getElem? (show ([ka, kb, kc] : List Cr)[2]? = some kc from rfl)))
 have E0 := Lib.hid hE
 obtain ⟨⟨y0, y1, y2, y3⟩, -⟩ := HC.out w1 (Below.refl _ _)
 have N1 := Lib.hid (show w.heap.size + 1 + 1 < w1.heap.size by omega)
 have HX := Lib.hid fun (w' : World) (h : Fr2 (w.heap.size + 1 + 1) w1 (w.heap.size + 1 + 1) 33 w') => (show CC w' w.heap.size 28 n m (.slice (some p) 3 cap) ∧ EC w' (w.heap.size + 1) v ∧ KA w' p ka ∧ KB w' p 4 kb ∧ KB w' p 8 kc from
  ⟨core_cells ((h.bel.block _ (by omega)).trans k1), env_cells ((h.bel.block _ (by omega)).trans k2), hl.kids.lit0 (fr_bel b1 h) (k := ka) rfl, hl.kids.lit (fr_bel b1 h) 0 rfl, hl.kids.lit (fr_bel b1 h) 1 rfl⟩)
 have HW := Lib.hid fun (w' : World) (h : Fr2 (w.heap.size + 1 + 1) w1 (w.heap.size + 1 + 1) 33 w') => fr_bel b1 h
 have HF := Lib.hid fun (w' : World) (h : Below w1.heap.size w1 w') => (show Fr2 (w.heap.size + 1 + 1) w1 (w.heap.size + 1 + 1) 33 w' from ⟨h.mono (by omega), _, _, blk_below k3 h⟩)
 have Mka := Lib.hid (LiesL.lies hl.kids (List.mem_of_getElem? (show ([ka, kb, kc] : List Cr)[0]? = some ka from rfl)))
 have Mkb := Lib.hid (LiesL.lies hl.kids (List.mem_of_getElem? (show ([ka, kb, kc] : List Cr)[1]? = some kb from rfl)))
 have Mkc := Lib.hid (LiesL.lies hl.kids (List.mem_of_getElem? (show ([ka, kb, kc] : List Cr)[2]? = some kc from rfl)))
 have HV := Lib.hid henv
 have E2 := Lib.hid hE2
 clear hl hl1 henv hE k1 k2 k3 e1 b1 s1 hrn hE2
 go_enter Tryz.func11, Tryz.ntmps11
 go_wp2_with fail
 rw [HE.out]
 go_wp2_with fail
 clear y0 y1 y2 y3
 refine wp_region_held_drew (S := fun w' => Aside0 (Below w1.heap.size w1 w')) (by kernel_rfl) ?_ (fun hHeld => ?_)
 ·exact ⟨(Below.refl _ _).drew⟩
 generalize World.drew _ = wDa at hHeld ⊢
 have HCr := HC
 refine' tk 0 ?_
 try simp only [pt]
 refine' tk 1 ?_
 try simp only [pt]
 refine' tk 2 ?_
 try simp only [pt]
 refine' tk 3 ?_
 try simp only [pt]
 refine' tk 4 ?_
 try simp only [pt]
 refine' share (F := fun g W' => Below w1.heap.size w1 W' ∧ W'.heap[g]? = some (resO) ∧ w1.heap.size ≤ g) (fun hX => ?boa5) ?rea5
 case boa5 =>
  have HX := Lib.hid hX
  clear hX
  refine wpAnyH_ready (rs := [5, 6]) (by kernel_rfl) (by simp) ?_
  refine AllReadyH.cons (o := ?oi_a5a) ?hi_a5a (fun K hK => ?kk_a5a) (AllReadyH.cons (o := ?oi_a5b) ?hi_a5b (fun K hK => ?kk_a5b) AllReadyH.nil)
  case hi_a5a => (simp only [List.getElem?_toArray, List.getElem?_cons_succ, List.getElem?_cons_zero]; rfl)
  case hi_a5b => (simp only [List.getElem?_toArray, List.getElem?_cons_succ, List.getElem?_cons_zero]; rfl)
  case kk_a5a =>
   go_simp
   refine (E0.out _ (Lka.out.below hHeld.out) (HENV.out.below hHeld.out)).mono ?_
   rintro e w7 ⟨rfl, hb2⟩
   have hZ : w1.heap.size ≤ w7.heap.size := (hHeld.out.trans (hb2.mono hHeld.out.size)).size
   refine hK.out _ _ ⟨hHeld.out.trans (hb2.mono hHeld.out.size)⟩ (fun hHeld => ?_)
   clear hK K
   try simp only [pt]
   refine' cm 6 (fun K hK => ?_)
   go_simp
   refine hK.out _ _ ⟨hHeld.out.alloc hHeld.out.size _⟩ (fun hHeld => ?_)
   clear hK K
   try simp only [pt]
   have HF : Below w1.heap.size w1 _ ∧ _ ∧ w1.heap.size ≤ w7.heap.size := ⟨hHeld.out, blk_new w7 (.cells #[.int .i64 0, .int .i64 0] 33), hZ⟩
   revert HF
   clear hZ hHeld
   generalize w7.heap.size = gT
   generalize World.alloc w7 _ = wT
   intro HF
   exact HX.out gT wT HF
  case kk_a5b =>
   go_simp
   have hg0 := blk_new wDa (.cells #[.int .i64 0, .int .i64 0] 33)
   have hg1 := hHeld.out.size
   refine hK.out _ _ ⟨hHeld.out.alloc hHeld.out.size _⟩ (fun hHeld => ?_)
   clear hK K
   try simp only [pt]
   refine' cm 5 (fun K hK => ?_)
   go_simp
   refine (E0.out _ (Lka.out.below hHeld.out) (HENV.out.below hHeld.out)).mono ?_
   rintro e w7 ⟨rfl, hb2⟩
   have hg2 := blk_below hg0 hb2
   refine hK.out _ _ ⟨hHeld.out.trans (hb2.mono hHeld.out.size)⟩ (fun hHeld => ?_)
   clear hK K
   try simp only [pt]
   exact HX.out _ w7 ⟨hHeld.out, hg2, hg1⟩
 case rea5 =>
  intro gA wA hF
  obtain ⟨bA, kA, geA⟩ := hF
  have hHeld : Aside0 (Below w1.heap.size w1 wA) := ⟨bA⟩
  have KA := Lib.hid kA
  have GEgA := Lib.hid geA
  have r0 := (blk_cell kA 0).trans rfl
  have r1 := (blk_cell kA 1).trans rfl
  have f0 := blk_frozen kA 0
  have f1 := blk_frozen kA 1
  clear bA kA geA
  refine' cm 7 (fun K hK => ?_)
  go_simp
  refine hK.out _ _ ⟨(hHeld.out.setCell (p := ⟨gA, 0, none⟩) GEgA.out _).setCell (p := ⟨gA, 1, none⟩) GEgA.out _⟩ (fun hHeld => ?_)
  clear hK K
  try simp only [pt]
  refine wpAnyH_done (by kernel_rfl) ?_ _
  have kgA := res_put (c := .int .i64 0) (d := .int .i64 rn) KA.out
  clear r0 r1 f0 f1 KA
  generalize World.setCell (World.setCell _ _ _) _ _ = wSgA at hHeld kgA ⊢
  have KgA := Lib.hid kgA
  have BgA := Lib.hid hHeld.out
  have q0 := (blk_cell KgA.out 0).trans rfl
  have q1 := (blk_cell KgA.out 1).trans rfl
  obtain ⟨⟨y0, y1, y2, y3⟩, -⟩ := HC.out _ BgA.out
  go_wp2_with fail
  clear y0 y1 y2 y3 q0 q1
  refine wp_region_held_drew (S := fun w' => Aside0 (Fr2 (w.heap.size + 1 + 1) w1 (w.heap.size + 1 + 1) 33 w')) (by kernel_rfl) ?_ (fun hHeld => ?_)
  ·exact ⟨(HF.out _ BgA.out).drew⟩
  generalize World.drew _ = wDb at hHeld ⊢
  have HCr := HX
  refine' tk 0 ?_
  try simp only [pt]
  refine' tk 1 ?_
  try simp only [pt]
  refine' tk 2 ?_
  try simp only [pt]
  refine' tk 3 ?_
  try simp only [pt]
  refine' tk 4 ?_
  try simp only [pt]
  refine' cm 5 (fun K hK => ?_)
  go_simp
  refine (E2.out _ (Mkc.out.below (HW.out _ hHeld.out)) (HV.out.below (HW.out _ hHeld.out))).mono ?_
  rintro e w7 ⟨rfl, hb2⟩
  refine hK.out _ _ ⟨hHeld.out.step hb2 (Nat.le_of_lt N1.out)⟩ (fun hHeld => ?_)
  clear hK K
  try simp only [pt]
  have BR := Lib.hid (HW.out _ hHeld.out)
  obtain ⟨qa, qb, kr⟩ := hHeld.out.blk
  have KR := Lib.hid kr
  have r0 := (blk_cell kr 0).trans rfl
  have r1 := (blk_cell kr 1).trans rfl
  have f0 := blk_frozen kr 0
  have f1 := blk_frozen kr 1
  clear kr
  refine' cm 6 (fun K hK => ?_)
  go_simp
  refine hK.out _ _ ⟨hHeld.out.put (Nat.le_refl _) _ _⟩ (fun hHeld => ?_)
  clear hK K
  try simp only [pt]
  refine wpAnyH_done (by kernel_rfl) ?_ _
  go_wp2_with fail
  refine bodyPost_ret (results_cell_row (fn := Tryz.f11) (p := 4) rfl _ _ (w.heap.size + 1 + 1) 33 #[.int .i64 ra2, .int .i64 rn2] (0, 0) _ rfl (res_put KR.out) Tryz.underlying33 rfl (by kernel_rfl)) rfl ?_
  exact ⟨by first | rfl | simp, below_put2 BR.out (Nat.le_trans (Nat.le_succ _) (Nat.le_succ _)) _ _⟩
theorem rev_un {rn ra2 rn2 : Int} (h6 : 6 < op) (h25 : ¬ op = 25) (h26 : ¬ op = 26) (h27 : ¬ op = 27) (h28 : ¬ op = 28) (hU : ∀ W, Calls Tryz.prog 31 #[.agg #[.int .i64 op, .int .i64 n, .int .i64 m, .slice (some p) 1 cap], .int .i64 rn] W fun e w' => e = .returned (.agg #[.int .i64 ra2, .int .i64 rn2]) ∧ Below W.heap.size W w') (hl : Lies w (.node op n m (some p) cap [ka])) (henv : EnvL w v) (hE : REvalC v ka 0 rn) :
  Calls Tryz.prog 11 #[.agg #[.int .i64 op, .int .i64 n, .int .i64 m, .slice (some p) 1 cap], .agg #[.int .i64 v.rep, .slice v.wa v.wins.length v.wcap, .slice v.ca v.crons.length v.ccap]] w fun e w' => e = .returned (.agg #[.int .i64 ra2, .int .i64 rn2]) ∧ Below w.heap.size w w' := by
 have p1 : (op == 1) = false := by simp; omega
 have p2 : (op == 2) = false := by simp; omega
 have p3 : (op == 3) = false := by simp; omega
 have p4 : (op == 4) = false := by simp; omega
 have p5 : (op == 5) = false := by simp; omega
 have p6 : (op == 6) = false := by simp; omega
 have p25 : (op == 25) = false := by simp; omega
 have p26 : (op == 26) = false := by simp; omega
 have p27 : (op == 27) = false := by simp; omega
 have p28 : (op == 28) = false := by simp; omega
 obtain ⟨w1, e1, b1, k1, k2, k3, s1⟩ := box3 w (.cells #[.int .i64 op, .int .i64 n, .int .i64 m, .slice (some p) 1 cap] 24) (.cells #[.int .i64 v.rep, .slice v.wa v.wins.length v.wcap, .slice v.ca v.crons.length v.ccap] 28) (.cells #[.int .i64 0, .int .i64 0] 33)
 have HE := Lib.hid e1
 have B1 := Lib.hid b1
 have hl1 := hl.below b1
 have HENV := Lib.hid (henv.below b1)
 have HC := Lib.hid fun (w' : World) (hb : Below w1.heap.size w1 w') => (show CC w' w.heap.size op n m (.slice (some p) 1 cap) ∧ EC w' (w.heap.size + 1) v ∧ KA w' p ka from
  ⟨core_cells (blk_below k1 hb), env_cells (blk_below k2 hb), hl1.kids.lit0 hb (k := ka) rfl⟩)
 have HR := Lib.hid fun (w' : World) (hb : Below w1.heap.size w1 w') => blk_below k3 hb
 have Lka := Lib.hid (LiesL.lies hl1.kids (List.mem_of_getElem? (show ([ka] : List Cr)[0]? = some ka from rfl)))
 have E0 := Lib.hid hE
 obtain ⟨⟨y0, y1, y2, y3⟩, -⟩ := HC.out w1 (Below.refl _ _)
 have HU := Lib.hid hU
 clear hl hl1 henv hE k1 k2 k3 e1 b1 s1 h6 h25 h26 h27 h28 hU
 go_enter Tryz.func11, Tryz.ntmps11
 go_wp2_with fail
 rw [HE.out]
 go_wp2_with fail
 clear y0 y1 y2 y3
 refine wp_region_held_drew (S := fun w' => Aside0 (Below w1.heap.size w1 w')) (by kernel_rfl) ?_ (fun hHeld => ?_)
 ·exact ⟨(Below.refl _ _).drew⟩
 generalize World.drew _ = wDa at hHeld ⊢
 have HCr := HC
 refine' tk 0 ?_
 try simp only [pt]
 refine' tk 1 ?_
 try simp only [pt]
 refine' tk 2 ?_
 try simp only [pt]
 refine' tk 3 ?_
 try simp only [pt]
 refine' tk 4 ?_
 try simp only [pt]
 refine' share (F := fun g W' => Below w1.heap.size w1 W' ∧ W'.heap[g]? = some (resO) ∧ w1.heap.size ≤ g) (fun hX => ?boa5) ?rea5
 case boa5 =>
  have HX := Lib.hid hX
  clear hX
  refine wpAnyH_ready (rs := [5, 6]) (by kernel_rfl) (by simp) ?_
  refine AllReadyH.cons (o := ?oi_a5a) ?hi_a5a (fun K hK => ?kk_a5a) (AllReadyH.cons (o := ?oi_a5b) ?hi_a5b (fun K hK => ?kk_a5b) AllReadyH.nil)
  case hi_a5a => (simp only [List.getElem?_toArray, List.getElem?_cons_succ, List.getElem?_cons_zero]; rfl)
  case hi_a5b => (simp only [List.getElem?_toArray, List.getElem?_cons_succ, List.getElem?_cons_zero]; rfl)
  case kk_a5a =>
   go_simp
   refine (E0.out _ (Lka.out.below hHeld.out) (HENV.out.below hHeld.out)).mono ?_
   rintro e w7 ⟨rfl, hb2⟩
   have hZ : w1.heap.size ≤ w7.heap.size := (hHeld.out.trans (hb2.mono hHeld.out.size)).size
   refine hK.out _ _ ⟨hHeld.out.trans (hb2.mono hHeld.out.size)⟩ (fun hHeld => ?_)
   clear hK K
   try simp only [pt]
   refine' cm 6 (fun K hK => ?_)
   go_simp
   refine hK.out _ _ ⟨hHeld.out.alloc hHeld.out.size _⟩ (fun hHeld => ?_)
   clear hK K
   try simp only [pt]
   have HF : Below w1.heap.size w1 _ ∧ _ ∧ w1.heap.size ≤ w7.heap.size := ⟨hHeld.out, blk_new w7 (.cells #[.int .i64 0, .int .i64 0] 33), hZ⟩
   revert HF
   clear hZ hHeld
   generalize w7.heap.size = gT
   generalize World.alloc w7 _ = wT
   intro HF
   exact HX.out gT wT HF
  case kk_a5b =>
   go_simp
   have hg0 := blk_new wDa (.cells #[.int .i64 0, .int .i64 0] 33)
   have hg1 := hHeld.out.size
   refine hK.out _ _ ⟨hHeld.out.alloc hHeld.out.size _⟩ (fun hHeld => ?_)
   clear hK K
   try simp only [pt]
   refine' cm 5 (fun K hK => ?_)
   go_simp
   refine (E0.out _ (Lka.out.below hHeld.out) (HENV.out.below hHeld.out)).mono ?_
   rintro e w7 ⟨rfl, hb2⟩
   have hg2 := blk_below hg0 hb2
   refine hK.out _ _ ⟨hHeld.out.trans (hb2.mono hHeld.out.size)⟩ (fun hHeld => ?_)
   clear hK K
   try simp only [pt]
   exact HX.out _ w7 ⟨hHeld.out, hg2, hg1⟩
 case rea5 =>
  intro gA wA hF
  obtain ⟨bA, kA, geA⟩ := hF
  have hHeld : Aside0 (Below w1.heap.size w1 wA) := ⟨bA⟩
  have KA := Lib.hid kA
  have GEgA := Lib.hid geA
  have r0 := (blk_cell kA 0).trans rfl
  have r1 := (blk_cell kA 1).trans rfl
  have f0 := blk_frozen kA 0
  have f1 := blk_frozen kA 1
  clear bA kA geA
  refine' cm 7 (fun K hK => ?_)
  go_simp
  refine hK.out _ _ ⟨(hHeld.out.setCell (p := ⟨gA, 0, none⟩) GEgA.out _).setCell (p := ⟨gA, 1, none⟩) GEgA.out _⟩ (fun hHeld => ?_)
  clear hK K
  try simp only [pt]
  refine wpAnyH_done (by kernel_rfl) ?_ _
  have kgA := res_put (c := .int .i64 0) (d := .int .i64 rn) KA.out
  clear r0 r1 f0 f1 KA
  generalize World.setCell (World.setCell _ _ _) _ _ = wSgA at hHeld kgA ⊢
  have KgA := Lib.hid kgA
  have BgA := Lib.hid hHeld.out
  have q0 := (blk_cell KgA.out 0).trans rfl
  have q1 := (blk_cell KgA.out 1).trans rfl
  obtain ⟨⟨y0, y1, y2, y3⟩, -⟩ := HC.out _ BgA.out
  go_wp2_with fail
  refine (HU.out _).mono ?_
  rintro e w8 ⟨rfl, hb8⟩
  have BgB := Lib.hid (BgA.out.trans (hb8.mono BgA.out.size))
  clear hb8 y0 y1 y2 y3 q0 q1
  have kr := HR.out _ BgB.out
  have KR := Lib.hid kr
  have r0 := (blk_cell kr 0).trans rfl
  have r1 := (blk_cell kr 1).trans rfl
  have f0 := blk_frozen kr 0
  have f1 := blk_frozen kr 1
  clear kr
  go_wp2_with fail
  refine bodyPost_ret (results_cell_row (fn := Tryz.f11) (p := 4) rfl _ _ (w.heap.size + 1 + 1) 33 #[.int .i64 ra2, .int .i64 rn2] (0, 0) _ rfl (res_put KR.out) Tryz.underlying33 rfl (by kernel_rfl)) rfl ?_
  exact ⟨by first | rfl | simp, below_two B1.out BgB.out⟩
theorem rev_bin_stop {rn ra2 rn2 : Int} (h6 : 6 < op) (h25 : ¬ op = 25) (h26 : ¬ op = 26) (h27 : ¬ op = 27) (h28 : ¬ op = 28) (hra : ¬ ra2 = 0) (hE2 : REvalC v kb ra2 rn2) (hl : Lies w (.node op n m (some p) cap [ka, kb])) (henv : EnvL w v) (hE : REvalC v ka 0 rn) :
  Calls Tryz.prog 11 #[.agg #[.int .i64 op, .int .i64 n, .int .i64 m, .slice (some p) 2 cap], .agg #[.int .i64 v.rep, .slice v.wa v.wins.length v.wcap, .slice v.ca v.crons.length v.ccap]] w fun e w' => e = .returned (.agg #[.int .i64 ra2, .int .i64 rn2]) ∧ Below w.heap.size w w' := by
 have p1 : (op == 1) = false := by simp; omega
 have p2 : (op == 2) = false := by simp; omega
 have p3 : (op == 3) = false := by simp; omega
 have p4 : (op == 4) = false := by simp; omega
 have p5 : (op == 5) = false := by simp; omega
 have p6 : (op == 6) = false := by simp; omega
 have p25 : (op == 25) = false := by simp; omega
 have p26 : (op == 26) = false := by simp; omega
 have p27 : (op == 27) = false := by simp; omega
 have p28 : (op == 28) = false := by simp; omega
 have z0 : (ra2 != 0) = true := by simpa using hra
 have z1 : (ra2 == 0) = false := by simpa using hra
 obtain ⟨w1, e1, b1, k1, k2, k3, s1⟩ := box3 w (.cells #[.int .i64 op, .int .i64 n, .int .i64 m, .slice (some p) 2 cap] 24) (.cells #[.int .i64 v.rep, .slice v.wa v.wins.length v.wcap, .slice v.ca v.crons.length v.ccap] 28) (.cells #[.int .i64 0, .int .i64 0] 33)
 have HE := Lib.hid e1
 have B1 := Lib.hid b1
 have hl1 := hl.below b1
 have HENV := Lib.hid (henv.below b1)
 have HC := Lib.hid fun (w' : World) (hb : Below w1.heap.size w1 w') => (show CC w' w.heap.size op n m (.slice (some p) 2 cap) ∧ EC w' (w.heap.size + 1) v ∧ KA w' p ka ∧ KB w' p 4 kb from
  ⟨core_cells (blk_below k1 hb), env_cells (blk_below k2 hb), hl1.kids.lit0 hb (k := ka) rfl, hl1.kids.lit hb 0 rfl⟩)
 have HR := Lib.hid fun (w' : World) (hb : Below w1.heap.size w1 w') => blk_below k3 hb
 have Lka := Lib.hid (LiesL.lies hl1.kids (List.mem_of_getElem? (show ([ka, kb] : List Cr)[0]? = some ka from rfl)))
 have Lkb := Lib.hid (LiesL.lies hl1.kids (List.mem_of_getElem? (show ([ka, kb] : List Cr)[1]? = some kb from rfl)))
 have E0 := Lib.hid hE
 obtain ⟨⟨y0, y1, y2, y3⟩, -⟩ := HC.out w1 (Below.refl _ _)
 have E2 := Lib.hid hE2
 clear hl hl1 henv hE k1 k2 k3 e1 b1 s1 h6 h25 h26 h27 h28 hra hE2
 go_enter Tryz.func11, Tryz.ntmps11
 go_wp2_with fail
 rw [HE.out]
 go_wp2_with fail
 clear y0 y1 y2 y3
 refine wp_region_held_drew (S := fun w' => Aside0 (Below w1.heap.size w1 w')) (by kernel_rfl) ?_ (fun hHeld => ?_)
 ·exact ⟨(Below.refl _ _).drew⟩
 generalize World.drew _ = wDa at hHeld ⊢
 have HCr := HC
 refine' tk 0 ?_
 try simp only [pt]
 refine' tk 1 ?_
 try simp only [pt]
 refine' tk 2 ?_
 try simp only [pt]
 refine' tk 3 ?_
 try simp only [pt]
 refine' tk 4 ?_
 try simp only [pt]
 refine' share (F := fun g W' => Below w1.heap.size w1 W' ∧ W'.heap[g]? = some (resO) ∧ w1.heap.size ≤ g) (fun hX => ?boa5) ?rea5
 case boa5 =>
  have HX := Lib.hid hX
  clear hX
  refine wpAnyH_ready (rs := [5, 6]) (by kernel_rfl) (by simp) ?_
  refine AllReadyH.cons (o := ?oi_a5a) ?hi_a5a (fun K hK => ?kk_a5a) (AllReadyH.cons (o := ?oi_a5b) ?hi_a5b (fun K hK => ?kk_a5b) AllReadyH.nil)
  case hi_a5a => (simp only [List.getElem?_toArray, List.getElem?_cons_succ, List.getElem?_cons_zero]; rfl)
  case hi_a5b => (simp only [List.getElem?_toArray, List.getElem?_cons_succ, List.getElem?_cons_zero]; rfl)
  case kk_a5a =>
   go_simp
   refine (E0.out _ (Lka.out.below hHeld.out) (HENV.out.below hHeld.out)).mono ?_
   rintro e w7 ⟨rfl, hb2⟩
   have hZ : w1.heap.size ≤ w7.heap.size := (hHeld.out.trans (hb2.mono hHeld.out.size)).size
   refine hK.out _ _ ⟨hHeld.out.trans (hb2.mono hHeld.out.size)⟩ (fun hHeld => ?_)
   clear hK K
   try simp only [pt]
   refine' cm 6 (fun K hK => ?_)
   go_simp
   refine hK.out _ _ ⟨hHeld.out.alloc hHeld.out.size _⟩ (fun hHeld => ?_)
   clear hK K
   try simp only [pt]
   have HF : Below w1.heap.size w1 _ ∧ _ ∧ w1.heap.size ≤ w7.heap.size := ⟨hHeld.out, blk_new w7 (.cells #[.int .i64 0, .int .i64 0] 33), hZ⟩
   revert HF
   clear hZ hHeld
   generalize w7.heap.size = gT
   generalize World.alloc w7 _ = wT
   intro HF
   exact HX.out gT wT HF
  case kk_a5b =>
   go_simp
   have hg0 := blk_new wDa (.cells #[.int .i64 0, .int .i64 0] 33)
   have hg1 := hHeld.out.size
   refine hK.out _ _ ⟨hHeld.out.alloc hHeld.out.size _⟩ (fun hHeld => ?_)
   clear hK K
   try simp only [pt]
   refine' cm 5 (fun K hK => ?_)
   go_simp
   refine (E0.out _ (Lka.out.below hHeld.out) (HENV.out.below hHeld.out)).mono ?_
   rintro e w7 ⟨rfl, hb2⟩
   have hg2 := blk_below hg0 hb2
   refine hK.out _ _ ⟨hHeld.out.trans (hb2.mono hHeld.out.size)⟩ (fun hHeld => ?_)
   clear hK K
   try simp only [pt]
   exact HX.out _ w7 ⟨hHeld.out, hg2, hg1⟩
 case rea5 =>
  intro gA wA hF
  obtain ⟨bA, kA, geA⟩ := hF
  have hHeld : Aside0 (Below w1.heap.size w1 wA) := ⟨bA⟩
  have KA := Lib.hid kA
  have GEgA := Lib.hid geA
  have r0 := (blk_cell kA 0).trans rfl
  have r1 := (blk_cell kA 1).trans rfl
  have f0 := blk_frozen kA 0
  have f1 := blk_frozen kA 1
  clear bA kA geA
  refine' cm 7 (fun K hK => ?_)
  go_simp
  refine hK.out _ _ ⟨(hHeld.out.setCell (p := ⟨gA, 0, none⟩) GEgA.out _).setCell (p := ⟨gA, 1, none⟩) GEgA.out _⟩ (fun hHeld => ?_)
  clear hK K
  try simp only [pt]
  refine wpAnyH_done (by kernel_rfl) ?_ _
  have kgA := res_put (c := .int .i64 0) (d := .int .i64 rn) KA.out
  clear r0 r1 f0 f1 KA
  generalize World.setCell (World.setCell _ _ _) _ _ = wSgA at hHeld kgA ⊢
  have KgA := Lib.hid kgA
  have BgA := Lib.hid hHeld.out
  have q0 := (blk_cell KgA.out 0).trans rfl
  have q1 := (blk_cell KgA.out 1).trans rfl
  obtain ⟨⟨y0, y1, y2, y3⟩, -⟩ := HC.out _ BgA.out
  go_wp2_with fail
  clear y0 y1 y2 y3 q0 q1
  have HC2 := Lib.hid fun (w' : World) (hb : Below wSgA.heap.size wSgA w') => HC.out w' (BgA.out.trans (hb.mono BgA.out.size))
  have HEN2 := Lib.hid (HENV.out.below BgA.out)
  have Lkb2 := Lib.hid (Lkb.out.below BgA.out)
  refine wp_region_held_drew (S := fun w' => Aside0 (Below wSgA.heap.size wSgA w')) (by kernel_rfl) ?_ (fun hHeld => ?_)
  ·exact ⟨(Below.refl _ _).drew⟩
  generalize World.drew _ = wDb at hHeld ⊢
  have HCr := HC2
  refine' tk 0 ?_
  try simp only [pt]
  refine' tk 1 ?_
  try simp only [pt]
  refine' tk 2 ?_
  try simp only [pt]
  refine' tk 3 ?_
  try simp only [pt]
  refine' tk 4 ?_
  try simp only [pt]
  refine' share (F := fun g W' => Below wSgA.heap.size wSgA W' ∧ W'.heap[g]? = some (resO) ∧ wSgA.heap.size ≤ g) (fun hX => ?bob5) ?reb5
  case bob5 =>
   have HX := Lib.hid hX
   clear hX
   refine wpAnyH_ready (rs := [5, 6]) (by kernel_rfl) (by simp) ?_
   refine AllReadyH.cons (o := ?oi_b5a) ?hi_b5a (fun K hK => ?kk_b5a) (AllReadyH.cons (o := ?oi_b5b) ?hi_b5b (fun K hK => ?kk_b5b) AllReadyH.nil)
   case hi_b5a => (simp only [List.getElem?_toArray, List.getElem?_cons_succ, List.getElem?_cons_zero]; rfl)
   case hi_b5b => (simp only [List.getElem?_toArray, List.getElem?_cons_succ, List.getElem?_cons_zero]; rfl)
   case kk_b5a =>
    go_simp
    refine (E2.out _ (Lkb2.out.below hHeld.out) (HEN2.out.below hHeld.out)).mono ?_
    rintro e w7 ⟨rfl, hb2⟩
    have hZ : wSgA.heap.size ≤ w7.heap.size := (hHeld.out.trans (hb2.mono hHeld.out.size)).size
    refine hK.out _ _ ⟨hHeld.out.trans (hb2.mono hHeld.out.size)⟩ (fun hHeld => ?_)
    clear hK K
    try simp only [pt]
    refine' cm 6 (fun K hK => ?_)
    go_simp
    refine hK.out _ _ ⟨hHeld.out.alloc hHeld.out.size _⟩ (fun hHeld => ?_)
    clear hK K
    try simp only [pt]
    have HF : Below wSgA.heap.size wSgA _ ∧ _ ∧ wSgA.heap.size ≤ w7.heap.size := ⟨hHeld.out, blk_new w7 (.cells #[.int .i64 0, .int .i64 0] 33), hZ⟩
    revert HF
    clear hZ hHeld
    generalize w7.heap.size = gT
    generalize World.alloc w7 _ = wT
    intro HF
    exact HX.out gT wT HF
   case kk_b5b =>
    go_simp
    have hg0 := blk_new wDb (.cells #[.int .i64 0, .int .i64 0] 33)
    have hg1 := hHeld.out.size
    refine hK.out _ _ ⟨hHeld.out.alloc hHeld.out.size _⟩ (fun hHeld => ?_)
    clear hK K
    try simp only [pt]
    refine' cm 5 (fun K hK => ?_)
    go_simp
    refine (E2.out _ (Lkb2.out.below hHeld.out) (HEN2.out.below hHeld.out)).mono ?_
    rintro e w7 ⟨rfl, hb2⟩
    have hg2 := blk_below hg0 hb2
    refine hK.out _ _ ⟨hHeld.out.trans (hb2.mono hHeld.out.size)⟩ (fun hHeld => ?_)
    clear hK K
    try simp only [pt]
    exact HX.out _ w7 ⟨hHeld.out, hg2, hg1⟩
  case reb5 =>
   intro gB wA hF
   obtain ⟨bA, kA, geA⟩ := hF
   have hHeld : Aside0 (Below wSgA.heap.size wSgA wA) := ⟨bA⟩
   have KA := Lib.hid kA
   have GEgB := Lib.hid geA
   have r0 := (blk_cell kA 0).trans rfl
   have r1 := (blk_cell kA 1).trans rfl
   have f0 := blk_frozen kA 0
   have f1 := blk_frozen kA 1
   clear bA kA geA
   refine' cm 7 (fun K hK => ?_)
   go_simp
   refine hK.out _ _ ⟨(hHeld.out.setCell (p := ⟨gB, 0, none⟩) GEgB.out _).setCell (p := ⟨gB, 1, none⟩) GEgB.out _⟩ (fun hHeld => ?_)
   clear hK K
   try simp only [pt]
   refine wpAnyH_done (by kernel_rfl) ?_ _
   have kgB := res_put (c := .int .i64 ra2) (d := .int .i64 rn2) KA.out
   clear r0 r1 f0 f1 KA
   generalize World.setCell (World.setCell _ _ _) _ _ = wSgB at hHeld kgB ⊢
   have KgB := Lib.hid kgB
   have BgB := Lib.hid hHeld.out
   have BAB := Lib.hid (BgA.out.trans (BgB.out.mono BgA.out.size))
   have kA2 := blk_below KgA.out BgB.out
   have s0 := (blk_cell KgB.out 0).trans rfl
   have s1 := (blk_cell KgB.out 1).trans rfl
   have q0 := (blk_cell kA2 0).trans rfl
   have q1 := (blk_cell kA2 1).trans rfl
   clear kA2
   obtain ⟨⟨y0, y1, y2, y3⟩, -⟩ := HC.out _ BAB.out
   have kr := HR.out _ BAB.out
   have KR := Lib.hid kr
   have r0 := (blk_cell kr 0).trans rfl
   have r1 := (blk_cell kr 1).trans rfl
   have f0 := blk_frozen kr 0
   have f1 := blk_frozen kr 1
   clear kr
   go_wp2_with fail
   refine bodyPost_ret (results_cell_row (fn := Tryz.f11) (p := 4) rfl _ _ (w.heap.size + 1 + 1) 33 #[.int .i64 ra2, .int .i64 rn2] (0, 0) _ rfl (res_put KR.out) Tryz.underlying33 rfl (by kernel_rfl)) rfl ?_
   exact ⟨by first | rfl | simp, below_two B1.out BAB.out⟩
theorem rev_bin {rn rb ra2 rn2 : Int} (h6 : 6 < op) (h25 : ¬ op = 25) (h26 : ¬ op = 26) (h27 : ¬ op = 27) (h28 : ¬ op = 28) (hE2 : REvalC v kb 0 rb) (hU : ∀ W, Calls Tryz.prog 32 #[.int .i64 op, .int .i64 rn, .int .i64 rb] W fun e w' => e = .returned (.agg #[.int .i64 ra2, .int .i64 rn2]) ∧ Below W.heap.size W w') (hl : Lies w (.node op n m (some p) cap [ka, kb])) (henv : EnvL w v) (hE : REvalC v ka 0 rn) :
  Calls Tryz.prog 11 #[.agg #[.int .i64 op, .int .i64 n, .int .i64 m, .slice (some p) 2 cap], .agg #[.int .i64 v.rep, .slice v.wa v.wins.length v.wcap, .slice v.ca v.crons.length v.ccap]] w fun e w' => e = .returned (.agg #[.int .i64 ra2, .int .i64 rn2]) ∧ Below w.heap.size w w' := by
 have p1 : (op == 1) = false := by simp; omega
 have p2 : (op == 2) = false := by simp; omega
 have p3 : (op == 3) = false := by simp; omega
 have p4 : (op == 4) = false := by simp; omega
 have p5 : (op == 5) = false := by simp; omega
 have p6 : (op == 6) = false := by simp; omega
 have p25 : (op == 25) = false := by simp; omega
 have p26 : (op == 26) = false := by simp; omega
 have p27 : (op == 27) = false := by simp; omega
 have p28 : (op == 28) = false := by simp; omega
 obtain ⟨w1, e1, b1, k1, k2, k3, s1⟩ := box3 w (.cells #[.int .i64 op, .int .i64 n, .int .i64 m, .slice (some p) 2 cap] 24) (.cells #[.int .i64 v.rep, .slice v.wa v.wins.length v.wcap, .slice v.ca v.crons.length v.ccap] 28) (.cells #[.int .i64 0, .int .i64 0] 33)
 have HE := Lib.hid e1
 have B1 := Lib.hid b1
 have hl1 := hl.below b1
 have HENV := Lib.hid (henv.below b1)
 have HC := Lib.hid fun (w' : World) (hb : Below w1.heap.size w1 w') => (show CC w' w.heap.size op n m (.slice (some p) 2 cap) ∧ EC w' (w.heap.size + 1) v ∧ KA w' p ka ∧ KB w' p 4 kb from
  ⟨core_cells (blk_below k1 hb), env_cells (blk_below k2 hb), hl1.kids.lit0 hb (k := ka) rfl, hl1.kids.lit hb 0 rfl⟩)
 have HR := Lib.hid fun (w' : World) (hb : Below w1.heap.size w1 w') => blk_below k3 hb
 have Lka := Lib.hid (LiesL.lies hl1.kids (List.mem_of_getElem? (show ([ka, kb] : List Cr)[0]? = some ka from rfl)))
 have Lkb := Lib.hid (LiesL.lies hl1.kids (List.mem_of_getElem? (show ([ka, kb] : List Cr)[1]? = some kb from rfl)))
 have E0 := Lib.hid hE
 obtain ⟨⟨y0, y1, y2, y3⟩, -⟩ := HC.out w1 (Below.refl _ _)
 have E2 := Lib.hid hE2
 have HU := Lib.hid hU
 clear hl hl1 henv hE k1 k2 k3 e1 b1 s1 h6 h25 h26 h27 h28 hU hE2
 go_enter Tryz.func11, Tryz.ntmps11
 go_wp2_with fail
 rw [HE.out]
 go_wp2_with fail
 clear y0 y1 y2 y3
 refine wp_region_held_drew (S := fun w' => Aside0 (Below w1.heap.size w1 w')) (by kernel_rfl) ?_ (fun hHeld => ?_)
 ·exact ⟨(Below.refl _ _).drew⟩
 generalize World.drew _ = wDa at hHeld ⊢
 have HCr := HC
 refine' tk 0 ?_
 try simp only [pt]
 refine' tk 1 ?_
 try simp only [pt]
 refine' tk 2 ?_
 try simp only [pt]
 refine' tk 3 ?_
 try simp only [pt]
 refine' tk 4 ?_
 try simp only [pt]
 refine' share (F := fun g W' => Below w1.heap.size w1 W' ∧ W'.heap[g]? = some (resO) ∧ w1.heap.size ≤ g) (fun hX => ?boa5) ?rea5
 case boa5 =>
  have HX := Lib.hid hX
  clear hX
  refine wpAnyH_ready (rs := [5, 6]) (by kernel_rfl) (by simp) ?_
  refine AllReadyH.cons (o := ?oi_a5a) ?hi_a5a (fun K hK => ?kk_a5a) (AllReadyH.cons (o := ?oi_a5b) ?hi_a5b (fun K hK => ?kk_a5b) AllReadyH.nil)
  case hi_a5a => (simp only [List.getElem?_toArray, List.getElem?_cons_succ, List.getElem?_cons_zero]; rfl)
  case hi_a5b => (simp only [List.getElem?_toArray, List.getElem?_cons_succ, List.getElem?_cons_zero]; rfl)
  case kk_a5a =>
   go_simp
   refine (E0.out _ (Lka.out.below hHeld.out) (HENV.out.below hHeld.out)).mono ?_
   rintro e w7 ⟨rfl, hb2⟩
   have hZ : w1.heap.size ≤ w7.heap.size := (hHeld.out.trans (hb2.mono hHeld.out.size)).size
   refine hK.out _ _ ⟨hHeld.out.trans (hb2.mono hHeld.out.size)⟩ (fun hHeld => ?_)
   clear hK K
   try simp only [pt]
   refine' cm 6 (fun K hK => ?_)
   go_simp
   refine hK.out _ _ ⟨hHeld.out.alloc hHeld.out.size _⟩ (fun hHeld => ?_)
   clear hK K
   try simp only [pt]
   have HF : Below w1.heap.size w1 _ ∧ _ ∧ w1.heap.size ≤ w7.heap.size := ⟨hHeld.out, blk_new w7 (.cells #[.int .i64 0, .int .i64 0] 33), hZ⟩
   revert HF
   clear hZ hHeld
   generalize w7.heap.size = gT
   generalize World.alloc w7 _ = wT
   intro HF
   exact HX.out gT wT HF
  case kk_a5b =>
   go_simp
   have hg0 := blk_new wDa (.cells #[.int .i64 0, .int .i64 0] 33)
   have hg1 := hHeld.out.size
   refine hK.out _ _ ⟨hHeld.out.alloc hHeld.out.size _⟩ (fun hHeld => ?_)
   clear hK K
   try simp only [pt]
   refine' cm 5 (fun K hK => ?_)
   go_simp
   refine (E0.out _ (Lka.out.below hHeld.out) (HENV.out.below hHeld.out)).mono ?_
   rintro e w7 ⟨rfl, hb2⟩
   have hg2 := blk_below hg0 hb2
   refine hK.out _ _ ⟨hHeld.out.trans (hb2.mono hHeld.out.size)⟩ (fun hHeld => ?_)
   clear hK K
   try simp only [pt]
   exact HX.out _ w7 ⟨hHeld.out, hg2, hg1⟩
 case rea5 =>
  intro gA wA hF
  obtain ⟨bA, kA, geA⟩ := hF
  have hHeld : Aside0 (Below w1.heap.size w1 wA) := ⟨bA⟩
  have KA := Lib.hid kA
  have GEgA := Lib.hid geA
  have r0 := (blk_cell kA 0).trans rfl
  have r1 := (blk_cell kA 1).trans rfl
  have f0 := blk_frozen kA 0
  have f1 := blk_frozen kA 1
  clear bA kA geA
  refine' cm 7 (fun K hK => ?_)
  go_simp
  refine hK.out _ _ ⟨(hHeld.out.setCell (p := ⟨gA, 0, none⟩) GEgA.out _).setCell (p := ⟨gA, 1, none⟩) GEgA.out _⟩ (fun hHeld => ?_)
  clear hK K
  try simp only [pt]
  refine wpAnyH_done (by kernel_rfl) ?_ _
  have kgA := res_put (c := .int .i64 0) (d := .int .i64 rn) KA.out
  clear r0 r1 f0 f1 KA
  generalize World.setCell (World.setCell _ _ _) _ _ = wSgA at hHeld kgA ⊢
  have KgA := Lib.hid kgA
  have BgA := Lib.hid hHeld.out
  have q0 := (blk_cell KgA.out 0).trans rfl
  have q1 := (blk_cell KgA.out 1).trans rfl
  obtain ⟨⟨y0, y1, y2, y3⟩, -⟩ := HC.out _ BgA.out
  go_wp2_with fail
  clear y0 y1 y2 y3 q0 q1
  have HC2 := Lib.hid fun (w' : World) (hb : Below wSgA.heap.size wSgA w') => HC.out w' (BgA.out.trans (hb.mono BgA.out.size))
  have HEN2 := Lib.hid (HENV.out.below BgA.out)
  have Lkb2 := Lib.hid (Lkb.out.below BgA.out)
  refine wp_region_held_drew (S := fun w' => Aside0 (Below wSgA.heap.size wSgA w')) (by kernel_rfl) ?_ (fun hHeld => ?_)
  ·exact ⟨(Below.refl _ _).drew⟩
  generalize World.drew _ = wDb at hHeld ⊢
  have HCr := HC2
  refine' tk 0 ?_
  try simp only [pt]
  refine' tk 1 ?_
  try simp only [pt]
  refine' tk 2 ?_
  try simp only [pt]
  refine' tk 3 ?_
  try simp only [pt]
  refine' tk 4 ?_
  try simp only [pt]
  refine' share (F := fun g W' => Below wSgA.heap.size wSgA W' ∧ W'.heap[g]? = some (resO) ∧ wSgA.heap.size ≤ g) (fun hX => ?bob5) ?reb5
  case bob5 =>
   have HX := Lib.hid hX
   clear hX
   refine wpAnyH_ready (rs := [5, 6]) (by kernel_rfl) (by simp) ?_
   refine AllReadyH.cons (o := ?oi_b5a) ?hi_b5a (fun K hK => ?kk_b5a) (AllReadyH.cons (o := ?oi_b5b) ?hi_b5b (fun K hK => ?kk_b5b) AllReadyH.nil)
   case hi_b5a => (simp only [List.getElem?_toArray, List.getElem?_cons_succ, List.getElem?_cons_zero]; rfl)
   case hi_b5b => (simp only [List.getElem?_toArray, List.getElem?_cons_succ, List.getElem?_cons_zero]; rfl)
   case kk_b5a =>
    go_simp
    refine (E2.out _ (Lkb2.out.below hHeld.out) (HEN2.out.below hHeld.out)).mono ?_
    rintro e w7 ⟨rfl, hb2⟩
    have hZ : wSgA.heap.size ≤ w7.heap.size := (hHeld.out.trans (hb2.mono hHeld.out.size)).size
    refine hK.out _ _ ⟨hHeld.out.trans (hb2.mono hHeld.out.size)⟩ (fun hHeld => ?_)
    clear hK K
    try simp only [pt]
    refine' cm 6 (fun K hK => ?_)
    go_simp
    refine hK.out _ _ ⟨hHeld.out.alloc hHeld.out.size _⟩ (fun hHeld => ?_)
    clear hK K
    try simp only [pt]
    have HF : Below wSgA.heap.size wSgA _ ∧ _ ∧ wSgA.heap.size ≤ w7.heap.size := ⟨hHeld.out, blk_new w7 (.cells #[.int .i64 0, .int .i64 0] 33), hZ⟩
    revert HF
    clear hZ hHeld
    generalize w7.heap.size = gT
    generalize World.alloc w7 _ = wT
    intro HF
    exact HX.out gT wT HF
   case kk_b5b =>
    go_simp
    have hg0 := blk_new wDb (.cells #[.int .i64 0, .int .i64 0] 33)
    have hg1 := hHeld.out.size
    refine hK.out _ _ ⟨hHeld.out.alloc hHeld.out.size _⟩ (fun hHeld => ?_)
    clear hK K
    try simp only [pt]
    refine' cm 5 (fun K hK => ?_)
    go_simp
    refine (E2.out _ (Lkb2.out.below hHeld.out) (HEN2.out.below hHeld.out)).mono ?_
    rintro e w7 ⟨rfl, hb2⟩
    have hg2 := blk_below hg0 hb2
    refine hK.out _ _ ⟨hHeld.out.trans (hb2.mono hHeld.out.size)⟩ (fun hHeld => ?_)
    clear hK K
    try simp only [pt]
    exact HX.out _ w7 ⟨hHeld.out, hg2, hg1⟩
  case reb5 =>
   intro gB wA hF
   obtain ⟨bA, kA, geA⟩ := hF
   have hHeld : Aside0 (Below wSgA.heap.size wSgA wA) := ⟨bA⟩
   have KA := Lib.hid kA
   have GEgB := Lib.hid geA
   have r0 := (blk_cell kA 0).trans rfl
   have r1 := (blk_cell kA 1).trans rfl
   have f0 := blk_frozen kA 0
   have f1 := blk_frozen kA 1
   clear bA kA geA
   refine' cm 7 (fun K hK => ?_)
   go_simp
   refine hK.out _ _ ⟨(hHeld.out.setCell (p := ⟨gB, 0, none⟩) GEgB.out _).setCell (p := ⟨gB, 1, none⟩) GEgB.out _⟩ (fun hHeld => ?_)
   clear hK K
   try simp only [pt]
   refine wpAnyH_done (by kernel_rfl) ?_ _
   have kgB := res_put (c := .int .i64 0) (d := .int .i64 rb) KA.out
   clear r0 r1 f0 f1 KA
   generalize World.setCell (World.setCell _ _ _) _ _ = wSgB at hHeld kgB ⊢
   have KgB := Lib.hid kgB
   have BgB := Lib.hid hHeld.out
   have BAB := Lib.hid (BgA.out.trans (BgB.out.mono BgA.out.size))
   have kA2 := blk_below KgA.out BgB.out
   have s0 := (blk_cell KgB.out 0).trans rfl
   have s1 := (blk_cell KgB.out 1).trans rfl
   have q0 := (blk_cell kA2 0).trans rfl
   have q1 := (blk_cell kA2 1).trans rfl
   clear kA2
   obtain ⟨⟨y0, y1, y2, y3⟩, -⟩ := HC.out _ BAB.out
   go_wp2_with fail
   refine (HU.out _).mono ?_
   rintro e w8 ⟨rfl, hb8⟩
   have BgC := Lib.hid (BAB.out.trans (hb8.mono BAB.out.size))
   clear hb8 y0 y1 y2 y3 q0 q1 s0 s1
   have kr := HR.out _ BgC.out
   have KR := Lib.hid kr
   have r0 := (blk_cell kr 0).trans rfl
   have r1 := (blk_cell kr 1).trans rfl
   have f0 := blk_frozen kr 0
   have f1 := blk_frozen kr 1
   clear kr
   go_wp2_with fail
   refine bodyPost_ret (results_cell_row (fn := Tryz.f11) (p := 4) rfl _ _ (w.heap.size + 1 + 1) 33 #[.int .i64 ra2, .int .i64 rn2] (0, 0) _ rfl (res_put KR.out) Tryz.underlying33 rfl (by kernel_rfl)) rfl ?_
   exact ⟨by first | rfl | simp, below_two B1.out BgC.out⟩
end
end Go.Proofs.YtpljkcakijkklaaGreatDoor

end
section
namespace Go.Proofs.YtpljkcakijkklaaGreatDoor
set_option linter.unusedVariables false
set_option linter.unusedSimpArgs false
open Go.RowKit Go.Proofs.YtpljkcakijkklaaGreatDoor.Big Go.Proofs.YtpljkcakijkklaaGreatDoor.XRef01 Go.Proofs.YtpljkcakijkklaaGreatDoorW.PrintWords Go.Proofs.YtpljkcakijkklaaGreatDoorW.PrintLast Go.Proofs.YtpljkcakijkklaaGreatDoorW.PrintMore

theorem box3_new (w : World) (o1 o2 o3 : Obj) : (((w.alloc o1).alloc o2).alloc o3).heap[w.heap.size + 1 + 1]? = some o3 := by
 have := blk_new ((w.alloc o1).alloc o2) o3
 simpa using this
theorem below3 (w : World) (o1 o2 o3 : Obj) : Below w.heap.size w (((w.alloc o1).alloc o2).alloc o3) := below_alloc (below_alloc (below_alloc (Below.refl _ _) _) _) _
section
variable {op n m : Int} {v : En} {at_ : Option Addr} {cap : Nat} {w : World}
theorem rev_lit1 : Calls Tryz.prog 11 #[.agg #[.int .i64 1, .int .i64 n, .int .i64 m, .slice at_ 0 cap], .agg #[.int .i64 v.rep, .slice v.wa v.wins.length v.wcap, .slice v.ca v.crons.length v.ccap]] w fun e w' => e = .returned (.agg #[.int .i64 0, .int .i64 (n)]) ∧ Below w.heap.size w w' := by
 obtain ⟨w1, e1, b1, k1, k2, k3, s1⟩ := box3 w (.cells #[.int .i64 1, .int .i64 n, .int .i64 m, .slice at_ 0 cap] 24) (.cells #[.int .i64 v.rep, .slice v.wa v.wins.length v.wcap, .slice v.ca v.crons.length v.ccap] 28) (.cells #[.int .i64 0, .int .i64 0] 33)
 have HE := Lib.hid e1
 have B1 := Lib.hid b1
 have HK := Lib.hid fun (w' : World) (hb : Below w1.heap.size w1 w') => blk_below k3 hb
 obtain ⟨y0, y1, y2, y3⟩ := core_cells k1
 obtain ⟨x0, x1, x2⟩ := env_cells k2
 clear k1 k2 k3 e1 b1 s1
 go_enter Tryz.func11, Tryz.ntmps11
 go_wp2_with fail
 rw [HE.out]
 refine (rnum_calls n _).mono ?_
 rintro e w3 ⟨rfl, b3⟩
 have B3 := Lib.hid b3
 clear b3 y0 y1 y2 y3 x0 x1 x2
 have kr := HK.out w3 B3.out
 have KR := Lib.hid kr
 have r0 := (blk_cell kr 0).trans rfl
 have r1 := (blk_cell kr 1).trans rfl
 have f0 := blk_frozen kr 0
 have f1 := blk_frozen kr 1
 clear kr
 go_wp2_with fail
 refine bodyPost_ret (results_cell_row (fn := Tryz.f11) (p := 4) rfl _ _ (w.heap.size + 1 + 1) 33 #[.int .i64 0, .int .i64 n] (0, 0) _ rfl (res_put KR.out) Tryz.underlying33 rfl (by kernel_rfl)) rfl ?_
 exact ⟨rfl, below_two B1.out B3.out⟩
theorem rev_lit2 : Calls Tryz.prog 11 #[.agg #[.int .i64 2, .int .i64 n, .int .i64 m, .slice at_ 0 cap], .agg #[.int .i64 v.rep, .slice v.wa v.wins.length v.wcap, .slice v.ca v.crons.length v.ccap]] w fun e w' => e = .returned (.agg #[.int .i64 0, .int .i64 (n)]) ∧ Below w.heap.size w w' := by
 obtain ⟨w1, e1, b1, k1, k2, k3, s1⟩ := box3 w (.cells #[.int .i64 2, .int .i64 n, .int .i64 m, .slice at_ 0 cap] 24) (.cells #[.int .i64 v.rep, .slice v.wa v.wins.length v.wcap, .slice v.ca v.crons.length v.ccap] 28) (.cells #[.int .i64 0, .int .i64 0] 33)
 have HE := Lib.hid e1
 have B1 := Lib.hid b1
 have HK := Lib.hid fun (w' : World) (hb : Below w1.heap.size w1 w') => blk_below k3 hb
 obtain ⟨y0, y1, y2, y3⟩ := core_cells k1
 obtain ⟨x0, x1, x2⟩ := env_cells k2
 clear k1 k2 k3 e1 b1 s1
 go_enter Tryz.func11, Tryz.ntmps11
 go_wp2_with fail
 rw [HE.out]
 refine (rnum_calls n _).mono ?_
 rintro e w3 ⟨rfl, b3⟩
 have B3 := Lib.hid b3
 clear b3 y0 y1 y2 y3 x0 x1 x2
 have kr := HK.out w3 B3.out
 have KR := Lib.hid kr
 have r0 := (blk_cell kr 0).trans rfl
 have r1 := (blk_cell kr 1).trans rfl
 have f0 := blk_frozen kr 0
 have f1 := blk_frozen kr 1
 clear kr
 go_wp2_with fail
 refine bodyPost_ret (results_cell_row (fn := Tryz.f11) (p := 4) rfl _ _ (w.heap.size + 1 + 1) 33 #[.int .i64 0, .int .i64 n] (0, 0) _ rfl (res_put KR.out) Tryz.underlying33 rfl (by kernel_rfl)) rfl ?_
 exact ⟨rfl, below_two B1.out B3.out⟩
theorem rev_rep (hv : R64 v.rep) : Calls Tryz.prog 11 #[.agg #[.int .i64 3, .int .i64 n, .int .i64 m, .slice at_ 0 cap], .agg #[.int .i64 v.rep, .slice v.wa v.wins.length v.wcap, .slice v.ca v.crons.length v.ccap]] w fun e w' => e = .returned (.agg #[.int .i64 0, .int .i64 ((heldI (v.rep * 1000000)))]) ∧ Below w.heap.size w w' := by
 obtain ⟨r, hr⟩ : ∃ r, heldI (v.rep * 1000000) = r := ⟨_, rfl⟩
 have HS := Lib.hid (show capstanref01_Whole.f 1000 v.rep = some r by rw [← hr]; exact whole_ref 1000 (Nat.le_refl _) hv)
 rw [hr]
 clear hr hv
 obtain ⟨w1, e1, b1, k1, k2, k3, s1⟩ := box3 w (.cells #[.int .i64 3, .int .i64 n, .int .i64 m, .slice at_ 0 cap] 24) (.cells #[.int .i64 v.rep, .slice v.wa v.wins.length v.wcap, .slice v.ca v.crons.length v.ccap] 28) (.cells #[.int .i64 0, .int .i64 0] 33)
 have HE := Lib.hid e1
 have B1 := Lib.hid b1
 have HK := Lib.hid fun (w' : World) (hb : Below w1.heap.size w1 w') => blk_below k3 hb
 obtain ⟨y0, y1, y2, y3⟩ := core_cells k1
 obtain ⟨x0, x1, x2⟩ := env_cells k2
 clear k1 k2 k3 e1 b1 s1
 go_enter Tryz.func11, Tryz.ntmps11
 go_wp2_with fail
 rw [HE.out]
 refine (capstanref01_Whole.calls 1000 v.rep r _ HS.out).mono ?_
 rintro e w2 ⟨rfl, b2⟩
 have B2 := Lib.hid b2
 clear b2
 go_wp2_with fail
 refine (rnum_calls r _).mono ?_
 rintro e w3 ⟨rfl, b3⟩
 have B3 := Lib.hid (B2.out.trans (b3.mono B2.out.size))
 clear b3 y0 y1 y2 y3 x0 x1 x2
 have kr := HK.out w3 B3.out
 have KR := Lib.hid kr
 have r0 := (blk_cell kr 0).trans rfl
 have r1 := (blk_cell kr 1).trans rfl
 have f0 := blk_frozen kr 0
 have f1 := blk_frozen kr 1
 clear kr
 go_wp2_with fail
 refine bodyPost_ret (results_cell_row (fn := Tryz.f11) (p := 4) rfl _ _ (w.heap.size + 1 + 1) 33 #[.int .i64 0, .int .i64 r] (0, 0) _ rfl (res_put KR.out) Tryz.underlying33 rfl (by kernel_rfl)) rfl ?_
 exact ⟨rfl, below_two B1.out B3.out⟩
theorem rev_fail : Calls Tryz.prog 11 #[.agg #[.int .i64 6, .int .i64 n, .int .i64 m, .slice at_ 0 cap], .agg #[.int .i64 v.rep, .slice v.wa v.wins.length v.wcap, .slice v.ca v.crons.length v.ccap]] w fun e w' => e = .returned (.agg #[.int .i64 n, .int .i64 (0)]) ∧ Below w.heap.size w w' := by
 go_enter Tryz.func11, Tryz.ntmps11
 go_wp2_with fail
 refine bodyPost_ret (results_cell_row (fn := Tryz.f11) (p := 4) rfl _ _ (w.heap.size + 1 + 1) 33 #[.int .i64 n, .int .i64 0] (0, 0) _ rfl (box3_new _ _ _ _) Tryz.underlying33 rfl (by kernel_rfl)) rfl ?_
 exact ⟨rfl, below3 _ _ _ _⟩
theorem rev_cron {i : Nat} {b : Bool} (hi : v.crons[i]? = some b) (henv : EnvL w v) : Calls Tryz.prog 11 #[.agg #[.int .i64 5, .int .i64 (i : Int), .int .i64 m, .slice at_ 0 cap], .agg #[.int .i64 v.rep, .slice v.wa v.wins.length v.wcap, .slice v.ca v.crons.length v.ccap]] w fun e w' => e = .returned (.agg #[.int .i64 0, .int .i64 ((if b then 1 else 0))]) ∧ Below w.heap.size w w' := by
 obtain ⟨q, hq, hc⟩ := henv.2.2.2.2 i b hi
 have hlt : i < v.crons.length := (List.getElem?_eq_some_iff.1 hi).1
 have c0 : w.cell? (q.add i) = some (.bool b) := by
  have := cells_get hc 0 _ rfl
  rw [Addr.add_add] at this
  exact this
 have hblk : (q.add i).block < w.heap.size := World.block_lt_of_cell? w _ c0
 have n0 : ¬ (q.add i).block = w.heap.size := by omega
 have n1 : ¬ w.heap.size = (q.add i).block := by omega
 have n2 : (q.add i).block < w.heap.size := by omega
 have n3 : ¬ (q.add i).block = w.heap.size + 1 := by omega
 have n4 : ¬ w.heap.size + 1 = (q.add i).block := by omega
 have n5 : (q.add i).block < w.heap.size + 1 := by omega
 have n6 : ¬ (q.add i).block = w.heap.size + 2 := by omega
 have n7 : ¬ w.heap.size + 2 = (q.add i).block := by omega
 have n8 : (q.add i).block < w.heap.size + 2 := by omega
 have n9 : ¬ (q.add i).block = w.heap.size + 3 := by omega
 have n10 : ¬ w.heap.size + 3 = (q.add i).block := by omega
 have n11 : (q.add i).block < w.heap.size + 3 := by omega
 rw [hq]
 have q0 := eq_true (show (0 : Int) ≤ (i : Int) by omega)
 have q1 : ((i : Int) < (v.crons.length : Int)) = True := eq_true (by omega)
 have q2 : (i < v.crons.length) = True := eq_true hlt
 clear henv hi hc hq hlt
 obtain ⟨r, hr⟩ : ∃ r, (if b then (1 : Int) else 0) = r := ⟨_, rfl⟩
 have HR := Lib.hid hr
 rw [hr]
 clear hr
 obtain ⟨w1, e1, b1, k1, k2, k3, s1⟩ := box3 w (.cells #[.int .i64 5, .int .i64 (i : Int), .int .i64 m, .slice at_ 0 cap] 24) (.cells #[.int .i64 v.rep, .slice v.wa v.wins.length v.wcap, .slice (some q) v.crons.length v.ccap] 28) (.cells #[.int .i64 0, .int .i64 0] 33)
 have HE := Lib.hid e1
 have B1 := Lib.hid b1
 have HK := Lib.hid fun (w' : World) (hb : Below w1.heap.size w1 w') => blk_below k3 hb
 obtain ⟨y0, y1, y2, y3⟩ := core_cells k1
 obtain ⟨x0, x1, x2⟩ := env_cells k2
 clear k1 k2 k3 e1 b1 s1
 go_enter Tryz.func11, Tryz.ntmps11
 go_wp2_with fail
 rw [HE.out]
 refine (rtruth_calls b HR.out _).mono ?_
 rintro e w3 ⟨rfl, b3⟩
 have B3 := Lib.hid b3
 clear b3 y0 y1 y2 y3 x0 x1 x2
 have kr := HK.out w3 B3.out
 have KR := Lib.hid kr
 have r0 := (blk_cell kr 0).trans rfl
 have r1 := (blk_cell kr 1).trans rfl
 have f0 := blk_frozen kr 0
 have f1 := blk_frozen kr 1
 clear kr
 go_wp2_with fail
 refine bodyPost_ret (results_cell_row (fn := Tryz.f11) (p := 4) rfl _ _ (w.heap.size + 1 + 1) 33 #[.int .i64 0, .int .i64 r] (0, 0) _ rfl (res_put KR.out) Tryz.underlying33 rfl (by kernel_rfl)) rfl ?_
 exact ⟨rfl, below_two B1.out B3.out⟩
theorem rev_win_fine {i : Nat} {r x : Int} (hr : r = 0) (hi : v.wins[i]? = some (r, x)) (henv : EnvL w v) : Calls Tryz.prog 11 #[.agg #[.int .i64 4, .int .i64 (i : Int), .int .i64 m, .slice at_ 0 cap], .agg #[.int .i64 v.rep, .slice v.wa v.wins.length v.wcap, .slice v.ca v.crons.length v.ccap]] w fun e w' => e = .returned (.agg #[.int .i64 0, .int .i64 (x)]) ∧ Below w.heap.size w w' := by
 subst hr
 obtain ⟨-, -, q, hq, hc⟩ := henv.2.2.2.1 i (0, x) hi
 have hlt : i < v.wins.length := (List.getElem?_eq_some_iff.1 hi).1
 have c0 : w.cell? (q.add (i * 2)) = some (.int .i64 0) := by
  have := cells_get hc 0 _ rfl
  rw [Addr.add_add] at this
  exact this
 have c1 : w.cell? ⟨(q.add (i * 2)).block, (q.add (i * 2)).off + 1, none⟩ = some (.int .i64 x) := by
  rw [← add_field _ _ 1 (by omega)]
  have := cells_get hc 1 _ rfl
  rw [Addr.add_add] at this
  exact this
 have hblk : (q.add (i * 2)).block < w.heap.size := World.block_lt_of_cell? w _ c0
 have n0 : ¬ (q.add (i * 2)).block = w.heap.size := by omega
 have n1 : ¬ w.heap.size = (q.add (i * 2)).block := by omega
 have n2 : (q.add (i * 2)).block < w.heap.size := by omega
 have n3 : ¬ (q.add (i * 2)).block = w.heap.size + 1 := by omega
 have n4 : ¬ w.heap.size + 1 = (q.add (i * 2)).block := by omega
 have n5 : (q.add (i * 2)).block < w.heap.size + 1 := by omega
 have n6 : ¬ (q.add (i * 2)).block = w.heap.size + 2 := by omega
 have n7 : ¬ w.heap.size + 2 = (q.add (i * 2)).block := by omega
 have n8 : (q.add (i * 2)).block < w.heap.size + 2 := by omega
 have n9 : ¬ (q.add (i * 2)).block = w.heap.size + 3 := by omega
 have n10 : ¬ w.heap.size + 3 = (q.add (i * 2)).block := by omega
 have n11 : (q.add (i * 2)).block < w.heap.size + 3 := by omega
 rw [hq]
 have q0 := eq_true (show (0 : Int) ≤ (i : Int) by omega)
 have q1 : ((i : Int) < (v.wins.length : Int)) = True := eq_true (by omega)
 have q2 : (i < v.wins.length) = True := eq_true hlt
 clear henv hi hc hq hlt
 go_enter Tryz.func11, Tryz.ntmps11
 go_wp2_with fail
 refine bodyPost_ret (results_cell_row (fn := Tryz.f11) (p := 4) rfl _ _ (w.heap.size + 1 + 1) 33 #[.int .i64 0, .int .i64 x] (0, 0) _ rfl (box3_new _ _ _ _) Tryz.underlying33 rfl (by kernel_rfl)) rfl ?_
 exact ⟨rfl, below3 _ _ _ _⟩
theorem rev_win_stop {i : Nat} {r x : Int} (hr : ¬ r = 0) (hi : v.wins[i]? = some (r, x)) (henv : EnvL w v) : Calls Tryz.prog 11 #[.agg #[.int .i64 4, .int .i64 (i : Int), .int .i64 m, .slice at_ 0 cap], .agg #[.int .i64 v.rep, .slice v.wa v.wins.length v.wcap, .slice v.ca v.crons.length v.ccap]] w fun e w' => e = .returned (.agg #[.int .i64 r, .int .i64 (0)]) ∧ Below w.heap.size w w' := by
 have g1 : (r != 0) = true := by simpa using hr
 have g2 : (r == 0) = false := by simpa using hr
 clear hr
 obtain ⟨-, -, q, hq, hc⟩ := henv.2.2.2.1 i (r, x) hi
 have hlt : i < v.wins.length := (List.getElem?_eq_some_iff.1 hi).1
 have c0 : w.cell? (q.add (i * 2)) = some (.int .i64 r) := by
  have := cells_get hc 0 _ rfl
  rw [Addr.add_add] at this
  exact this
 have c1 : w.cell? ⟨(q.add (i * 2)).block, (q.add (i * 2)).off + 1, none⟩ = some (.int .i64 x) := by
  rw [← add_field _ _ 1 (by omega)]
  have := cells_get hc 1 _ rfl
  rw [Addr.add_add] at this
  exact this
 have hblk : (q.add (i * 2)).block < w.heap.size := World.block_lt_of_cell? w _ c0
 have n0 : ¬ (q.add (i * 2)).block = w.heap.size := by omega
 have n1 : ¬ w.heap.size = (q.add (i * 2)).block := by omega
 have n2 : (q.add (i * 2)).block < w.heap.size := by omega
 have n3 : ¬ (q.add (i * 2)).block = w.heap.size + 1 := by omega
 have n4 : ¬ w.heap.size + 1 = (q.add (i * 2)).block := by omega
 have n5 : (q.add (i * 2)).block < w.heap.size + 1 := by omega
 have n6 : ¬ (q.add (i * 2)).block = w.heap.size + 2 := by omega
 have n7 : ¬ w.heap.size + 2 = (q.add (i * 2)).block := by omega
 have n8 : (q.add (i * 2)).block < w.heap.size + 2 := by omega
 have n9 : ¬ (q.add (i * 2)).block = w.heap.size + 3 := by omega
 have n10 : ¬ w.heap.size + 3 = (q.add (i * 2)).block := by omega
 have n11 : (q.add (i * 2)).block < w.heap.size + 3 := by omega
 rw [hq]
 have q0 := eq_true (show (0 : Int) ≤ (i : Int) by omega)
 have q1 : ((i : Int) < (v.wins.length : Int)) = True := eq_true (by omega)
 have q2 : (i < v.wins.length) = True := eq_true hlt
 clear henv hi hc hq hlt
 go_enter Tryz.func11, Tryz.ntmps11
 go_wp2_with fail
 refine bodyPost_ret (results_cell_row (fn := Tryz.f11) (p := 4) rfl _ _ (w.heap.size + 1 + 1) 33 #[.int .i64 r, .int .i64 0] (0, 0) _ rfl (box3_new _ _ _ _) Tryz.underlying33 rfl (by kernel_rfl)) rfl ?_
 exact ⟨rfl, below3 _ _ _ _⟩
end
end Go.Proofs.YtpljkcakijkklaaGreatDoor

end
section
namespace Go.Proofs.YtpljkcakijkklaaGreatDoor
set_option linter.unusedVariables false
set_option linter.unusedSimpArgs false
open Go.RowKit Go.Proofs.YtpljkcakijkklaaGreatDoorW.PrintWords Go.Proofs.YtpljkcakijkklaaGreatDoorW.PrintLast Go.Proofs.YtpljkcakijkklaaGreatDoorW.PrintMore

def rsA : Rs → Int
 | .num _ => 0
 | .stop q => q
def rsN : Rs → Int
 | .num n => n
 | .stop _ => 0
theorem ceil_in {a : Int} (ha : R64 a) : heldI (-(-a / 1000000)) = -(-a / 1000000) := by
 unfold R64 at ha
 unfold heldI
 rw [if_neg (by omega), if_neg (by omega)]
theorem floor_in {a : Int} (ha : R64 a) : heldI (a / 1000000) = a / 1000000 := by
 unfold R64 at ha
 unfold heldI
 rw [if_neg (by omega), if_neg (by omega)]
theorem run_all {op n m a : Int} {p : Option Addr} {len cap : Nat} (hop : op = 7 ∨ op = 8 ∨ op = 9 ∨ op = 10 ∨ op = 11 ∨ op = 12 ∨ op = 13) (ha : R64 a) (hn : R64 n) (hm : R64 m) (h9 : op = 9 → a = 0 ∨ a = 1) (W : World) :
  Calls Tryz.prog 31 #[.agg #[.int .i64 op, .int .i64 n, .int .i64 m, .slice p len cap], .int .i64 a] W fun e w' => e = .returned (.agg #[.int .i64 0, .int .i64 (unE op n m a)]) ∧ Below W.heap.size W w' := by
 rcases hop with rfl | rfl | rfl | rfl | rfl | rfl | rfl
 ·exact run_7 W
 ·exact run_8 ha W
 ·have e : unE 9 n m a = (if (a == 0) then (1 : Int) else 0) := by
   show wrap64 (1 - a) = _
   rcases h9 rfl with rfl | rfl
   ·have e : wrap64 (1 - 0) = 1 := by unfold wrap64; omega
    rw [e]
    rfl
   ·have e : wrap64 (1 - 1) = 0 := by unfold wrap64; omega
    rw [e]
    rfl
  rw [e]
  exact run_9 W
 ·exact run_10 ha W
 ·have e : unE 11 n m a = heldI (-(-a / 1000000) * 1000000) := by
   show heldI (heldI (-(-a / 1000000)) * 1000000) = _
   rw [ceil_in ha]
  rw [e]
  exact run_11 ha W
 ·have e : unE 12 n m a = heldI (a / 1000000 * 1000000) := by
   show heldI (heldI (a / 1000000) * 1000000) = _
   rw [floor_in ha]
  rw [e]
  exact run_12 ha W
 ·exact run_13 ha hn hm W
theorem rbin_all {op a b : Int} (hop : 14 ≤ op ∧ op ≤ 24) (ha : R64 a) (hb : R64 b) (W : World) :
  Calls Tryz.prog 32 #[.int .i64 op, .int .i64 a, .int .i64 b] W fun e w' => e = .returned (.agg #[.int .i64 (rsA (binE op a b)), .int .i64 (rsN (binE op a b))]) ∧ Below W.heap.size W w' := by
 have : op = 14 ∨ op = 15 ∨ op = 16 ∨ op = 17 ∨ op = 18 ∨ op = 19 ∨ op = 20 ∨ op = 21 ∨ op = 22 ∨ op = 23 ∨ op = 24 := by omega
 have nz : ∀ k : Int, ¬ k = 17 → binE k a b = .num (fnS k a b) := fun k hk => by
  unfold binE
  rw [if_neg (fun h => hk h.1)]
 have dd (c : Prop) [Decidable c] : (if (decide c) = true then (1 : Int) else 0) = if c then 1 else 0 := by
  by_cases h : c <;> simp [h]
 rcases this with rfl | rfl | rfl | rfl | rfl | rfl | rfl | rfl | rfl | rfl | rfl
 ·rw [nz _ (by decide)]; exact rbin_14 ha hb W
 ·rw [nz _ (by decide)]; exact rbin_15 ha hb W
 ·rw [nz _ (by decide)]; exact rbin_16 ha hb W
 ·by_cases h0 : b = 0
  ·have e : binE 17 a b = .stop 2 := by
    unfold binE
    rw [if_pos ⟨rfl, h0⟩]
   rw [e]
   exact rbin_17z ha hb h0 W
  ·have e : binE 17 a b = .num (heldI (quotI a b)) := by
    unfold binE
    rw [if_neg (fun h => h0 h.2)]
    show Rs.num (if b = 0 then 0 else heldI (quotI a b)) = _
    rw [if_neg h0]
   rw [e]
   exact rbin_17 ha hb h0 W
 ·rw [nz _ (by decide)]
  show Calls _ _ _ _ fun e w' => e = .returned (.agg #[.int .i64 0, .int .i64 (if a < b then 1 else 0)]) ∧ _
  rw [← dd]; exact rbin_18 W
 ·rw [nz _ (by decide)]
  show Calls _ _ _ _ fun e w' => e = .returned (.agg #[.int .i64 0, .int .i64 (if a ≤ b then 1 else 0)]) ∧ _
  rw [← dd]; exact rbin_19 W
 ·rw [nz _ (by decide)]
  show Calls _ _ _ _ fun e w' => e = .returned (.agg #[.int .i64 0, .int .i64 (if a = b then 1 else 0)]) ∧ _
  have e : (if (a == b) = true then (1 : Int) else 0) = if a = b then 1 else 0 := by
   by_cases h : a = b <;> simp [h]
  rw [← e]; exact rbin_20 W
 ·rw [nz _ (by decide)]
  show Calls _ _ _ _ fun e w' => e = .returned (.agg #[.int .i64 0, .int .i64 (if b < a then 1 else 0)]) ∧ _
  rw [← dd]; exact rbin_21 W
 ·rw [nz _ (by decide)]
  show Calls _ _ _ _ fun e w' => e = .returned (.agg #[.int .i64 0, .int .i64 (if b ≤ a then 1 else 0)]) ∧ _
  rw [← dd]; exact rbin_22 W
 ·rw [nz _ (by decide)]; exact rbin_23 W
 ·rw [nz _ (by decide)]; exact rbin_24 W

def REvalG (v : En) (c : Cr) : Prop := ∀ w0, Lies w0 c → EnvL w0 v → ∀ x, sortS v.wins.length v.crons.length 256 c = x → (x = 1 ∨ x = 2) → REvalC v c (rsA (evalS v c)) (rsN (evalS v c))

theorem revG_leaf {v : En} {op n m : Int} {at_ : Option Addr} {cap : Nat} : REvalG v (.node op n m at_ cap []) := by
 intro w0 hl henv x hx h12
 rw [sortS_eq] at hx
 have hx : leafS v.wins.length v.crons.length op n m = x := hx
 have e : evalS v (.node op n m at_ cap []) = leafE v op n := by rw [evalS]
 rw [e]
 have hn : R64 n := hl.ints.2.1
 rcases leafS_inv hx h12 with ⟨rfl, rfl⟩ | ⟨rfl, h, rfl⟩ | ⟨rfl, rfl⟩ | ⟨rfl, h0, h1, rfl⟩ | ⟨rfl, h0, h1, rfl⟩ | ⟨rfl, h1, h3⟩
 ·exact fun W hW hE => rev_lit1
 ·exact fun W hW hE => rev_lit2
 ·exact fun W hW hE => rev_rep hE.1
 ·obtain ⟨i, rfl⟩ := Int.eq_ofNat_of_zero_le h0
  have hi : i < v.wins.length := by omega
  obtain ⟨⟨r, y⟩, hr⟩ : ∃ z, v.wins[i]? = some z := ⟨_, List.getElem?_eq_getElem hi⟩
  have el : leafE v 4 (i : Int) = if r = 0 then .num y else .stop r := by
   unfold leafE
   rw [if_neg (by decide), if_neg (by decide), if_pos rfl]
   simp only [Int.toNat_natCast, hr]
  rw [el]
  by_cases h : r = 0
  ·rw [if_pos h]
   exact fun W hW hE => rev_win_fine h hr hE
  ·rw [if_neg h]
   exact fun W hW hE => rev_win_stop h hr hE
 ·obtain ⟨i, rfl⟩ := Int.eq_ofNat_of_zero_le h0
  have hi : i < v.crons.length := by omega
  obtain ⟨b, hb⟩ : ∃ z, v.crons[i]? = some z := ⟨_, List.getElem?_eq_getElem hi⟩
  have el : leafE v 5 (i : Int) = .num (if b then 1 else 0) := by
   unfold leafE
   rw [if_neg (by decide), if_neg (by decide), if_neg (by decide), if_pos rfl]
   simp only [Int.toNat_natCast, hb]
  rw [el]
  exact fun W hW hE => rev_cron hb hE
 ·have el : leafE v 6 n = .stop n := by
   unfold leafE
   rw [if_neg (by decide), if_neg (by decide), if_neg (by decide), if_neg (by decide)]
  rw [el]
  exact fun W hW hE => rev_fail

theorem revG_one {v : En} {op n m : Int} {at_ : Option Addr} {cap : Nat} {k : Cr} (ih : REvalG v k) : REvalG v (.node op n m at_ cap [k]) := by
 intro w0 hl henv x hx h12
 rw [sortS_eq] at hx
 have hx : oneS 256 op n m (sortS v.wins.length v.crons.length 256 k) = x := hx
 obtain ⟨p, rfl⟩ : ∃ p, at_ = some p := by
  obtain ⟨b, hb, -⟩ := hl.kids.cells (i := 0) (k := k) rfl
  exact ⟨b, hb⟩
 have inv := oneS_inv hx h12
 simp only [Cr.op_node, Cr.n_node, Cr.m_node] at inv
 have hk : sortS v.wins.length v.crons.length 256 k = 1 ∨ sortS v.wins.length v.crons.length 256 k = 2 := by omega
 obtain ⟨gk, -⟩ := eval_good v k w0 (hl.kid (by simp)) henv _ rfl hk
 have ek := ih w0 (hl.kid (by simp)) henv _ rfl hk
 have hop : op = 7 ∨ op = 8 ∨ op = 9 ∨ op = 10 ∨ op = 11 ∨ op = 12 ∨ op = 13 := by
  rcases inv with h | h | h | h
  ·exact .inl h.1
  ·have := h.1
   omega
  ·have := h.1
   omega
  ·have := h.1
   omega
 have h6 : 6 < op := by omega
 have h25 : ¬ op = 25 := by omega
 have h26 : ¬ op = 26 := by omega
 have h27 : ¬ op = 27 := by omega
 have h28 : ¬ op = 28 := by omega
 have e : evalS v (.node op n m (some p) cap [k]) = (match evalS v k with | .stop r => .stop r | .num a => .num (unE op n m a)) := by rw [evalS]; first | done | rfl
 rw [e]
 cases hev : evalS v k with
 | stop q =>
  rw [hev] at gk ek
  exact fun W hW hE => rev_stop h6 h27 gk.2 rfl hW hE ek
 | num a =>
  rw [hev] at gk ek
  have ha : R64 a := gk.1
  refine fun W hW hE => rev_un h6 h25 h26 h27 h28 (fun W => run_all hop ha hl.ints.2.1 hl.ints.2.2 (fun h9 => ?_) W) hW hE ek
  rcases inv with h | h | h | h
  ·omega
  ·omega
  ·exact gk.2 h.2.1
  ·omega

theorem revG_three {v : En} {op n m : Int} {at_ : Option Addr} {cap : Nat} {ka kb kc : Cr} (ia : REvalG v ka) (ib : REvalG v kb) (ic : REvalG v kc) : REvalG v (.node op n m at_ cap [ka, kb, kc]) := by
 intro w0 hl henv x hx h12
 rw [sortS_eq] at hx
 have hx : moreS (sortS v.wins.length v.crons.length 256) op n m [ka, kb, kc] = x := hx
 obtain ⟨p, rfl⟩ : ∃ p, at_ = some p := by
  obtain ⟨b, hb, -⟩ := hl.kids.cells (i := 0) (k := ka) rfl
  exact ⟨b, hb⟩
 rcases moreS_inv hx h12 with ⟨rfl, a', b', c', e3, h1, h2, h3⟩ | ⟨a', b', e2, -⟩
 ·injection e3 with e3 e4
  injection e4 with e4 e5
  injection e5 with e5 e6
  subst e3 e4 e5
  obtain ⟨ga, -⟩ := eval_good v ka w0 (hl.kid (by simp)) henv _ rfl (.inr h1)
  have ea := ia w0 (hl.kid (by simp)) henv _ rfl (.inr h1)
  have eb := ib w0 (hl.kid (by simp)) henv x h2 h12
  have ec := ic w0 (hl.kid (by simp)) henv x h3 h12
  have e : evalS v (.node 28 n m (some p) cap [ka, kb, kc]) = (match evalS v ka with | .stop r => .stop r | .num a => if a = 1 then evalS v kb else evalS v kc) := by rw [evalS]; first | done | rfl
  rw [e]
  cases hev : evalS v ka with
  | stop q =>
   rw [hev] at ga ea
   exact fun W hW hE => rev_stop (op := 28) (by decide) (by decide) ga.2 rfl hW hE ea
  | num a =>
   rw [hev] at ga ea
   simp only
   by_cases h0 : a = 1
   ·rw [if_pos h0]
    subst h0
    exact fun W hW hE => rev_if eb hW hE ea
   ·rw [if_neg h0]
    exact fun W hW hE => rev_else h0 ec hW hE ea
 ·cases e2

theorem revG_two {v : En} {op n m : Int} {at_ : Option Addr} {cap : Nat} {ka kb : Cr} (ia : REvalG v ka) (ib : REvalG v kb) : REvalG v (.node op n m at_ cap [ka, kb]) := by
 intro w0 hl henv x hx h12
 rw [sortS_eq] at hx
 have hx : moreS (sortS v.wins.length v.crons.length 256) op n m [ka, kb] = x := hx
 obtain ⟨p, rfl⟩ : ∃ p, at_ = some p := by
  obtain ⟨b, hb, -⟩ := hl.kids.cells (i := 0) (k := ka) rfl
  exact ⟨b, hb⟩
 rcases moreS_inv hx h12 with ⟨-, a', b', c', e3, -⟩ | ⟨a', b', e2, inv⟩
 ·cases e3
 ·injection e2 with e2 e3
  injection e3 with e3 e4
  subst e2 e3
  simp only [Cr.op_node] at inv
  have hsa : sortS v.wins.length v.crons.length 256 ka = 1 ∨ sortS v.wins.length v.crons.length 256 ka = 2 := by omega
  have hsb : sortS v.wins.length v.crons.length 256 kb = 1 ∨ sortS v.wins.length v.crons.length 256 kb = 2 := by omega
  obtain ⟨ga, -⟩ := eval_good v ka w0 (hl.kid (by simp)) henv _ rfl hsa
  obtain ⟨gb, -⟩ := eval_good v kb w0 (hl.kid (by simp)) henv _ rfl hsb
  have ea := ia w0 (hl.kid (by simp)) henv _ rfl hsa
  have eb := ib w0 (hl.kid (by simp)) henv _ rfl hsb
  have h6 : 6 < op := by omega
  have e : evalS v (.node op n m (some p) cap [ka, kb]) = (match evalS v ka with
   | .stop r => if op = 27 then evalS v kb else .stop r
   | .num a => if op = 27 then .num a else if op = 25 then (if a = 0 then .num 0 else evalS v kb) else if op = 26 then (if a = 1 then .num 1 else evalS v kb)
    else match evalS v kb with
     | .stop r => .stop r
     | .num b => binE op a b) := by rw [evalS]; first | done | rfl
  rw [e]
  cases hev : evalS v ka with
  | stop q =>
   rw [hev] at ga ea
   simp only
   by_cases h27 : op = 27
   ·subst h27
    rw [if_pos rfl]
    exact fun W hW hE => rev_either ga.2 eb hW hE ea
   ·rw [if_neg h27]
    exact fun W hW hE => rev_stop h6 h27 ga.2 rfl hW hE ea
  | num a =>
   rw [hev] at ga ea
   have ha : R64 a := ga.1
   simp only
   by_cases h27 : op = 27
   ·subst h27
    rw [if_pos rfl]
    exact fun W hW hE => rev_either_num hW hE ea
   ·rw [if_neg h27]
    by_cases h25 : op = 25
    ·subst h25
     rw [if_pos rfl]
     by_cases h0 : a = 0
     ·rw [if_pos h0]
      subst h0
      exact fun W hW hE => rev_and_no hW hE ea
     ·rw [if_neg h0]
      exact fun W hW hE => rev_and h0 eb hW hE ea
    ·rw [if_neg h25]
     by_cases h26 : op = 26
     ·subst h26
      rw [if_pos rfl]
      by_cases h0 : a = 1
      ·rw [if_pos h0]
       subst h0
       exact fun W hW hE => rev_or_yes hW hE ea
      ·rw [if_neg h0]
       exact fun W hW hE => rev_or h0 eb hW hE ea
     ·rw [if_neg h26]
      have h28 : ¬ op = 28 := by omega
      have h24 : 14 ≤ op ∧ op ≤ 24 := by omega
      cases hevb : evalS v kb with
      | stop q =>
       rw [hevb] at gb eb
       exact fun W hW hE => rev_bin_stop h6 h25 h26 h27 h28 gb.2 eb hW hE ea
      | num b =>
       rw [hevb] at gb eb
       exact fun W hW hE => rev_bin h6 h25 h26 h27 h28 eb (fun W => rbin_all h24 ha gb.1 W) hW hE ea

theorem reval_good (v : En) (c : Cr) : REvalG v c := by
 refine Cr.ind (P := REvalG v) (fun c ih => ?_) c
 obtain ⟨op, n, m, at_, cap, l⟩ := c
 match l, ih with
 | [], _ => exact revG_leaf
 | [k], ih => exact revG_one (ih k (by simp))
 | [a, b], ih => exact revG_two (ih a (by simp)) (ih b (by simp))
 | [a, b, c], ih => exact revG_three (ih a (by simp)) (ih b (by simp)) (ih c (by simp))
 | a :: b :: c :: d :: t, ih =>
  intro w0 hl henv x hx h12
  rw [sortS_eq] at hx
  have hx : moreS (sortS v.wins.length v.crons.length 256) op n m (a :: b :: c :: d :: t) = x := hx
  rcases moreS_inv hx h12 with ⟨-, a', b', c', e3, -⟩ | ⟨a', b', e2, -⟩
  ·cases e3
  ·cases e2
end Go.Proofs.YtpljkcakijkklaaGreatDoor

end
section
namespace Go.Proofs.YtpljkcakijkklaaGreatDoor
set_option linter.unusedVariables false
set_option linter.unusedSimpArgs false
open Go.RowKit Go.Proofs.YtpljkcakijkklaaGreatDoorW.PrintWords Go.Proofs.YtpljkcakijkklaaGreatDoorW.PrintLast Go.Proofs.YtpljkcakijkklaaGreatDoorW.PrintMore

theorem evalR_rs {v : En} {c : Cr} (h : sortS v.wins.length v.crons.length 256 c = 1 ∨ sortS v.wins.length v.crons.length 256 c = 2) : EvalR v c = (rsA (evalS v c), rsN (evalS v c), 0) := by
 unfold EvalR
 rw [if_pos h]
 cases evalS v c <;> rfl
theorem evalR_no {v : En} {c : Cr} (h : ¬ (sortS v.wins.length v.crons.length 256 c = 1 ∨ sortS v.wins.length v.crons.length 256 c = 2)) : EvalR v c = (0, 0, 1) := by
 unfold EvalR
 rw [if_neg h]
theorem res_cells {w : World} {g : Nat} {a b : Int} (h : w.heap[g]? = some (.cells #[.int .i64 a, .int .i64 b] 33 (0, 0))) : w.cell? ⟨g, 0, none⟩ = some (.int .i64 a) ∧ w.cell? ⟨g, 1, none⟩ = some (.int .i64 b) :=
 ⟨(blk_cell h 0).trans rfl, (blk_cell h 1).trans rfl⟩
theorem CoreEvals_lies {c : Cr} {v : En} {w : World} (hl : Lies w c) (hv : EnvL w v) (ht : ErrT w) :
  Calls Tryz.prog 3 #[.agg #[.int .i64 c.op, .int .i64 c.n, .int .i64 c.m, .slice c.at_ c.kids.length c.cap], .agg #[.int .i64 v.rep, .slice v.wa v.wins.length v.wcap, .slice v.ca v.crons.length v.ccap]] w fun e w' => e = .returned (.bool true) ∧ Below w.heap.size w w' := by
 obtain ⟨w1, e1, b1, k1, k2, s1⟩ := box2 w (.cells #[.int .i64 c.op, .int .i64 c.n, .int .i64 c.m, .slice c.at_ c.kids.length c.cap] 24) (.cells #[.int .i64 v.rep, .slice v.wa v.wins.length v.wcap, .slice v.ca v.crons.length v.ccap] 28)
 have HE := Lib.hid e1
 have B1 := Lib.hid b1
 have HL := Lib.hid (hl.below b1)
 have HV := Lib.hid (hv.below b1)
 have HT := Lib.hid (ht.below b1)
 have HC := Lib.hid fun (w' : World) (hb : Below w1.heap.size w1 w') => (show _ ∧ _ from ⟨core_cells (blk_below k1 hb), env_cells (blk_below k2 hb)⟩)
 obtain ⟨sa, hsa⟩ : ∃ x, decide (c.total ≤ 4096) = x := ⟨_, rfl⟩
 have HSA := Lib.hid hsa
 clear hl hv ht k1 k2 e1 b1 s1 hsa
 go_enter Tryz.func3, Tryz.ntmps3
 go_wp2_with fail
 rw [HE.out]
 refine (awake15 w1 HT.out).mono ?_
 rintro e w2 ⟨rfl, b2⟩
 have B2 := Lib.hid b2
 obtain ⟨⟨y0, y1, y2, y3⟩, ⟨x0, x1, x2⟩⟩ := HC.out w2 b2
 clear b2
 go_wp2_with fail
 refine (small_calls (HL.out.below B2.out) HSA.out).mono ?_
 rintro e w3 ⟨rfl, b3⟩
 have B3 := Lib.hid (B2.out.trans (b3.mono B2.out.size))
 clear b3 y0 y1 y2 y3 x0 x1 x2
 cases sa with
 | false =>
  go_wp2_with fail
  refine (awake15 w3 (HT.out.below B3.out)).mono ?_
  rintro e w4 ⟨rfl, b4⟩
  go_wp2_with fail
  go_ret
  exact ⟨rfl, B1.out.trans ((B3.out.trans (b4.mono B3.out.size)).mono B1.out.size)⟩
 | true =>
  obtain ⟨⟨y0, y1, y2, y3⟩, ⟨x0, x1, x2⟩⟩ := HC.out w3 B3.out
  obtain ⟨⟨ra, rb, re⟩, hR⟩ : ∃ R, EvalR v c = R := ⟨_, rfl⟩
  have hEv := Eval_calls (HL.out.below B3.out) (HV.out.below B3.out) (HT.out.below B3.out)
  rw [hR] at hEv
  have HEv := Lib.hid hEv
  have HR := Lib.hid hR
  clear hR hEv
  go_wp2_with fail
  refine HEv.out.mono ?_
  rintro e w4 ⟨rfl, b4⟩
  have B4 := Lib.hid (B3.out.trans (b4.mono B3.out.size))
  clear b4 y0 y1 y2 y3 x0 x1 x2 HEv
  obtain ⟨⟨y0, y1, y2, y3⟩, ⟨x0, x1, x2⟩⟩ := HC.out w4 B4.out
  have l0 : w.heap.size < w4.heap.size := World.block_lt_of_cell? w4 _ y0
  have l1 : w.heap.size + 1 < w4.heap.size := World.block_lt_of_cell? w4 _ x0
  have n0 : ¬ w.heap.size = w4.heap.size := by omega
  have n1 : ¬ w4.heap.size = w.heap.size := by omega
  have n2 : ¬ w.heap.size + 1 = w4.heap.size := by omega
  have n3 : ¬ w4.heap.size = w.heap.size + 1 := by omega
  go_wp2_with fail
  clear y0 y1 y2 y3 x0 x1 x2 l0 l1 n0 n1 n2 n3
  obtain ⟨w5, e5, b5, k5, s5⟩ := box1 w4 (.cells #[.int .i64 ra, .int .i64 rb] 33)
  have HE5 := Lib.hid e5
  have B5 := Lib.hid (B4.out.trans (b5.mono B4.out.size))
  obtain ⟨gR, hgR⟩ : ∃ g, w4.heap.size = g := ⟨_, rfl⟩
  have HG := Lib.hid hgR
  rw [hgR] at k5
  have K5 := Lib.hid k5
  have HC5 := Lib.hid fun (w' : World) (hb : Below w5.heap.size w5 w') => (show _ ∧ _ from ⟨HC.out w' (B5.out.trans (hb.mono B5.out.size)), res_cells (blk_below K5.out hb)⟩)
  clear b5 k5 s5 e5 hgR
  rw [HE5.out, HG.out]
  refine (rsort_calls v.wins.length v.crons.length 256 c _ (HL.out.below B5.out)).mono ?_
  obtain ⟨s, hs⟩ : ∃ s, sortS v.wins.length v.crons.length 256 c = s := ⟨_, rfl⟩
  rw [hs]
  have HS := Lib.hid hs
  clear hs
  rintro e w6 ⟨rfl, b6⟩
  have B6 := Lib.hid b6
  clear b6
  by_cases h12 : s = 1 ∨ s = 2
  ·have hr := evalR_rs (v := v) (c := c) (by rw [HS.out]; exact h12)
   have hcall := reval_good v c w6 (HL.out.below (B5.out.trans (B6.out.mono B5.out.size))) (HV.out.below (B5.out.trans (B6.out.mono B5.out.size))) s HS.out h12
   rw [HR.out] at hr
   simp only [Prod.mk.injEq] at hr
   obtain ⟨hra, hrb, rfl⟩ := hr
   rw [← hra, ← hrb] at hcall
   have HRV := Lib.hid hcall
   have hbr : (s != 1) = false ∨ (s != 1) = true ∧ (s != 2) = false := by
    rcases h12 with rfl | rfl
    ·exact .inl rfl
    ·exact .inr ⟨rfl, rfl⟩
   clear hra hrb h12 hcall
   obtain ⟨⟨⟨y0, y1, y2, y3⟩, ⟨x0, x1, x2⟩⟩, ⟨z0, z1⟩⟩ := HC5.out w6 B6.out
   have HC6 := Lib.hid fun (w' : World) (hb : Below w6.heap.size w6 w') => HC5.out w' (B6.out.trans (hb.mono B6.out.size))
   have L6 := Lib.hid (HL.out.below (B5.out.trans (B6.out.mono B5.out.size)))
   have V6 := Lib.hid (HV.out.below (B5.out.trans (B6.out.mono B5.out.size)))
   rcases hbr with n1 | ⟨n1, n2⟩
   ·go_wp2_with fail
    clear y0 y1 y2 y3 x0 x1 x2 z0 z1
    refine wp_region_held_drew (S := fun w' => Aside0 (Below w6.heap.size w6 w')) (by kernel_rfl) ?_ (fun hHeld => ?_)
    ·exact ⟨(Below.refl _ _).drew⟩
    generalize World.drew _ = wDa at hHeld ⊢
    have HCr := HC6
    refine' tk 0 ?_
    try simp only [pt]
    refine' tk 1 ?_
    try simp only [pt]
    refine' tk 2 ?_
    try simp only [pt]
    refine' tk 3 ?_
    try simp only [pt]
    refine' tk 4 ?_
    try simp only [pt]
    refine' tk 5 ?_
    try simp only [pt]
    refine' cm 6 (fun K hK => ?_)
    go_simp
    refine (HRV.out _ (L6.out.below hHeld.out) (V6.out.below hHeld.out)).mono ?_
    rintro e w7 ⟨rfl, hb2⟩
    refine hK.out _ _ ⟨hHeld.out.trans (hb2.mono hHeld.out.size)⟩ (fun hHeld => ?_)
    clear hK K
    try simp only [pt]
    refine' tk 7 ?_
    try simp only [pt]
    refine' tk 8 ?_
    try simp only [pt]
    refine' tk 9 ?_
    try simp only [pt]
    refine wpAnyH_done (by kernel_rfl) ?_ _
    go_wp2_with fail
    go_ret
    exact ⟨by first | rfl | simp, B1.out.trans ((B5.out.trans ((B6.out.trans (hHeld.out.mono B6.out.size)).mono B5.out.size)).mono B1.out.size)⟩
   ·go_wp2_with fail
    clear y0 y1 y2 y3 x0 x1 x2 z0 z1
    refine wp_region_held_drew (S := fun w' => Aside0 (Below w6.heap.size w6 w')) (by kernel_rfl) ?_ (fun hHeld => ?_)
    ·exact ⟨(Below.refl _ _).drew⟩
    generalize World.drew _ = wDb at hHeld ⊢
    have HCr := HC6
    refine' tk 0 ?_
    try simp only [pt]
    refine' tk 1 ?_
    try simp only [pt]
    refine' tk 2 ?_
    try simp only [pt]
    refine' tk 3 ?_
    try simp only [pt]
    refine' tk 4 ?_
    try simp only [pt]
    refine' tk 5 ?_
    try simp only [pt]
    refine' cm 6 (fun K hK => ?_)
    go_simp
    refine (HRV.out _ (L6.out.below hHeld.out) (V6.out.below hHeld.out)).mono ?_
    rintro e w7 ⟨rfl, hb2⟩
    refine hK.out _ _ ⟨hHeld.out.trans (hb2.mono hHeld.out.size)⟩ (fun hHeld => ?_)
    clear hK K
    try simp only [pt]
    refine' tk 7 ?_
    try simp only [pt]
    refine' tk 8 ?_
    try simp only [pt]
    refine' tk 9 ?_
    try simp only [pt]
    refine wpAnyH_done (by kernel_rfl) ?_ _
    go_wp2_with fail
    go_ret
    exact ⟨by first | rfl | simp, B1.out.trans ((B5.out.trans ((B6.out.trans (hHeld.out.mono B6.out.size)).mono B5.out.size)).mono B1.out.size)⟩
  ·have hr := evalR_no (v := v) (c := c) (by rw [HS.out]; exact h12)
   rw [HR.out] at hr
   simp only [Prod.mk.injEq] at hr
   obtain ⟨rfl, rfl, rfl⟩ := hr
   have n1 : (s != 1) = true := by simpa using fun h => h12 (.inl h)
   have n2 : (s != 2) = true := by simpa using fun h => h12 (.inr h)
   clear h12
   obtain ⟨-, ⟨z0, z1⟩⟩ := HC5.out w6 B6.out
   go_wp2_with fail
   go_ret
   exact ⟨by first | rfl | simp, B1.out.trans ((B5.out.trans (B6.out.mono B5.out.size)).mono B1.out.size)⟩
end Go.Proofs.YtpljkcakijkklaaGreatDoor

end
