/-
  Texts of this seat, joined, less what CoreLazy does not lean on: Eval10, Awake15, LazyP.
-/
import Derived.Test.YtpljkcakijkklaaDoorQCoreLazy18
import Derived.Test.YtpljkcakijkklaaDoorQCoreLazy11
import Derived.Test.YtpljkcakijkklaaDoorQCoreLazy9
set_option linter.unusedVariables false
set_option linter.unusedSimpArgs false
set_option maxHeartbeats 4000000
set_option maxRecDepth 100000
section
namespace Go.Proofs.YtpljkcakijkklaaDoor
set_option linter.unusedVariables false
set_option linter.unusedSimpArgs false
open Go.RowKit Go.Proofs.YtpljkcakijkklaaDoorW.PrintWords Go.Proofs.YtpljkcakijkklaaDoorW.PrintLast Go.Proofs.YtpljkcakijkklaaDoorW.PrintMore

noncomputable def EvalR (v : En) (c : Cr) : Int × Int × Int :=
 if sortS v.wins.length v.crons.length 256 c = 1 ∨ sortS v.wins.length v.crons.length 256 c = 2 then (match evalS v c with | .num n => (0, n, 0) | .stop q => (q, 0, 0)) else (0, 0, 1)
theorem box3 (w : World) (o o2 o3 : Obj) : ∃ w1, ((w.alloc o).alloc o2).alloc o3 = w1 ∧ Below w.heap.size w w1 ∧ w1.heap[w.heap.size]? = some o ∧ w1.heap[w.heap.size + 1]? = some o2 ∧ w1.heap[w.heap.size + 1 + 1]? = some o3 ∧ w1.heap.size = w.heap.size + 3 := by
 obtain ⟨w2, e2, b2, k1, k2, s2⟩ := box2 w o o2
 rw [e2]
 refine ⟨_, rfl, below_alloc b2 _, blk_alloc k1 _, blk_alloc k2 _, ?_, by simp [s2]⟩
 have := blk_new w2 o3
 rw [s2] at this
 exact this
def ErrT (w : World) : Prop := w.cell? ⟨0, 0, none⟩ = some (.iface 125 (.agg #[.pointer (some ⟨3, 70, none⟩)]))
theorem ErrT.below {w w' : World} (h : ErrT w) (hb : Below w.heap.size w w') : ErrT w' := pw_cell_below hb h
theorem res_put {w : World} {g : Nat} {a b c d : Value} (h : w.heap[g]? = some (.cells #[a, b] 34 (0, 0))) : ((w.setCell ⟨g, 0, none⟩ c).setCell ⟨g, 1, none⟩ d).heap[g]? = some (.cells #[c, d] 34 (0, 0)) := blk_put (blk_put h 0 c rfl) 1 d rfl

theorem below_two {w w1 w2 : World} {c d : Value} (b1 : Below w.heap.size w w1) (b2 : Below w1.heap.size w1 w2) : Below w.heap.size w ((w2.setCell ⟨w.heap.size + 1 + 1, 0, none⟩ c).setCell ⟨w.heap.size + 1 + 1, 1, none⟩ d) :=
 ((b1.trans (b2.mono b1.size)).setCell (p := ⟨w.heap.size + 1 + 1, 0, none⟩) (by show w.heap.size ≤ w.heap.size + 1 + 1; omega) c).setCell (p := ⟨w.heap.size + 1 + 1, 1, none⟩) (by show w.heap.size ≤ w.heap.size + 1 + 1; omega) d
theorem Eval_calls {c : Cr} {v : En} {w : World} (hl : Lies w c) (henv : EnvL w v) (ht : ErrT w) : Calls Tryd.prog 9 #[.agg #[.int .i64 c.op, .int .i64 c.n, .int .i64 c.m, .slice c.at_ c.kids.length c.cap], .agg #[.int .i64 v.rep, .slice v.wa v.wins.length v.wcap, .slice v.ca v.crons.length v.ccap]] w
  fun e w' => e = .returned (.tuple #[.agg #[.int .i64 (EvalR v c).1, .int .i64 (EvalR v c).2.1], .int .i64 (EvalR v c).2.2]) ∧ Below w.heap.size w w' := by
 obtain ⟨w1, e1, b1, k1, k2, k3, s1⟩ := box3 w (.cells #[.int .i64 c.op, .int .i64 c.n, .int .i64 c.m, .slice c.at_ c.kids.length c.cap] 24) (.cells #[.int .i64 v.rep, .slice v.wa v.wins.length v.wcap, .slice v.ca v.crons.length v.ccap] 28) (.cells #[.int .i64 0, .int .i64 0] 34)
 have HE := Lib.hid e1
 have B1 := Lib.hid b1
 have HL := Lib.hid (hl.below b1)
 have HV := Lib.hid (henv.below b1)
 have HT := Lib.hid (ht.below b1)
 have HS := Lib.hid (Sort_calls (rw := v.wins.length) (rc := v.crons.length) (rl := 256) (hl.below b1))
 have HG := Lib.hid fun x hx h12 => (eval_good v c w1 (hl.below b1) (henv.below b1) x hx h12).2
 have HC := Lib.hid fun (w' : World) (hb : Below w1.heap.size w1 w') => (show _ ∧ _ ∧ _ from ⟨core_cells (blk_below k1 hb), env_cells (blk_below k2 hb), blk_below k3 hb⟩)
 obtain ⟨⟨ra, rb, re⟩, hR⟩ : ∃ R, EvalR v c = R := ⟨_, rfl⟩
 have HR := Lib.hid hR
 rw [hR]
 clear hl henv ht k1 k2 k3 e1 b1 s1 hR
 go_enter Tryd.func9, Tryd.ntmps9
 go_wp2_with fail
 rw [HE.out]
 refine HS.out.mono ?_
 rintro e w2 ⟨rfl, hb2⟩
 obtain ⟨s, hs⟩ : ∃ s, sortS v.wins.length v.crons.length 256 c = s := ⟨_, rfl⟩
 rw [hs]
 have HSS := Lib.hid hs
 have HB2 := Lib.hid hb2
 by_cases h12 : s = 1 ∨ s = 2
 ·obtain ⟨⟨y0, y1, y2, y3⟩, ⟨x0, x1, x2⟩, kr⟩ := HC.out w2 hb2
  have hEC := HG.out s hs h12 w2 (HL.out.below hb2) (HV.out.below hb2)
  have HEC := Lib.hid hEC
  have eR : EvalR v c = (match evalS v c with | .num n => (0, n, 0) | .stop q => (q, 0, 0)) := by
   unfold EvalR
   rw [hs, if_pos h12]
  have HER := Lib.hid (eR.symm.trans HR.out)
  obtain ⟨bb, hbb⟩ : ∃ bb, (s != 1) = bb := ⟨_, rfl⟩
  have h2 : bb = true → (s != 2) = false := by
   intro h
   rw [← hbb] at h
   rcases h12 with rfl | rfl
   ·simp at h
   ·rfl
  clear hEC hs eR hb2 kr
  have HBB := Lib.hid h2
  clear h2 h12
  cases bb with
  | false =>
   clear HBB
   go_wp2_with fail
   refine HEC.out.mono ?_
   rintro e w3 ⟨hret, hb3⟩
   obtain ⟨-, -, kr⟩ := HC.out w3 (HB2.out.trans (hb3.mono HB2.out.size))
   have r0 := (blk_cell kr 0).trans rfl
   have r1 := (blk_cell kr 1).trans rfl
   have f0 := blk_frozen kr 0
   have f1 := blk_frozen kr 1
   have HK := Lib.hid kr
   have HB3 := Lib.hid (HB2.out.trans (hb3.mono HB2.out.size))
   clear kr hb3 HG HEC HC y0 y1 y2 y3 x0 x1 x2
   cases hev : evalS v c with
   | num n =>
    rw [hev] at hret
    obtain rfl := hret
    obtain ⟨rfl, rfl, rfl⟩ : ra = 0 ∧ rb = n ∧ re = 0 := by
     have h := HER.out
     rw [hev] at h
     simp only [Prod.mk.injEq] at h
     exact ⟨h.1.symm, h.2.1.symm, h.2.2.symm⟩
    clear hev HER HR
    go_wp2_with fail
    refine bodyPost_ret (results_ct rfl _ _ (w.heap.size + 1 + 1) 34 _ (0, 0) _ rfl (res_put HK.out) Tryd.underlying34 rfl (by kernel_rfl)) rfl ?_
    exact ⟨by first | rfl | simp, below_two B1.out HB3.out⟩
   | stop q =>
    rw [hev] at hret
    obtain ⟨g, rfl, hg⟩ := hret
    obtain ⟨rfl, rfl, rfl⟩ : ra = q ∧ rb = 0 ∧ re = 0 := by
     have h := HER.out
     rw [hev] at h
     simp only [Prod.mk.injEq] at h
     exact ⟨h.1.symm, h.2.1.symm, h.2.2.symm⟩
    clear hev HER HR
    go_wp2_with fail
    refine (why_calls g _ _ (HT.out.below HB3.out) hg).mono ?_
    rintro e w4 ⟨rfl, hb4⟩
    have k4 := blk_below HK.out hb4
    have r0 := (blk_cell k4 0).trans rfl
    have r1 := (blk_cell k4 1).trans rfl
    have f0 := blk_frozen k4 0
    have f1 := blk_frozen k4 1
    have H4 := Lib.hid k4
    have HB4 := Lib.hid (HB3.out.trans (hb4.mono HB3.out.size))
    clear k4 hb4
    go_wp2_with fail
    refine bodyPost_ret (results_ct rfl _ _ (w.heap.size + 1 + 1) 34 _ (0, 0) _ rfl (res_put H4.out) Tryd.underlying34 rfl (by kernel_rfl)) rfl ?_
    exact ⟨by first | rfl | simp, below_two B1.out HB4.out⟩
  | true =>
   have h3 := HBB.out rfl
   clear HBB
   go_wp2_with fail
   refine HEC.out.mono ?_
   rintro e w3 ⟨hret, hb3⟩
   obtain ⟨-, -, kr⟩ := HC.out w3 (HB2.out.trans (hb3.mono HB2.out.size))
   have r0 := (blk_cell kr 0).trans rfl
   have r1 := (blk_cell kr 1).trans rfl
   have f0 := blk_frozen kr 0
   have f1 := blk_frozen kr 1
   have HK := Lib.hid kr
   have HB3 := Lib.hid (HB2.out.trans (hb3.mono HB2.out.size))
   clear kr hb3 HG HEC HC y0 y1 y2 y3 x0 x1 x2
   cases hev : evalS v c with
   | num n =>
    rw [hev] at hret
    obtain rfl := hret
    obtain ⟨rfl, rfl, rfl⟩ : ra = 0 ∧ rb = n ∧ re = 0 := by
     have h := HER.out
     rw [hev] at h
     simp only [Prod.mk.injEq] at h
     exact ⟨h.1.symm, h.2.1.symm, h.2.2.symm⟩
    clear hev HER HR
    go_wp2_with fail
    refine bodyPost_ret (results_ct rfl _ _ (w.heap.size + 1 + 1) 34 _ (0, 0) _ rfl (res_put HK.out) Tryd.underlying34 rfl (by kernel_rfl)) rfl ?_
    exact ⟨by first | rfl | simp, below_two B1.out HB3.out⟩
   | stop q =>
    rw [hev] at hret
    obtain ⟨g, rfl, hg⟩ := hret
    obtain ⟨rfl, rfl, rfl⟩ : ra = q ∧ rb = 0 ∧ re = 0 := by
     have h := HER.out
     rw [hev] at h
     simp only [Prod.mk.injEq] at h
     exact ⟨h.1.symm, h.2.1.symm, h.2.2.symm⟩
    clear hev HER HR
    go_wp2_with fail
    refine (why_calls g _ _ (HT.out.below HB3.out) hg).mono ?_
    rintro e w4 ⟨rfl, hb4⟩
    have k4 := blk_below HK.out hb4
    have r0 := (blk_cell k4 0).trans rfl
    have r1 := (blk_cell k4 1).trans rfl
    have f0 := blk_frozen k4 0
    have f1 := blk_frozen k4 1
    have H4 := Lib.hid k4
    have HB4 := Lib.hid (HB3.out.trans (hb4.mono HB3.out.size))
    clear k4 hb4
    go_wp2_with fail
    refine bodyPost_ret (results_ct rfl _ _ (w.heap.size + 1 + 1) 34 _ (0, 0) _ rfl (res_put H4.out) Tryd.underlying34 rfl (by kernel_rfl)) rfl ?_
    exact ⟨by first | rfl | simp, below_two B1.out HB4.out⟩
 ·have eR : EvalR v c = (0, 0, 1) := by
   unfold EvalR
   rw [hs, if_neg h12]
  obtain ⟨rfl, rfl, rfl⟩ : ra = 0 ∧ rb = 0 ∧ re = 1 := by
   have h := eR.symm.trans HR.out
   simp only [Prod.mk.injEq] at h
   exact ⟨h.1.symm, h.2.1.symm, h.2.2.symm⟩
  obtain ⟨-, -, kr⟩ := HC.out w2 hb2
  have r0 := (blk_cell kr 0).trans rfl
  have r1 := (blk_cell kr 1).trans rfl
  have f0 := blk_frozen kr 0
  have f1 := blk_frozen kr 1
  have g1 : (s != 1) = true := by simp; omega
  have g2 : (s != 2) = true := by simp; omega
  have HK := Lib.hid kr
  clear hs eR hb2 h12 kr
  go_wp2_with fail
  refine bodyPost_ret (results_ct rfl _ _ (w.heap.size + 1 + 1) 34 _ (0, 0) _ rfl (res_put HK.out) Tryd.underlying34 rfl (by kernel_rfl)) rfl ?_
  exact ⟨by first | rfl | simp, below_two B1.out HB2.out⟩
end Go.Proofs.YtpljkcakijkklaaDoor

end
section
namespace Go.Proofs.YtpljkcakijkklaaDoor
set_option linter.unusedVariables false
set_option linter.unusedSimpArgs false
open Go.RowKit Go.Proofs.YtpljkcakijkklaaDoorW.PrintWords Go.Proofs.YtpljkcakijkklaaDoorW.PrintLast Go.Proofs.YtpljkcakijkklaaDoorW.PrintMore

def numC (n : Int) : Cr := .node 1 n 0 none 0 []
theorem numC_lies {n : Int} (hn : R64 n) (w : World) : Lies w (numC n) := by
 unfold numC
 rw [Lies, LiesL]
 exact ⟨⟨by unfold I64; omega, hn, by unfold I64; omega⟩, by decide, trivial⟩
theorem num_calls (n : Int) (w : World) : Calls Tryd.prog 21 #[.int .i64 n] w fun e w' => e = .returned (.agg #[.int .i64 1, .int .i64 n, .int .i64 0, .slice none 0 0]) ∧ Below w.heap.size w w' := by
 go_enter Tryd.func21, Tryd.ntmps21
 go_wp2_with fail
 refine bodyPost_ret (results_cell_row (fn := Tryd.f21) (p := 2) rfl _ _ w.heap.size 24 #[.int .i64 1, .int .i64 n, .int .i64 0, .slice none 0 0] (0, 0) _ rfl (blk_new _ _) Tryd.underlying24 rfl (by kernel_rfl)) rfl ?_
 exact ⟨rfl, below_alloc (Below.refl _ _) _⟩
theorem small_calls {c : Cr} {w : World} (hl : Lies w c) {b : Bool} (hb : decide (c.total ≤ 4096) = b) : Calls Tryd.prog 7 #[.agg #[.int .i64 c.op, .int .i64 c.n, .int .i64 c.m, .slice c.at_ c.kids.length c.cap]] w fun e w' => e = .returned (.bool b) ∧ Below w.heap.size w w' := by
 obtain ⟨w1, e1, b1, k2, s1⟩ := box1 w (.cells #[.int .i64 c.op, .int .i64 c.n, .int .i64 c.m, .slice c.at_ c.kids.length c.cap] 24)
 obtain ⟨r, hr⟩ : ∃ r, min c.total 4097 = r := ⟨_, rfl⟩
 have hcl := rNodes_calls c _ (hl.below b1)
 rw [hr] at hcl
 have HE := Lib.hid e1
 have B1 := Lib.hid b1
 have HS := Lib.hid hcl
 have hb2 : decide ((r : Int) ≤ 4096) = b := by
  rw [← hb]
  congr 1
  apply propext
  omega
 have hb3 : decide (r ≤ 4096) = b := by
  rw [← hb]
  congr 1
  apply propext
  omega
 clear hl k2 e1 b1 s1 hcl hr hb
 go_enter Tryd.func7, Tryd.ntmps7
 go_wp2_with fail
 rw [HE.out]
 refine HS.out.mono ?_
 rintro e w2 ⟨rfl, hb7⟩
 go_wp2_with fail
 go_ret
 exact ⟨by simp [hb3], B1.out.trans (hb7.mono B1.out.size)⟩
theorem of_calls (op : Int) (a b : Cr) (w : World) : Calls Tryd.prog 10 #[.int .i64 op, .agg #[.int .i64 a.op, .int .i64 a.n, .int .i64 a.m, .slice a.at_ a.kids.length a.cap], .agg #[.int .i64 b.op, .int .i64 b.n, .int .i64 b.m, .slice b.at_ b.kids.length b.cap]] w
  fun e w' => (∃ g, e = .returned (.agg #[.int .i64 op, .int .i64 0, .int .i64 0, .slice (some ⟨g, 0, none⟩) 2 2]) ∧ w'.heap[g]? = some (.cells #[.int .i64 a.op, .int .i64 a.n, .int .i64 a.m, .slice a.at_ a.kids.length a.cap, .int .i64 b.op, .int .i64 b.n, .int .i64 b.m, .slice b.at_ b.kids.length b.cap] 24 (0, 0))) ∧ Below w.heap.size w w' := by
 go_enter Tryd.func10, Tryd.ntmps10
 go_wp2_with fail
 generalize hA : Obj.cells #[.int .i64 a.op, .int .i64 a.n, .int .i64 a.m, .slice a.at_ a.kids.length a.cap] 24 = oa
 generalize hB : Obj.cells #[.int .i64 b.op, .int .i64 b.n, .int .i64 b.m, .slice b.at_ b.kids.length b.cap] 24 = ob
 refine bodyPost_ret (results_cell_row (fn := Tryd.f10) (p := 6) rfl _ _ (w.heap.size + 1 + 1) 24 #[.int .i64 op, .int .i64 0, .int .i64 0, .slice (some ⟨w.heap.size + 1 + 1 + 1, 0, none⟩) 2 2] (0, 0) _ rfl (by
   obtain ⟨w1, e1, b1, k1, k2, k3, s1⟩ := box3 w oa ob (.cells #[.int .i64 op, .int .i64 0, .int .i64 0, .slice (some ⟨w.heap.size + 1 + 1 + 1, 0, none⟩) 2 2] 24)
   rw [e1]
   exact blk_alloc k3 _) Tryd.underlying24 rfl (by kernel_rfl)) rfl ?_
 refine ⟨⟨w.heap.size + 1 + 1 + 1, rfl, ?_⟩, below_alloc (below_alloc (below_alloc (below_alloc (Below.refl _ _) _) _) _) _⟩
 obtain ⟨w1, e1, b1, k1, k2, k3, s1⟩ := box3 w oa ob (.cells #[.int .i64 op, .int .i64 0, .int .i64 0, .slice (some ⟨w.heap.size + 1 + 1 + 1, 0, none⟩) 2 2] 24)
 rw [e1]
 have := blk_new w1 (.cells #[.int .i64 a.op, .int .i64 a.n, .int .i64 a.m, .slice a.at_ a.kids.length a.cap, .int .i64 b.op, .int .i64 b.n, .int .i64 b.m, .slice b.at_ b.kids.length b.cap] 24)
 rw [s1] at this
 exact this
theorem of_lies {op : Int} {a b : Cr} {g : Nat} {w : World} (h : w.heap[g]? = some (.cells #[.int .i64 a.op, .int .i64 a.n, .int .i64 a.m, .slice a.at_ a.kids.length a.cap, .int .i64 b.op, .int .i64 b.n, .int .i64 b.m, .slice b.at_ b.kids.length b.cap] 24 (0, 0)))
  (ho : R64 op) (ha : Lies w a) (hb : Lies w b) : Lies w (.node op 0 0 (some ⟨g, 0, none⟩) 2 [a, b]) := by
 rw [Lies, LiesL, LiesL, LiesL]
 refine ⟨⟨ho, by unfold I64; omega, by unfold I64; omega⟩, by simp, ⟨⟨_, rfl, ?_⟩, ha, ⟨⟨_, rfl, ?_⟩, hb, trivial⟩⟩⟩
 ·refine World.cells?_of_each (Nat.zero_le _) rfl fun i hi => ?_
  match i, hi with
  | 0, _ => exact (blk_cell h 0).trans rfl
  | 1, _ => exact (blk_cell h 1).trans rfl
  | 2, _ => exact (blk_cell h 2).trans rfl
  | 3, _ => exact (blk_cell h 3).trans rfl
 ·refine World.cells?_of_each (Nat.zero_le _) rfl fun i hi => ?_
  match i, hi with
  | 0, _ => exact (blk_cell h 4).trans rfl
  | 1, _ => exact (blk_cell h 5).trans rfl
  | 2, _ => exact (blk_cell h 6).trans rfl
  | 3, _ => exact (blk_cell h 7).trans rfl
def en3 : En := ⟨3, none, 0, [], none, 0, []⟩
def en0 : En := ⟨0, none, 0, [], none, 0, []⟩
theorem en3_lies (w : World) : EnvL w en3 := ⟨by show R64 3; unfold R64; omega, by decide, by decide, fun i x h => by simp [en3] at h, fun i x h => by simp [en3] at h⟩
theorem en0_lies (w : World) : EnvL w en0 := ⟨by show R64 0; unfold R64; omega, by decide, by decide, fun i x h => by simp [en0] at h, fun i x h => by simp [en0] at h⟩
def repC : Cr := .node 3 0 0 none 0 []
theorem repC_lies (w : World) : Lies w repC := by
 unfold repC
 rw [Lies, LiesL]
 exact ⟨⟨by unfold I64; omega, by unfold I64; omega, by unfold I64; omega⟩, by decide, trivial⟩
theorem sort_num (rw rc rl n : Int) : sortS rw rc rl (numC n) = 1 := by
 rw [sortS_eq]
 rfl
theorem sort_rep (rw rc rl : Int) : sortS rw rc rl repC = 1 := by
 rw [sortS_eq]
 rfl
theorem sort_bin (rw rc rl : Int) {op : Int} {a b : Cr} {p : Option Addr} {k : Nat} (ho : 14 ≤ op ∧ op ≤ 17) (ha : sortS rw rc rl a = 1) (hb : sortS rw rc rl b = 1) : sortS rw rc rl (.node op 0 0 p k [a, b]) = 1 := by
 rw [sortS_eq]
 show moreS (sortS rw rc rl) op 0 0 [a, b] = 1
 unfold moreS
 rw [if_pos ⟨rfl, rfl⟩, if_neg (fun h => by have := h.1; omega), if_neg (fun h => by have := h.1; omega)]
 show twoS (sortS rw rc rl) op [a, b] = 1
 unfold twoS
 simp only
 rw [if_pos (by omega), ha, hb]
 rfl
theorem evalR_3 (g : Nat) : EvalR en3 (.node 14 0 0 (some ⟨g, 0, none⟩) 2 [repC, numC 500000]) = (0, 3500000, 0) := by
 have h := sort_bin en3.wins.length en3.crons.length 256 (op := 14) (p := some ⟨g, 0, none⟩) (k := 2) (by omega) (sort_rep en3.wins.length en3.crons.length 256) (sort_num en3.wins.length en3.crons.length 256 500000)
 unfold EvalR
 rw [h, if_pos (.inl rfl)]
 have e1 : evalS en3 repC = .num 3000000 := by unfold repC; rw [evalS]; rfl
 have e2 : evalS en3 (numC 500000) = .num 500000 := by unfold numC; rw [evalS]; rfl
 rw [evalS, e1, e2]
 rfl
theorem evalR_0 (g : Nat) : EvalR en0 (.node 17 0 0 (some ⟨g, 0, none⟩) 2 [numC 1, numC 0]) = (2, 0, 0) := by
 have h := sort_bin en0.wins.length en0.crons.length 256 (op := 17) (p := some ⟨g, 0, none⟩) (k := 2) (by omega) (sort_num en0.wins.length en0.crons.length 256 1) (sort_num en0.wins.length en0.crons.length 256 0)
 unfold EvalR
 rw [h, if_pos (.inl rfl)]
 have e1 : evalS en0 (numC 1) = .num 1 := by unfold numC; rw [evalS]; rfl
 have e2 : evalS en0 (numC 0) = .num 0 := by unfold numC; rw [evalS]; rfl
 rw [evalS, e1, e2]
 rfl
theorem awake15 (w : World) (ht : ErrT w) : Calls Tryd.prog 6 #[] w fun e w' => e = .returned (.bool true) ∧ Below w.heap.size w w' := by
 have HT := Lib.hid ht
 clear ht
 go_enter Tryd.func6, Tryd.ntmps6
 go_wp2_with fail
 refine (num_calls 500000 _).mono ?_
 rintro e w1 ⟨rfl, b1⟩
 go_wp2_with fail
 refine (of_calls 14 repC (numC 500000) _).mono ?_
 rintro e w2 ⟨⟨g, rfl, hg⟩, b2⟩
 have HL := Lib.hid (of_lies (op := 14) (a := repC) (b := numC 500000) hg (by unfold R64; omega) (repC_lies w2) (numC_lies (n := 500000) (by unfold R64; omega) w2))
 have B2 := Lib.hid (b1.trans (b2.mono b1.size))
 clear hg b1 b2
 go_wp2_with fail
 have hE := Eval_calls HL.out (en3_lies w2) (HT.out.below B2.out)
 rw [evalR_3] at hE
 refine hE.mono ?_
 clear hE
 rintro e w3 ⟨rfl, b3⟩
 have B3 := Lib.hid (B2.out.trans (b3.mono B2.out.size))
 clear b3 HL
 go_wp2_with fail
 obtain ⟨w4, e4, b4, k4, s4⟩ := box1 w3 (.cells #[.int .i64 0, .int .i64 3500000] 34)
 rw [e4]
 obtain ⟨g1, hg1⟩ : ∃ g, w3.heap.size = g := ⟨_, rfl⟩
 rw [hg1] at k4 ⊢
 have K4 := Lib.hid k4
 have B4 := Lib.hid (B3.out.trans (b4.mono B3.out.size))
 clear e4 b4 k4 s4 hg1
 refine (num_calls 1 _).mono ?_
 rintro e w5 ⟨rfl, b5⟩
 go_wp2_with fail
 refine (num_calls 0 _).mono ?_
 rintro e w6 ⟨rfl, b6⟩
 go_wp2_with fail
 refine (of_calls 17 (numC 1) (numC 0) _).mono ?_
 rintro e w7 ⟨⟨g2, rfl, hg⟩, b7⟩
 have HL := Lib.hid (of_lies (op := 17) (a := numC 1) (b := numC 0) hg (by unfold R64; omega) (numC_lies (n := 1) (by unfold R64; omega) w7) (numC_lies (n := 0) (by unfold R64; omega) w7))
 have b47 := b5.trans ((b6.trans (b7.mono b6.size)).mono b5.size)
 have B7 := Lib.hid (B4.out.trans (b47.mono B4.out.size))
 have K7 := Lib.hid (blk_below K4.out b47)
 clear hg b5 b6 b7 b47 K4
 go_wp2_with fail
 have hE := Eval_calls HL.out (en0_lies w7) (HT.out.below B7.out)
 rw [evalR_0] at hE
 refine hE.mono ?_
 clear hE
 rintro e w8 ⟨rfl, b8⟩
 have B8 := Lib.hid (B7.out.trans (b8.mono B7.out.size))
 have K8 := Lib.hid (blk_below K7.out b8)
 clear b8 HL K7
 have r0 := (blk_cell K8.out 0).trans rfl
 have r1 := (blk_cell K8.out 1).trans rfl
 have lt1 := blk_lt K8.out
 have n1 : ¬ g1 = w8.heap.size := by omega
 have n2 : ¬ w8.heap.size = g1 := by omega
 go_wp2_with fail
 refine (num_calls 1 _).mono ?_
 rintro e w9 ⟨rfl, b9⟩
 have B9 := Lib.hid (B8.out.trans (Below.mono (below_alloc (Below.refl _ _) _ |>.trans (b9.mono (by simp))) B8.out.size))
 clear b9 r0 r1 n1 n2 lt1
 go_wp2_with fail
 have hS := Sort_calls (rw := 0) (rc := 0) (rl := 0) (numC_lies (n := 1) (by unfold R64; omega) w9)
 rw [sort_num] at hS
 refine hS.mono ?_
 rintro e w10 ⟨rfl, b10⟩
 go_wp2_with fail
 go_ret
 exact ⟨rfl, B9.out.trans (b10.mono B9.out.size)⟩
end Go.Proofs.YtpljkcakijkklaaDoor

end
section
namespace Go.Proofs.YtpljkcakijkklaaDoor
set_option linter.unusedVariables false
set_option linter.unusedSimpArgs false
open Go.RowKit

theorem lazy_err {v : En} {c : Cr} {a b e : Int} (h : sortS v.wins.length v.crons.length 256 c = 1 ∨ sortS v.wins.length v.crons.length 256 c = 2) (hX : EvalR v c = (a, b, e)) : e = 0 := by
 unfold EvalR at hX
 rw [if_pos h] at hX
 cases hv : evalS v c <;> (rw [hv] at hX; simp only [Prod.mk.injEq] at hX; exact hX.2.2.symm)
def resOf : Rs → Int × Int × Int
 | .num n => (0, n, 0)
 | .stop q => (q, 0, 0)
theorem evalR_of {v : En} {c : Cr} {s : Int} (h : sortS v.wins.length v.crons.length 256 c = s) (h12 : s = 1 ∨ s = 2) : EvalR v c = resOf (evalS v c) := by
 unfold EvalR
 rw [h, if_pos h12]
 cases evalS v c <;> rfl
def failC (r s : Int) : Cr := .node 6 r s none 0 []
def boolC (n : Int) : Cr := .node 2 n 0 none 0 []
section
variable {v : En} {c : Cr} {s r : Int} {a : Option Addr} {k : Nat}
theorem sort_fail (hr : 1 ≤ r ∧ r ≤ 3) (h12 : s = 1 ∨ s = 2) : sortS v.wins.length v.crons.length 256 (failC r s) = s := by
 rw [sortS_eq]
 show leafS v.wins.length v.crons.length 6 r s = s
 unfold leafS
 rw [if_neg (by decide), if_neg (by decide), if_neg (by decide), if_neg (by decide), if_neg (by decide), if_pos rfl, if_pos hr.1, if_pos hr.2]
 rcases h12 with rfl | rfl
 ·rw [if_pos rfl]
 ·rw [if_neg (by decide), if_pos rfl]
theorem sort_bool {n : Int} (hn : n = 0 ∨ n = 1) : sortS v.wins.length v.crons.length 256 (boolC n) = 2 := by
 rw [sortS_eq]
 show leafS v.wins.length v.crons.length 2 n 0 = 2
 unfold leafS
 rw [if_neg (by decide), if_pos rfl, if_pos rfl]
 rcases hn with rfl | rfl
 ·rw [if_pos rfl]
 ·rw [if_neg (by decide), if_pos rfl]
theorem evalF_fail : evalS v (failC r s) = .stop r := by
 unfold failC
 rw [evalS]
 rfl
theorem evalF_bool {n : Int} : evalS v (boolC n) = .num n := by
 unfold boolC
 rw [evalS]
 rfl
theorem fail_lies (hr : 1 ≤ r ∧ r ≤ 3) (h12 : s = 1 ∨ s = 2) (w : World) : Lies w (failC r s) := by
 unfold failC
 rw [Lies, LiesL]
 exact ⟨⟨by unfold I64; omega, by unfold I64; omega, by unfold I64; omega⟩, by decide, trivial⟩
theorem bool_lies {n : Int} (hn : n = 0 ∨ n = 1) (w : World) : Lies w (boolC n) := by
 unfold boolC
 rw [Lies, LiesL]
 exact ⟨⟨by unfold I64; omega, by unfold I64; omega, by unfold I64; omega⟩, by decide, trivial⟩
theorem sort_if {x y z : Cr} (hx : sortS v.wins.length v.crons.length 256 x = 2) (hy : sortS v.wins.length v.crons.length 256 y = s) (hz : sortS v.wins.length v.crons.length 256 z = s) (h12 : s = 1 ∨ s = 2) : sortS v.wins.length v.crons.length 256 (.node 28 0 0 a k [x, y, z]) = s := by
 rw [sortS_eq]
 show moreS (sortS v.wins.length v.crons.length 256) 28 0 0 [x, y, z] = s
 unfold moreS
 rw [if_pos ⟨rfl, rfl⟩, if_pos ⟨rfl, rfl⟩]
 unfold ifS
 simp only
 rw [if_pos hx, hy, hz]
 rcases h12 with rfl | rfl
 ·rw [if_pos rfl, if_pos rfl]
 ·rw [if_neg (by decide), if_pos rfl, if_pos rfl]
theorem sort_two {op : Int} {x y : Cr} (ho : op = 25 ∨ op = 26) (hx : sortS v.wins.length v.crons.length 256 x = 2) (hy : sortS v.wins.length v.crons.length 256 y = 2) : sortS v.wins.length v.crons.length 256 (.node op 0 0 a k [x, y]) = 2 := by
 rw [sortS_eq]
 show moreS (sortS v.wins.length v.crons.length 256) op 0 0 [x, y] = 2
 unfold moreS
 rw [if_pos ⟨rfl, rfl⟩, if_neg (fun h => by have := h.1; omega), if_neg (fun h => by have := h.1; omega)]
 show twoS (sortS v.wins.length v.crons.length 256) op [x, y] = 2
 unfold twoS
 simp only
 rw [if_neg (by omega), if_neg (by omega), if_pos (by omega), hx, hy]
 rfl
theorem sort_either {x y : Cr} (hx : sortS v.wins.length v.crons.length 256 x = s) (hy : sortS v.wins.length v.crons.length 256 y = s) (h12 : s = 1 ∨ s = 2) : sortS v.wins.length v.crons.length 256 (.node 27 0 0 a k [x, y]) = s := by
 rw [sortS_eq]
 show moreS (sortS v.wins.length v.crons.length 256) 27 0 0 [x, y] = s
 unfold moreS
 rw [if_pos ⟨rfl, rfl⟩, if_neg (fun h => by have := h.1; omega), if_neg (fun h => by have := h.1; omega)]
 show twoS (sortS v.wins.length v.crons.length 256) 27 [x, y] = s
 unfold twoS
 simp only
 rw [if_neg (by decide), if_neg (by decide), if_neg (by decide), if_pos trivial, hx, hy, if_neg (by omega), if_neg (by omega), if_pos rfl]
variable (hs : sortS v.wins.length v.crons.length 256 c = s) (h12 : s = 1 ∨ s = 2) (hr : 1 ≤ r ∧ r ≤ 3)
include hs h12 hr
theorem lazy_if1 : EvalR v (.node 28 0 0 a k [boolC 1, c, failC r s]) = EvalR v c := by
 rw [evalR_of (sort_if (sort_bool (.inr rfl)) hs (sort_fail hr h12) h12) h12, evalR_of hs h12]
 congr 1
theorem lazy_if0 : EvalR v (.node 28 0 0 a k [boolC 0, failC r s, c]) = EvalR v c := by
 rw [evalR_of (sort_if (sort_bool (.inl rfl)) (sort_fail hr h12) hs h12) h12, evalR_of hs h12]
 congr 1
theorem lazy_either : EvalR v (.node 27 0 0 a k [failC r s, c]) = EvalR v c := by
 rw [evalR_of (sort_either (sort_fail hr h12) hs h12) h12, evalR_of hs h12]
 congr 1
theorem lazy_either2 {xr xn xe : Int} (hX : EvalR v c = (xr, xn, xe)) (hg : ∀ q, evalS v c = .stop q → ¬ q = 0) : EvalR v (.node 27 0 0 a k [c, failC r s]) = if xr = 0 then (xr, xn, 0) else (r, 0, 0) := by
 rw [evalR_of hs h12] at hX
 rw [evalR_of (sort_either hs (sort_fail hr h12) h12) h12, evalS]
 cases hv : evalS v c with
 | num n =>
  rw [hv] at hX
  injection hX with h1 h2
  injection h2 with h2 h3
  subst h1 h2
  rw [if_pos rfl]
  rfl
 | stop q =>
  rw [hv] at hX
  injection hX with h1 h2
  subst h1
  rw [if_neg (hg q hv), evalF_fail]
  rfl
end
theorem lazy_and0 {v : En} {r : Int} {a : Option Addr} {k : Nat} (hr : 1 ≤ r ∧ r ≤ 3) : EvalR v (.node 25 0 0 a k [boolC 0, failC r 2]) = (0, 0, 0) := by
 rw [evalR_of (sort_two (.inl rfl) (sort_bool (.inl rfl)) (sort_fail hr (.inr rfl))) (.inr rfl), evalS, evalF_bool]
 rfl
theorem lazy_or1 {v : En} {r : Int} {a : Option Addr} {k : Nat} (hr : 1 ≤ r ∧ r ≤ 3) : EvalR v (.node 26 0 0 a k [boolC 1, failC r 2]) = (0, 1, 0) := by
 rw [evalR_of (sort_two (.inr rfl) (sort_bool (.inr rfl)) (sort_fail hr (.inr rfl))) (.inr rfl), evalS, evalF_bool]
 rfl
theorem lazy_and1 {v : En} {r : Int} {a : Option Addr} {k : Nat} (hr : 1 ≤ r ∧ r ≤ 3) : EvalR v (.node 25 0 0 a k [boolC 1, failC r 2]) = (r, 0, 0) := by
 rw [evalR_of (sort_two (.inl rfl) (sort_bool (.inr rfl)) (sort_fail hr (.inr rfl))) (.inr rfl), evalS, evalF_bool, evalF_fail]
 rfl
theorem lazy_or0 {v : En} {r : Int} {a : Option Addr} {k : Nat} (hr : 1 ≤ r ∧ r ≤ 3) : EvalR v (.node 26 0 0 a k [boolC 0, failC r 2]) = (r, 0, 0) := by
 rw [evalR_of (sort_two (.inr rfl) (sort_bool (.inl rfl)) (sort_fail hr (.inr rfl))) (.inr rfl), evalS, evalF_bool, evalF_fail]
 rfl
end Go.Proofs.YtpljkcakijkklaaDoor

end
