/-
  The law's each, walked.
-/
import Derived.Test.YtmlnbmbobkoipaaRingEachLaw
import Derived.RegionIn
namespace Go.Proofs.Ytmlnbmbobkoipaa
open Go.RowKit Go.Shelf Go.Proofs.YtmlnbmbobkoipaaW.PrintWords Go.Proofs.YtmlnbmbobkoipaaW.PrintLast Go.Proofs.YtmlnbmbobkoipaaW.PrintMore
attribute [local go_sem] Oper.semAt_some

theorem upto_mem {zs : List Int} {k j : Nat} (h : j < k) : (j, zs.getD j 0) ∈ uptoI zs k := by
  unfold uptoI
  exact List.mem_map.2 ⟨j, List.mem_range.2 h, rfl⟩
theorem most_done {zs : List Int} {nn : Int} (h : ∀ y ∈ uptoI zs zs.length, (y.1 : Int) < nn) : mostN nn zs.length = zs.length := by
  unfold mostN
  rcases Nat.eq_zero_or_pos zs.length with h0 | h0
  · omega
  · have := h _ (upto_mem (zs := zs) (k := zs.length) (j := zs.length - 1) (by omega))
    simp only at this
    omega
theorem most_stop {zs : List Int} {nn : Int} {k : Nat} {pre : List (Nat × Int)} {x : Nat × Int} (hk : k ≤ zs.length) (he : uptoI zs k = pre ++ [x]) (hx : nn ≤ (x.1 : Int)) (h : ∀ y ∈ pre, (y.1 : Int) < nn) : mostN nn zs.length = k := by
  have hl : k = pre.length + 1 := by have := congrArg List.length he; rw [uptoI_length] at this; simpa using this
  subst hl
  rw [uptoI_succ] at he
  obtain ⟨e1, e2⟩ := List.append_inj' he rfl
  have hx1 : x.1 = pre.length := by
    have := List.head_eq_of_cons_eq e2
    rw [← this]
  unfold mostN
  rcases Nat.eq_zero_or_pos pre.length with h0 | h0
  · omega
  · have := h (pre.length - 1, zs.getD (pre.length - 1) 0) (by
      have hm := upto_mem (zs := zs) (k := pre.length) (j := pre.length - 1) (by omega)
      rw [e1] at hm
      exact hm)
    simp only at this
    omega
theorem keepsBlk_grown {W W' : World} {row : Option Nat} {sb : Nat} (hg : W.grownBy W' row) (hne : some sb ≠ row) : KeepsBlk sb W W' := fun _ ho _ => (hg.block sb (Array.getElem?_eq_some_iff.1 ho).1 hne).trans ho
/-- What the body of the loop makes. -/
theorem each_step {W7 w1 w9 w2 w : World} {b6 sb : Nat} {v v' : Value} {n : Nat} {xs ys : List Value} {tmp : Obj} (hw2 : w.heap.size ≤ b6 ∧ b6 < w2.heap.size ∧ sb < w2.heap.size ∧ b6 ≠ sb) (hsz : w2.heap.size ≤ W7.heap.size)
    (a6 : Boxed W7 b6 22 v) (row7 : W7.ownsRow w2.heap.size 2 1 v n xs) (hown' : w1.ownsRow w2.heap.size 2 1 v' (n + 1) ys) (hgrow : (W7.alloc tmp).grownBy w1 v.ownBlock) (h9 : w1.setCell ⟨b6, 0, none⟩ v' = w9) :
    Boxed w1 b6 22 v ∧ Boxed w9 b6 22 v' ∧ w9.ownsRow w2.heap.size 2 1 v' (n + 1) ys ∧ KeepsOthers W7 w9 ∧ Below w.heap.size W7 w9 ∧ KeepsBlk sb W7 w9 ∧
      ∀ b t u, b < w2.heap.size → b ≠ b6 → Boxed W7 b t u → Boxed w9 b t u := by
  have hs := hw2.1
  obtain ⟨q1, q2, -, q4, q5⟩ := Boxed.appended (n₀ := w.heap.size) a6 (by decide) (own_weaken row7 (by omega)) (by omega) hs (own_weaken hown' (by omega)) hgrow
  have hne : ∀ b, b < w2.heap.size → some b ≠ v.ownBlock := by
    intro b hb e
    have := own_base row7 b e.symm
    omega
  have gg := grownBy_setCell' w1 b6 v'
  rw [h9] at q2 q4 q5 gg
  refine ⟨q1, q2, ?_, q4, q5, ?_, ?_⟩
  · exact hown'.kept gg (.inr (q1.not_row (by decide) hown').symm)
  · exact keepsBlk_t (keepsBlk_t (keepsBlk_grown (World.grownBy_alloc W7 tmp none) (by simp)) (keepsBlk_grown hgrow (hne sb hw2.2.2.1))) (keepsBlk_grown gg (by have := hw2.2.2.2; simp; omega))
  · intro b t u hb hb6 hbx
    exact ((hbx.alloc tmp).kept hgrow (hne b hb)).kept gg (by simp; omega)
set_option maxRecDepth 100000 in
set_option maxHeartbeats 4000000 in
theorem each_calls {w : World} {r : Option Addr} {L : List Int} (nn : Int) (hlen : L.length ≤ 4096)
    (hl : ∀ w2, Below w.heap.size w w2 → Calls Try.prog 30 #[.pointer r] w2 fun e w' => ∃ v, e = .returned v ∧ Kd.R (Kd.int .i64) 2 w' w2.heap.size (fun _ => True) v L ∧ Below w2.heap.size w2 w') :
    Calls Try.prog 35 #[.pointer r, .int .i64 nn] w fun e w' => ∃ v, e = .returned (.tuple #[v, .int .i64 (mostN nn L.length)]) ∧ Kd.R (Kd.int .i64) 2 w' w.heap.size (fun _ => True) v (L.take (mostN nn L.length)) ∧ Below w.heap.size w w' := by
  have HL := Lib.hid hl
  have HLEN := Lib.hid hlen
  clear hl hlen
  obtain ⟨i0, hi, hz0, hz1, hz2⟩ := info_parts info64
  refine (callsIn_wide (n := 5)).1 ?_
  refine callsIn_of_wp_marks Try.func35 rfl trivial ?_ rfl
  simp only [Try.ntmps35, List.size_toArray, List.length_cons, List.length_nil, Nat.reduceAdd, Nat.reduceSub, Array.replicate_succ, Array.replicate_zero, List.push_toArray, List.append_toArray, List.nil_append, List.cons_append]
  have hB0 : Below w.heap.size w (((w.alloc (.cells #[.int .i64 nn] 2)).alloc (.cells #[.slice none 0 0] 22)).alloc (.cells #[.int .i64 0] 3)) := ((((Below.refl _ w).alloc (Nat.le_refl _) _).alloc (by simp) _).alloc (by simp; omega) _)
  have HB0 := Lib.hid hB0
  have b3 := ((Boxed.new w 2 (.int .i64 nn)).alloc (.cells #[.slice none 0 0] 22)).alloc (.cells #[.int .i64 0] 3)
  have b6 := (Boxed.new (w.alloc (.cells #[.int .i64 nn] 2)) 22 (.slice none 0 0)).alloc (.cells #[.int .i64 0] 3)
  have b7 := Boxed.new ((w.alloc (.cells #[.int .i64 nn] 2)).alloc (.cells #[.slice none 0 0] 22)) 3 (.int .i64 0)
  rw [World.size_alloc] at b6 b7
  rw [World.size_alloc] at b7
  have K3 := Lib.hid b3
  have K6 := Lib.hid b6
  have K7 := Lib.hid b7
  clear hB0 b3 b6 b7
  gi_wp2_with fail
  refine ⟨trivial, (callsIn_wide.2 (ring_each (HL.out _ HB0.out))).mono ?_⟩
  rintro e w2 ⟨bs, vr, rfl, hbs1, hbs2, hbs, hvr, hb2⟩
  have k3 : Boxed w2 w.heap.size 2 (.int .i64 nn) := (hb2.block _ K3.out.lt).trans K3.out
  have k6 : Boxed w2 (w.heap.size + 1) 22 (.slice none 0 0) := (hb2.block _ K6.out.lt).trans K6.out
  have k7 : Boxed w2 (w.heap.size + 1 + 1) 3 (.int .i64 0) := (hb2.block _ K7.out.lt).trans K7.out
  have HB2 := Lib.hid (HB0.out.trans (hb2.mono HB0.out.size))
  have hvb := Kd.R_bound hvr
  have hvr0 : ∀ k, vr.ownBlock = some k → w.heap.size + 1 + 1 < k ∧ k < w2.heap.size := by
    intro k hk
    have h1 := hvb.1 k hk
    have h2 := h1.2.1
    have h3 := h1.2.2.1
    simp at h2
    omega
  have HVR := Lib.hid hvr
  have HVB := Lib.hid hvr0
  have HBS := Lib.hid hbs
  have h0 : EInv w w2.heap.size w.heap.size (w.heap.size + 1) (w.heap.size + 1 + 1) nn [] w2 := ⟨⟨_, k6, World.ownsRow_nil _ _ _ _, trivial⟩, k7, k3, HB2.out, Nat.le_refl _⟩
  have H0 := Lib.hid h0
  have HSB := Lib.hid (show 0 < L.length → w.heap.size + 1 + 1 < rowBlk vr ∧ rowBlk vr < w2.heap.size by
    intro hz
    obtain ⟨g, cap, rfl, _⟩ := Kd.R_form HVR.out hz
    exact HVB.out g rfl)
  clear h0 k3 k6 k7 hvr0 hvr hbs hb2 hvb
  gi_wp2
  refine wpIn_rangeFunc_ownG rfl (by decide) (gf := 46) (lb := #[.pointer (some ⟨bs, 0, none⟩)]) rfl trivial (enters_of Try.func46 (by kernel_rfl) rfl)
    (ringSeq_stops Fence.wide 4 trivial rfl (by decide) bs _ _ vr L HLEN.out w2 HBS.out HVR.out) keepsBlk_t keepsBlk_b (Below.refl _ _) (fun _ => rfl)
    (fun pre W => EInv w w2.heap.size w.heap.size (w.heap.size + 1) (w.heap.size + 1 + 1) nn pre W ∧ ∀ y ∈ pre, (y.1 : Int) < nn)
    (fun c pre W => (c = .exit 0 ∧ ∃ (pre' : List (Nat × Int)) (x : Nat × Int), pre = pre' ++ [x] ∧ nn ≤ (x.1 : Int) ∧ ∀ y ∈ pre', (y.1 : Int) < nn) ∧ EInv w w2.heap.size w.heap.size (w.heap.size + 1) (w.heap.size + 1 + 1) nn pre W)
    (fun s W W' row hs hg hr => ⟨einv_own w w2 _ _ _ _ _ HB2.out.size s W W' row hs.1 hg hr, hs.2⟩)
    (fun c s W W' row hs hg hr => ⟨hs.1, einv_own w w2 _ _ _ _ _ HB2.out.size s W W' row hs.2 hg hr⟩)
    ⟨H0.out, by simp⟩
    (fun x => { tmps := #[.pointer r, .int .i64 nn, undef, .pointer (some ⟨w.heap.size, 0, none⟩), .slice none 0 0, .int .i64 0, .pointer (some ⟨w.heap.size + 1, 0, none⟩), .pointer (some ⟨w.heap.size + 1 + 1, 0, none⟩), .int .i64 x.1, .int .i64 x.2, .pointer r, .func (.func 46) #[] #[.pointer (some ⟨bs, 0, none⟩)], .int .i64 x.1, .int .i64 x.2, undef, undef, undef, undef, undef, undef, undef, undef, undef, undef, undef, undef, undef, undef, undef], defers := [] }) ?assign ?body ?done ?stop
  case assign =>
    intro l x W K hK
    gi_wp2
    exact hK
  case body =>
    rintro l pre x W ⟨h, hgo⟩ hlt
    obtain ⟨⟨v, hv, hrow, -⟩, h7, h3, hB, hsz⟩ := h
    obtain ⟨A, c, rfl⟩ := own_slice hrow
    obtain ⟨sb, hsb⟩ : ∃ sb, rowBlk vr = sb := ⟨_, rfl⟩
    have hs2 := HSB.out (by omega)
    rw [hsb] at hs2 ⊢
    have Z3 := Lib.hid (show w.heap.size < w2.heap.size by omega)
    have Z7 := Lib.hid (show w.heap.size + 1 + 1 < w2.heap.size by omega)
    have HSB2 := Lib.hid (show w.heap.size ≤ w.heap.size + 1 ∧ w.heap.size + 1 < w2.heap.size ∧ sb < w2.heap.size ∧ w.heap.size + 1 ≠ sb by omega)
    have HSB7 := Lib.hid (show sb ≠ w.heap.size + 1 + 1 by omega)
    have HLT := Lib.hid hlt
    have HGO := Lib.hid hgo
    have SZW := Lib.hid (show w2.heap.size ≤ W.heap.size from hsz)
    obtain ⟨r1, hr1⟩ : ∃ r1, rightN pre = r1 := ⟨_, rfl⟩
    rw [hr1] at h7
    have HR1 := Lib.hid hr1
    have HRL := Lib.hid (show r1 ≤ 4096 by rw [← hr1]; have := rightN_le pre; have := HLEN.out; omega)
    have hq6 := hv.cell
    have hq7 := h7.cell
    have hf7 := h7.frozen
    have hq3 := h3.cell
    clear hsb hs2 hlt hgo hr1
    by_cases hx : x.1 = pre.length
    · have d0 : ((x.1 : Int) == (pre.length : Int)) = true := by simp [hx]
      have d1 : (x.1 == pre.length) = true := by simp [hx]
      obtain ⟨r2, hr2⟩ : ∃ r2, r1 + 1 = r2 := ⟨_, rfl⟩
      have hwr : wrap64 ((r1 : Int) + 1) = (r2 : Int) := by have := HRL.out; unfold wrap64; omega
      obtain ⟨W7, hW7⟩ : ∃ W7, W.setCell ⟨w.heap.size + 1 + 1, 0, none⟩ (.int .i64 (r2 : Int)) = W7 := ⟨_, rfl⟩
      have gg := grownBy_setCell' W (w.heap.size + 1 + 1) (.int .i64 (r2 : Int))
      have A7 := Lib.hid (h7.set (.int .i64 (r2 : Int)))
      have K7 := Lib.hid (KeepsOthers.setCell W ⟨w.heap.size + 1 + 1, 0, none⟩ (.int .i64 (r2 : Int)))
      have BL := Lib.hid (Below.setCell (hB) (p := ⟨w.heap.size + 1 + 1, 0, none⟩) (show w.heap.size ≤ w.heap.size + 1 + 1 by omega) (.int .i64 (r2 : Int)))
      rw [hW7] at gg A7 K7 BL
      have A6 := Lib.hid (hv.kept gg (by simp))
      have A3 := Lib.hid (h3.kept gg (by simp; omega))
      have R7 := Lib.hid (hrow.kept gg (.inr (h7.not_row (by decide) hrow).symm))
      have KB := Lib.hid (keepsBlk_grown (sb := sb) gg (by have := HSB7.out; simpa using this))
      have SZ := Lib.hid (show w2.heap.size ≤ W7.heap.size from Nat.le_trans SZW.out gg.size)
      have hq6' := A6.out.cell
      have HRR := Lib.hid (show rightN (pre ++ [x]) = r2 by rw [rightN_snoc, HR1.out, if_pos hx, hr2])
      clear gg hx hr2 hv h7 h3 hrow hB
      gi_wp2_with (gi_at_builtin; refine wpListIn_append_own _ rfl _ _ 22 rfl w2.heap.size 2 i0 (.int .i64 0) 1 8 Try.underlying22 hi hz0 hz1 hz2 rfl (by decide) _ _ _ rfl (R7.out.alloc _) ⟨W7.heap.size, 0, none⟩ 1 1 [.int .i64 x.2] rfl rfl (cell_one_new _ _ _) (by simp [Value.oneCell']) (by have := HLEN.out; have := HLT.out; simp only [maxLen]; omega) (by have := HLEN.out; have := HLT.out; omega) (by have := SZ.out; simp; omega) ?_; intro v' w1 hown' hgrow _; obtain ⟨g', cap', rfl⟩ := ownsRow_succ hown'; obtain ⟨w9, h9⟩ : ∃ w9, w1.setCell ⟨w.heap.size + 1, 0, none⟩ (.slice (some ⟨g', 0, none⟩) (pre.length + 1) cap') = w9 := ⟨_, rfl⟩; obtain ⟨s1, s2, s3, s4, s5, s6, s7⟩ := each_step (w := w) (w2 := w2) (sb := sb) (b6 := w.heap.size + 1) HSB2.out SZ.out A6.out R7.out hown' hgrow h9; have hc1 := s1.cell; have hf1 := s1.frozen; have hc9 := (s7 _ _ _ Z3.out (by simp) A3.out).cell; clear hgrow)
      all_goals
        have HE : EInv w w2.heap.size w.heap.size (w.heap.size + 1) (w.heap.size + 1 + 1) nn (pre ++ [x]) w9 := by
          refine ⟨⟨_, s2, by rw [List.length_append, List.map_append]; exact s3, trivial⟩, by rw [HRR.out]; exact s7 _ _ _ Z7.out (by simp) A7.out, s7 _ _ _ Z3.out (by simp) A3.out, BL.out.trans s5, Nat.le_trans SZ.out s5.size⟩
      · exact ⟨(K7.out.trans s4).from _, ⟨rfl, pre, x, rfl, by assumption, HGO.out⟩, HE⟩
      · refine ⟨(K7.out.trans s4).from _, keepsBlk_t KB.out s6, HE, ?_⟩
        intro y hy
        rcases List.mem_append.1 hy with hy | hy
        · exact HGO.out y hy
        · have : y = x := by simpa using hy
          subst this
          omega
    · have d0 : ((x.1 : Int) == (pre.length : Int)) = false := beq_eq_false_iff_ne.2 (by omega)
      have d1 : (x.1 == pre.length) = false := beq_eq_false_iff_ne.2 hx
      obtain ⟨W7, hW7⟩ : ∃ W7, W = W7 := ⟨_, rfl⟩
      subst hW7
      have A7 := Lib.hid h7
      have K7 := Lib.hid (KeepsOthers.refl W)
      have BL := Lib.hid hB
      have A6 := Lib.hid hv
      have A3 := Lib.hid h3
      have R7 := Lib.hid hrow
      have KB := Lib.hid (show KeepsBlk sb W W from fun _ ho _ => ho)
      have SZ := Lib.hid hsz
      have HRR := Lib.hid (show rightN (pre ++ [x]) = r1 by rw [rightN_snoc, HR1.out, if_neg hx, Nat.add_zero])
      clear hx hv h7 h3 hrow hB
      gi_wp2_with (gi_at_builtin; refine wpListIn_append_own _ rfl _ _ 22 rfl w2.heap.size 2 i0 (.int .i64 0) 1 8 Try.underlying22 hi hz0 hz1 hz2 rfl (by decide) _ _ _ rfl (R7.out.alloc _) ⟨W.heap.size, 0, none⟩ 1 1 [.int .i64 x.2] rfl rfl (cell_one_new _ _ _) (by simp [Value.oneCell']) (by have := HLEN.out; have := HLT.out; simp only [maxLen]; omega) (by have := HLEN.out; have := HLT.out; omega) (by have := SZ.out; simp; omega) ?_; intro v' w1 hown' hgrow _; obtain ⟨g', cap', rfl⟩ := ownsRow_succ hown'; obtain ⟨w9, h9⟩ : ∃ w9, w1.setCell ⟨w.heap.size + 1, 0, none⟩ (.slice (some ⟨g', 0, none⟩) (pre.length + 1) cap') = w9 := ⟨_, rfl⟩; obtain ⟨s1, s2, s3, s4, s5, s6, s7⟩ := each_step (w := w) (w2 := w2) (sb := sb) (b6 := w.heap.size + 1) HSB2.out SZ.out A6.out R7.out hown' hgrow h9; have hc1 := s1.cell; have hf1 := s1.frozen; have hc9 := (s7 _ _ _ Z3.out (by simp) A3.out).cell; clear hgrow)
      all_goals
        have HE : EInv w w2.heap.size w.heap.size (w.heap.size + 1) (w.heap.size + 1 + 1) nn (pre ++ [x]) w9 := by
          refine ⟨⟨_, s2, by rw [List.length_append, List.map_append]; exact s3, trivial⟩, by rw [HRR.out]; exact s7 _ _ _ Z7.out (by simp) A7.out, s7 _ _ _ Z3.out (by simp) A3.out, BL.out.trans s5, Nat.le_trans SZ.out s5.size⟩
      · exact ⟨(K7.out.trans s4).from _, ⟨rfl, pre, x, rfl, by assumption, HGO.out⟩, HE⟩
      · refine ⟨(K7.out.trans s4).from _, keepsBlk_t KB.out s6, HE, ?_⟩
        intro y hy
        rcases List.mem_append.1 hy with hy | hy
        · exact HGO.out y hy
        · have : y = x := by simpa using hy
          subst this
          omega
  case done =>
    rintro D ys W hD rfl ⟨h, hgo⟩ hK
    have hm := most_done hgo
    obtain ⟨⟨v, hv, hrow, -⟩, h7, h3, hB, hsz⟩ := h
    rw [rightN_upto] at h7
    have hq6 := hv.cell
    have hq7 := h7.cell
    obtain ⟨A, c, rfl⟩ := own_slice hrow
    have HM := Lib.hid hm
    have HO := Lib.hid (show (W.drew.putObj D (.deferred none)).ownsRow w2.heap.size 2 1 (.slice A (uptoI L L.length).length c) (L.take L.length).length (nums .i64 (L.take L.length)) by
      have ho : (W.drew.putObj D (.deferred none)).ownsRow w2.heap.size 2 1 (.slice A (uptoI L L.length).length c) (uptoI L L.length).length ((uptoI L L.length).map fun x => Value.int .i64 x.2) := ownsRow_putObj hrow (.deferred none) hK rfl
      have e : ((uptoI L L.length).map fun x => Value.int .i64 x.2) = nums .i64 (L.take L.length) := by
        rw [← upto_snd L L.length (Nat.le_refl _)]
        show _ = List.map _ _
        rw [List.map_map]
        rfl
      rw [e] at ho
      have e2 : (uptoI L L.length).length = (L.take L.length).length := by rw [← upto_snd L L.length (Nat.le_refl _), List.length_map]
      have e3 : (W.drew.putObj D (.deferred none)).ownsRow w2.heap.size 2 1 (.slice A (uptoI L L.length).length c) (L.take L.length).length (nums .i64 (L.take L.length)) := by
        rw [← e2]; exact ho
      exact e3)
    have HB9 := Lib.hid (show Below w.heap.size w (W.drew.putObj D (.deferred none)) from (show Below w.heap.size w W.drew from ⟨hB.os, hB.tape, hB.output, hB.size, hB.block⟩).trans (belowK_b (w := w) (Nat.le_refl _) W.drew D _ _ (Nat.le_trans HB2.out.size hD) hK rfl rfl))
    clear hm hrow hv h7 h3 hB
    gi_wp2
    first | gi_region | gi_region_o
    gi_wp2
    refine ⟨by simp, .inl ⟨_, _, rfl, run_takeDeferred (show W.drew.heap[D]? = _ from hK), ?_⟩⟩
    refine ⟨_, results_tmp2 rfl _ _ _, .slice A (uptoI L L.length).length c, ?_, ?_, HB9.out⟩
    · rw [HM.out]; rfl
    · rw [HM.out]
      exact Kd.R_of_own (own_weaken HO.out HB2.out.size) (fun _ _ => trivial)
  case stop =>
    rintro D c0 pre W hD ⟨k, hk, rfl⟩ ⟨⟨rfl, pre', x, he, hx, hgo⟩, h⟩ hK
    have hm := most_stop hk he hx hgo
    clear he hx hgo
    obtain ⟨⟨v, hv, hrow, -⟩, h7, h3, hB, hsz⟩ := h
    rw [rightN_upto] at h7
    have hq6 := hv.cell
    have hq7 := h7.cell
    obtain ⟨A, c, rfl⟩ := own_slice hrow
    have HM := Lib.hid hm
    have HO := Lib.hid (show (W.drew.putObj D (.deferred none)).ownsRow w2.heap.size 2 1 (.slice A (uptoI L k).length c) (L.take k).length (nums .i64 (L.take k)) by
      have ho : (W.drew.putObj D (.deferred none)).ownsRow w2.heap.size 2 1 (.slice A (uptoI L k).length c) (uptoI L k).length ((uptoI L k).map fun x => Value.int .i64 x.2) := ownsRow_putObj hrow (.deferred none) hK rfl
      have e : ((uptoI L k).map fun x => Value.int .i64 x.2) = nums .i64 (L.take k) := by
        rw [← upto_snd L k hk]
        show _ = List.map _ _
        rw [List.map_map]
        rfl
      rw [e] at ho
      have e2 : (uptoI L k).length = (L.take k).length := by rw [← upto_snd L k hk, List.length_map]
      have e3 : (W.drew.putObj D (.deferred none)).ownsRow w2.heap.size 2 1 (.slice A (uptoI L k).length c) (L.take k).length (nums .i64 (L.take k)) := by
        rw [← e2]; exact ho
      exact e3)
    have HB9 := Lib.hid (show Below w.heap.size w (W.drew.putObj D (.deferred none)) from (show Below w.heap.size w W.drew from ⟨hB.os, hB.tape, hB.output, hB.size, hB.block⟩).trans (belowK_b (w := w) (Nat.le_refl _) W.drew D _ _ (Nat.le_trans HB2.out.size hD) hK rfl rfl))
    clear hm hrow hv h7 h3 hB
    gi_wp2
    first | gi_region | gi_region_o
    gi_wp2
    refine ⟨by simp, .inl ⟨_, _, rfl, run_takeDeferred (show W.drew.heap[D]? = _ from hK), ?_⟩⟩
    refine ⟨_, results_tmp2 rfl _ _ _, .slice A (uptoI L k).length c, ?_, ?_, HB9.out⟩
    · rw [HM.out]; rfl
    · rw [HM.out]
      exact Kd.R_of_own (own_weaken HO.out HB2.out.size) (fun _ _ => trivial)
end Go.Proofs.Ytmlnbmbobkoipaa
