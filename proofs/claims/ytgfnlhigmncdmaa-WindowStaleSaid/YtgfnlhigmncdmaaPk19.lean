/-
  Texts of this seat, joined: WinFns5, WinFns6, WinNew, WinAwake.
-/
import Derived.Test.YtgfnlhigmncdmaaPk17
import Derived.Test.YtgfnlhigmncdmaaPk11
import Derived.Test.YtgfnlhigmncdmaaPk18
import Derived.Test.YtgfnlhigmncdmaaPk1
section
/-
  What the function Read of package window answers.
-/
namespace Go.Proofs.Ytgfnlhigmncdmaa
set_option linter.unusedVariables false
set_option linter.unusedSimpArgs false
open Go.RowKit Go.Proofs.Ytgfnlhigmncdmaa.XMono Go.Proofs.YtgfnlhigmncdmaaW.PrintWords Go.Proofs.YtgfnlhigmncdmaaW.PrintLast Go.Proofs.YtgfnlhigmncdmaaW.PrintMore

/-- What a window of an aggregate says of the numbers that it holds: a reason, and a number. -/
def readV (ta tr : Int) (L : List Int) : Int × Int :=
  if ta = 1 then (if inR L.sum then (0, L.sum) else (3, 0))
  else if ta = 5 then (0, (L.length : Int) * 1000000)
  else if L.length = 0 then (1, 0)
  else if ta = 2 then (0, L.sum / (L.length : Int))
  else if ta = 6 then (0, byV (srt L) tr)
  else (0, bestV (decide (ta = 4)) L)
theorem told_val (v : Int) (b : Bool) (why : Int) (w : World) : Calls Try.prog 33 #[.int .i64 v, .bool b, .int .i64 why] w fun e w' => (∃ r0 r1, e = .returned (.agg #[.int .i64 r0, .int .i64 r1]) ∧ r0 = (if b then 0 else why) ∧ r1 = (if b then v else 0)) ∧ Below w.heap.size w w' := by
  cases b with
  | true => exact (XWinA.window_told.calls v true why 0 v w rfl).mono fun e w' h => ⟨⟨0, v, h.1, rfl, rfl⟩, h.2⟩
  | false => exact (XWinA.window_told.calls v false why why 0 w rfl).mono fun e w' h => ⟨⟨why, 0, h.1, rfl, rfl⟩, h.2⟩
section
variable {w0 w w' : World} {g gr : Nat} {B O : Value} {ok Fr Fb Fo : Nat → Prop} {tm ta ts tr ck : Int} {bg : Bool} {L : List (Int × Int)} {N : Int}
theorem smp_sum {c : Int} {M : List (Int × Int)} (h : ∀ y ∈ M, SmpOk c y) (hl : M.length ≤ 4096) : -37778931862957161709568 ≤ sumV M ∧ sumV M ≤ 37778931862957161709568 ∧ (0 < M.length → inR ((M.map (·.2)).sum / (M.length : Int)) = true) := by
  have h1 := sum_bnd (M.map (·.2)) (fun x hx => by obtain ⟨y, hy, rfl⟩ := List.mem_map.1 hx; have := (h y hy).2.1; exact ⟨this.1, by have := this.2; omega⟩)
  rw [List.length_map] at h1
  unfold sumV
  generalize (M.map (·.2)).sum = X at *
  generalize M.length = n at *
  refine ⟨by omega, by omega, fun hn => decide_eq_true ?_⟩
  have a1 : -9223372036854775808 ≤ X / (n : Int) := (Int.le_ediv_iff_mul_le (by omega)).2 (by omega)
  have a2 : X / (n : Int) ≤ 9223372036854775807 := by
    have := Int.ediv_le_ediv (c := (n : Int)) (by omega) h1.2
    rw [Int.mul_ediv_cancel _ (by omega)] at this
    exact this
  omega
theorem expP_mem {t ts : Int} {L : List (Int × Int)} {y : Int × Int} (h : y ∈ expP t ts L) : y ∈ L := by
  obtain ⟨E, h1, -⟩ := expP_split t ts L
  rw [h1]
  exact List.mem_append_right _ h
set_option maxRecDepth 100000 in
theorem hollow_read {v : Value} (h : Hollow w v) (t : Int) : Calls Try.prog 13 #[v, .int .i64 t] w fun e w' => e = .returned (.tuple #[.agg #[.int .i64 0, .int .i64 0], .int .i64 4]) ∧ Below w.heap.size w w' := by
  obtain ⟨w1, hw1⟩ : ∃ w1, w.alloc (.cells #[.int .i64 0, .int .i64 0] 42) = w1 := ⟨_, rfl⟩
  obtain ⟨b, hbdef⟩ : ∃ b, w.heap.size = b := ⟨_, rfl⟩
  have hbel : Below w.heap.size w w1 := by subst hw1; exact below_alloc (Below.refl _ _) _
  have hblk : w1.heap[b]? = some (.cells #[.int .i64 0, .int .i64 0] 42 (0, 0)) := by subst hw1 hbdef; exact blk_new _ _
  have H := Lib.hid (h.below hbel)
  have HB := Lib.hid hbel
  have HK := Lib.hid hblk
  have HBD := Lib.hid hbdef
  clear h hbel hblk
  go_enter Try.func13, Try.ntmps13
  go_wp2_with fail
  refine (hollow_come H.out t).mono ?_
  rintro e w2 ⟨rfl, b2⟩
  have K2 := blk_below HK.out b2
  have v0 := (blk_cell K2 0).trans rfl
  have v1 := (blk_cell K2 1).trans rfl
  have f0 := blk_frozen K2 0
  have f1 := blk_frozen K2 1
  have K5 := Lib.hid K2
  have B2 := Lib.hid b2
  clear K2 b2
  go_wp2
  refine bodyPost_ret (results_ct rfl _ _ b 42 #[.int .i64 0, .int .i64 0] (0, 0) _ rfl (two_set K5.out _ _) Try.underlying42 rfl (by kernel_rfl)) rfl ?_
  have h1 := HB.out.trans (B2.out.mono HB.out.size)
  have h2 := HBD.out
  exact ⟨by simp, (h1.setCell (p := ⟨b, 0, none⟩) (by show _ ≤ b; omega) _).setCell (p := ⟨b, 1, none⟩) (by show _ ≤ b; omega) _⟩
set_option maxRecDepth 100000 in
theorem win_read_stale (h : RanL w0 w ok g gr B O tm ta ts tr ck true L N) {t : Int} (ht : t < ck) : Calls Try.prog 13 #[.pointer (some ⟨g, 0, none⟩), .int .i64 t] w fun e w' => e = .returned (.tuple #[.agg #[.int .i64 0, .int .i64 0], .int .i64 32]) ∧ Below w.heap.size w w' := by
  obtain ⟨w1, hw1⟩ : ∃ w1, w.alloc (.cells #[.int .i64 0, .int .i64 0] 42) = w1 := ⟨_, rfl⟩
  obtain ⟨b, hbdef⟩ : ∃ b, w.heap.size = b := ⟨_, rfl⟩
  have hbel : Below w.heap.size w w1 := by subst hw1; exact below_alloc (Below.refl _ _) _
  have hblk : w1.heap[b]? = some (.cells #[.int .i64 0, .int .i64 0] 42 (0, 0)) := by subst hw1 hbdef; exact blk_new _ _
  have H := Lib.hid (h.below hbel)
  have HB := Lib.hid hbel
  have HK := Lib.hid hblk
  have HT := Lib.hid ht
  have HBD := Lib.hid hbdef
  clear h hbel hblk ht
  go_enter Try.func13, Try.ntmps13
  go_wp2_with fail
  refine (win_come_stale H.out HT.out).mono ?_
  rintro e w2 ⟨rfl, rfl⟩
  have v0 := (blk_cell HK.out 0).trans rfl
  have v1 := (blk_cell HK.out 1).trans rfl
  have f0 := blk_frozen HK.out 0
  have f1 := blk_frozen HK.out 1
  go_wp2
  refine bodyPost_ret (results_ct rfl _ _ b 42 #[.int .i64 0, .int .i64 0] (0, 0) _ rfl (two_set HK.out _ _) Try.underlying42 rfl (by kernel_rfl)) rfl ?_
  have h2 := HBD.out
  exact ⟨by simp, (HB.out.setCell (p := ⟨b, 0, none⟩) (by show _ ≤ b; omega) _).setCell (p := ⟨b, 1, none⟩) (by show _ ≤ b; omega) _⟩
set_option maxHeartbeats 16000000 in
set_option maxRecDepth 100000 in
theorem win_read (h : RanL w0 w ok g gr B O tm ta ts tr ck bg L N) {t : Int} (hL : ∀ y ∈ L, SmpOk t y) (hc : R64 t) (h1 : 1 ≤ ts) (h2 : ts ≤ 604800) (ha : 1 ≤ ta ∧ ta ≤ 6) (hr : ta = 6 → 1 ≤ tr ∧ tr ≤ 100000000) (ht : bg = true → ck ≤ t) :
    Calls Try.prog 13 #[.pointer (some ⟨g, 0, none⟩), .int .i64 t] w fun e w' => e = .returned (.tuple #[.agg #[.int .i64 (readV ta tr ((expP t ts L).map (·.2))).1, .int .i64 (readV ta tr ((expP t ts L).map (·.2))).2], .int .i64 0]) ∧
      w.heap.size ≤ w'.heap.size ∧ RanL w0 w' ok g gr B O tm ta ts tr t true (expP t ts L) N := by
  obtain ⟨w1, hw1⟩ : ∃ w1, w.alloc (.cells #[.int .i64 0, .int .i64 0] 42) = w1 := ⟨_, rfl⟩
  obtain ⟨b, hbdef⟩ : ∃ b, w.heap.size = b := ⟨_, rfl⟩
  have hbel : Below w.heap.size w w1 := by subst hw1; exact below_alloc (Below.refl _ _) _
  have hblk : w1.heap[b]? = some (.cells #[.int .i64 0, .int .i64 0] 42 (0, 0)) := by subst hw1 hbdef; exact blk_new _ _
  have H := Lib.hid h
  have HB := Lib.hid hbel
  have Q1 := Lib.hid (h.box hbel)
  have HS := Lib.hid (show w.heap.size < w1.heap.size by subst hw1; simp only [World.size_alloc]; omega)
  have HK := Lib.hid hblk
  have HT := Lib.hid ht
  have HL := Lib.hid hL
  have HC := Lib.hid hc
  have H12 := Lib.hid (And.intro h1 h2)
  have HA := Lib.hid ha
  have HR := Lib.hid hr
  have HBD := Lib.hid hbdef
  have HNO := Lib.hid (show ¬ ((ok b ∨ w0.heap.size ≤ b) ∧ b < w.heap.size) by omega)
  obtain ⟨M, hM⟩ : ∃ M, expP t ts L = M := ⟨_, rfl⟩
  rw [hM]
  have HMM := Lib.hid hM
  clear h hbel hblk ht hL hc h1 h2 ha hr hM
  go_enter Try.func13, Try.ntmps13
  go_wp2_with fail
  refine (win_come Q1.out HT.out).mono ?_
  rintro e w2 ⟨rfl, s2, R2⟩
  have R2' := Lib.hid R2
  have S2 := Lib.hid s2
  clear R2 s2
  go_wp2_with fail
  refine (win_expire R2'.out HC.out HL.out H12.out.1 H12.out.2).mono ?_
  rintro e w3 ⟨rfl, s3, R3⟩
  rw [HMM.out] at R3
  have R3' := Lib.hid R3
  have S3 := Lib.hid s3
  have HM := Lib.hid (show ∀ y ∈ M, SmpOk t y from fun y hy => HL.out y (expP_mem (by rw [HMM.out]; exact hy)))
  obtain ⟨lo3, hi3, -, hb3⟩ := R3'.out.cells
  obtain ⟨d0, -, d2, -, d4, -, -, -, -, d9, d10⟩ := win_cells hb3
  have HFEW := Lib.hid R3'.out.few
  have HSUM := Lib.hid (smp_sum HM.out HFEW.out)
  clear R3 s3 hb3
  go_wp2_with fail
  refine (ran_len R3'.out).mono ?_
  rintro e w3' ⟨rfl, rfl⟩
  have K3 := Lib.hid (blk_kept HK.out R3'.out.kept HNO.out)
  obtain ⟨nM, hnM⟩ : ∃ n : Nat, M.length = n := ⟨_, rfl⟩
  have HN := Lib.hid hnM
  rw [hnM]
  go_upto_region 6 with fail
  obtain ⟨ha1, ha2⟩ := HA.out
  obtain rfl | rfl | rfl | rfl | rfl | rfl : ta = 1 ∨ ta = 2 ∨ ta = 3 ∨ ta = 4 ∨ ta = 5 ∨ ta = 6 := by omega
  · go_wp2_with fail
    refine (wide_fit R3'.out.wide (by have := HSUM.out; omega) (by have := HSUM.out; omega)).mono ?_
    rintro e w4 ⟨he, b4⟩
    obtain ⟨v, bb, he2⟩ : ∃ v bb, e = .returned (.tuple #[.int .i64 v, .bool bb]) := ⟨_, _, he⟩
    have HE := Lib.hid (he.symm.trans he2)
    subst he2
    clear he
    go_wp2_with fail
    refine (told_val _ _ _ _).mono ?_
    rintro e w5 ⟨⟨r0, r1, rfl, hr0, hr1⟩, b5⟩
    have HR0 := Lib.hid hr0
    have HR1 := Lib.hid hr1
    clear hr0 hr1
    have k5 := blk_below (blk_below K3.out b4) b5
    have b45 := b4.trans (b5.mono b4.size)
    have HB45 := Lib.hid b45
    clear b4 b5 b45
    have v0 := (blk_cell k5 0).trans rfl
    have v1 := (blk_cell k5 1).trans rfl
    have f0 := blk_frozen k5 0
    have f1 := blk_frozen k5 1
    have K5 := Lib.hid k5
    have BL := Lib.hid (HB45.out)
    clear k5
    go_wp2
    refine bodyPost_ret (results_ct rfl _ _ b 42 _ (0, 0) _ rfl (two_set K5.out _ _) Try.underlying42 rfl (by kernel_rfl)) rfl ?_
    have q1 := HS.out
    have q2 := S2.out
    have q3 := S3.out
    have q4 := BL.out.size
    have q5 := HBD.out
    refine ⟨?_, by simp [World.setCell]; omega, H.out.joinset HB.out (R3'.out.below BL.out) (q := b) (by omega) (by omega) ?_ ?_⟩
    · (have hE : toldN (sumV M) = v ∧ inR (sumV M) = bb := by simpa using HE.out
       have h0 := HR0.out
       have h1 := HR1.out
       have hn := HN.out
       have hs := HSUM.out.2.2
       have hl : (M.map (·.2)).length = nM := by rw [List.length_map, hn]
       have e : readV 1 tr (M.map (·.2)) = (r0, r1) := by
         rw [h0, h1, ← hE.1, ← hE.2]
         unfold readV toldN sumV
         rw [if_pos rfl]
         cases inR (M.map (·.2)).sum <;> simp
       rw [e]
       simp)
    · exact ((Kept.refl _ (fun k => k = b)).setCell (p := ⟨b, 0, none⟩) (.inl rfl) _).setCell (p := ⟨b, 1, none⟩) (.inl rfl) _
    · exact ((Below.refl 0 _).setCell (p := ⟨b, 0, none⟩) (Nat.zero_le _) _).setCell (p := ⟨b, 1, none⟩) (Nat.zero_le _) _
  · go_wp2_with fail
    refine (wide_mean R3'.out.wide (n := (nM : Int)) (by have := HN.out; have := HFEW.out; constructor <;> omega) (by have := HSUM.out; omega) (by have := HSUM.out; omega)).mono ?_
    rintro e w4 ⟨he, b4⟩
    obtain ⟨v, bb, he2⟩ : ∃ v bb, e = .returned (.tuple #[.int .i64 v, .bool bb]) := ⟨_, _, he⟩
    have HE := Lib.hid (he.symm.trans he2)
    subst he2
    clear he
    go_wp2_with fail
    refine (told_val _ _ _ _).mono ?_
    rintro e w5 ⟨⟨r0, r1, rfl, hr0, hr1⟩, b5⟩
    have HR0 := Lib.hid hr0
    have HR1 := Lib.hid hr1
    clear hr0 hr1
    have k5 := blk_below (blk_below K3.out b4) b5
    have b45 := b4.trans (b5.mono b4.size)
    have HB45 := Lib.hid b45
    clear b4 b5 b45
    have v0 := (blk_cell k5 0).trans rfl
    have v1 := (blk_cell k5 1).trans rfl
    have f0 := blk_frozen k5 0
    have f1 := blk_frozen k5 1
    have K5 := Lib.hid k5
    have BL := Lib.hid (HB45.out)
    clear k5
    go_wp2
    refine bodyPost_ret (results_ct rfl _ _ b 42 _ (0, 0) _ rfl (two_set K5.out _ _) Try.underlying42 rfl (by kernel_rfl)) rfl ?_
    have q1 := HS.out
    have q2 := S2.out
    have q3 := S3.out
    have q4 := BL.out.size
    have q5 := HBD.out
    refine ⟨?_, by simp [World.setCell]; omega, H.out.joinset HB.out (R3'.out.below BL.out) (q := b) (by omega) (by omega) ?_ ?_⟩
    · (have hE : (if (nM : Int) < 1 then 0 else toldN (sumV M / (nM : Int))) = v ∧ (if (nM : Int) < 1 then false else inR (sumV M / (nM : Int))) = bb := by simpa using HE.out
       have h0 := HR0.out
       have h1 := HR1.out
       have hn := HN.out
       have hs := HSUM.out.2.2
       have hl : (M.map (·.2)).length = nM := by rw [List.length_map, hn]
       have e : readV 2 tr (M.map (·.2)) = (r0, r1) := by
         rw [h0, h1, ← hE.1, ← hE.2]
         clear hE h0 h1
         by_cases hz : nM = 0
         · subst hz; simp [readV, hl]
         · have h5 := hs (by omega)
           rw [hn] at h5
           have hz1 : ¬ (nM : Int) < 1 := by omega
           have hx : readV 2 tr (M.map (·.2)) = (0, (M.map (·.2)).sum / (nM : Int)) := by simp [readV, hl, hz]
           rw [hx, if_neg hz1, if_neg hz1]
           unfold toldN sumV
           rw [h5]
           simp
       rw [e]
       simp)
    · exact ((Kept.refl _ (fun k => k = b)).setCell (p := ⟨b, 0, none⟩) (.inl rfl) _).setCell (p := ⟨b, 1, none⟩) (.inl rfl) _
    · exact ((Below.refl 0 _).setCell (p := ⟨b, 0, none⟩) (Nat.zero_le _) _).setCell (p := ⟨b, 1, none⟩) (Nat.zero_le _) _
  · go_wp2_with fail
    refine (ran_best R3'.out (by omega)).mono ?_
    rintro e w4 ⟨he, b4⟩
    obtain ⟨v, bb, he2⟩ : ∃ v bb, e = .returned (.tuple #[.int .i64 v, .bool bb]) := ⟨_, _, he⟩
    have HE := Lib.hid (he.symm.trans he2)
    subst he2
    clear he
    go_wp2_with fail
    refine (told_val _ _ _ _).mono ?_
    rintro e w5 ⟨⟨r0, r1, rfl, hr0, hr1⟩, b5⟩
    have HR0 := Lib.hid hr0
    have HR1 := Lib.hid hr1
    clear hr0 hr1
    have k5 := blk_below (blk_below K3.out b4) b5
    have b45 := b4.trans (b5.mono b4.size)
    have HB45 := Lib.hid b45
    clear b4 b5 b45
    have v0 := (blk_cell k5 0).trans rfl
    have v1 := (blk_cell k5 1).trans rfl
    have f0 := blk_frozen k5 0
    have f1 := blk_frozen k5 1
    have K5 := Lib.hid k5
    have BL := Lib.hid (HB45.out)
    clear k5
    go_wp2
    refine bodyPost_ret (results_ct rfl _ _ b 42 _ (0, 0) _ rfl (two_set K5.out _ _) Try.underlying42 rfl (by kernel_rfl)) rfl ?_
    have q1 := HS.out
    have q2 := S2.out
    have q3 := S3.out
    have q4 := BL.out.size
    have q5 := HBD.out
    refine ⟨?_, by simp [World.setCell]; omega, H.out.joinset HB.out (R3'.out.below BL.out) (q := b) (by omega) (by omega) ?_ ?_⟩
    · (have hE : bestV (decide ((3 : Int) = 4)) (M.map (·.2)) = v ∧ some? (M.map (·.2)) = bb := by simpa using HE.out
       have h0 := HR0.out
       have h1 := HR1.out
       have hn := HN.out
       have hs := HSUM.out.2.2
       have hl : (M.map (·.2)).length = nM := by rw [List.length_map, hn]
       have e : readV 3 tr (M.map (·.2)) = (r0, r1) := by
         rw [h0, h1, ← hE.1, ← hE.2]
         clear hE h0 h1
         by_cases hz : nM = 0
         · subst hz; simp [readV, some?, hl]
         · have hp : 0 < nM := by omega
           have hx : readV 3 tr (M.map (·.2)) = (0, bestV (decide ((3 : Int) = 4)) (M.map (·.2))) := by simp [readV, hl, hz]
           have hy : some? (M.map (·.2)) = true := by unfold some?; rw [hl]; exact decide_eq_true hp
           rw [hx, hy]
           simp
       rw [e]
       simp)
    · exact ((Kept.refl _ (fun k => k = b)).setCell (p := ⟨b, 0, none⟩) (.inl rfl) _).setCell (p := ⟨b, 1, none⟩) (.inl rfl) _
    · exact ((Below.refl 0 _).setCell (p := ⟨b, 0, none⟩) (Nat.zero_le _) _).setCell (p := ⟨b, 1, none⟩) (Nat.zero_le _) _
  · go_wp2_with fail
    refine (ran_best R3'.out (by omega)).mono ?_
    rintro e w4 ⟨he, b4⟩
    obtain ⟨v, bb, he2⟩ : ∃ v bb, e = .returned (.tuple #[.int .i64 v, .bool bb]) := ⟨_, _, he⟩
    have HE := Lib.hid (he.symm.trans he2)
    subst he2
    clear he
    go_wp2_with fail
    refine (told_val _ _ _ _).mono ?_
    rintro e w5 ⟨⟨r0, r1, rfl, hr0, hr1⟩, b5⟩
    have HR0 := Lib.hid hr0
    have HR1 := Lib.hid hr1
    clear hr0 hr1
    have k5 := blk_below (blk_below K3.out b4) b5
    have b45 := b4.trans (b5.mono b4.size)
    have HB45 := Lib.hid b45
    clear b4 b5 b45
    have v0 := (blk_cell k5 0).trans rfl
    have v1 := (blk_cell k5 1).trans rfl
    have f0 := blk_frozen k5 0
    have f1 := blk_frozen k5 1
    have K5 := Lib.hid k5
    have BL := Lib.hid (HB45.out)
    clear k5
    go_wp2
    refine bodyPost_ret (results_ct rfl _ _ b 42 _ (0, 0) _ rfl (two_set K5.out _ _) Try.underlying42 rfl (by kernel_rfl)) rfl ?_
    have q1 := HS.out
    have q2 := S2.out
    have q3 := S3.out
    have q4 := BL.out.size
    have q5 := HBD.out
    refine ⟨?_, by simp [World.setCell]; omega, H.out.joinset HB.out (R3'.out.below BL.out) (q := b) (by omega) (by omega) ?_ ?_⟩
    · (have hE : bestV (decide ((4 : Int) = 4)) (M.map (·.2)) = v ∧ some? (M.map (·.2)) = bb := by simpa using HE.out
       have h0 := HR0.out
       have h1 := HR1.out
       have hn := HN.out
       have hs := HSUM.out.2.2
       have hl : (M.map (·.2)).length = nM := by rw [List.length_map, hn]
       have e : readV 4 tr (M.map (·.2)) = (r0, r1) := by
         rw [h0, h1, ← hE.1, ← hE.2]
         clear hE h0 h1
         by_cases hz : nM = 0
         · subst hz; simp [readV, some?, hl]
         · have hp : 0 < nM := by omega
           have hx : readV 4 tr (M.map (·.2)) = (0, bestV (decide ((4 : Int) = 4)) (M.map (·.2))) := by simp [readV, hl, hz]
           have hy : some? (M.map (·.2)) = true := by unfold some?; rw [hl]; exact decide_eq_true hp
           rw [hx, hy]
           simp
       rw [e]
       simp)
    · exact ((Kept.refl _ (fun k => k = b)).setCell (p := ⟨b, 0, none⟩) (.inl rfl) _).setCell (p := ⟨b, 1, none⟩) (.inl rfl) _
    · exact ((Below.refl 0 _).setCell (p := ⟨b, 0, none⟩) (Nat.zero_le _) _).setCell (p := ⟨b, 1, none⟩) (Nat.zero_le _) _
  · go_wp2_with fail
    refine (fix_Whole.calls (nM : Int) ((nM : Int) * 1000000) _ (by have := HN.out; have := HFEW.out; unfold fix_Whole.f; rw [if_pos (by constructor <;> omega)]; unfold heldI; rw [if_neg (by omega), if_neg (by omega)])).mono ?_
    rintro e w4 ⟨rfl, b4⟩
    have k4 := blk_below K3.out b4
    have HB45 := Lib.hid b4
    clear b4
    have v0 := (blk_cell k4 0).trans rfl
    have v1 := (blk_cell k4 1).trans rfl
    have f0 := blk_frozen k4 0
    have f1 := blk_frozen k4 1
    have K5 := Lib.hid k4
    have BL := Lib.hid (HB45.out)
    clear k4
    go_wp2
    refine bodyPost_ret (results_ct rfl _ _ b 42 _ (0, 0) _ rfl (two_set K5.out _ _) Try.underlying42 rfl (by kernel_rfl)) rfl ?_
    have q1 := HS.out
    have q2 := S2.out
    have q3 := S3.out
    have q4 := BL.out.size
    have q5 := HBD.out
    refine ⟨?_, by simp [World.setCell]; omega, H.out.joinset HB.out (R3'.out.below BL.out) (q := b) (by omega) (by omega) ?_ ?_⟩
    · (have hn := HN.out
       have e : readV 5 tr (M.map (·.2)) = (0, (nM : Int) * 1000000) := by
         unfold readV
         rw [if_neg (by decide), if_pos rfl, List.length_map, hn]
       rw [e]
       simp)
    · exact ((Kept.refl _ (fun k => k = b)).setCell (p := ⟨b, 0, none⟩) (.inl rfl) _).setCell (p := ⟨b, 1, none⟩) (.inl rfl) _
    · exact ((Below.refl 0 _).setCell (p := ⟨b, 0, none⟩) (Nat.zero_le _) _).setCell (p := ⟨b, 1, none⟩) (Nat.zero_le _) _
  · go_wp2
    go_region_held3 (fun w' => w'.cell? ⟨g, 10, none⟩ = some O ∧ w'.cell? ⟨g, 4, none⟩ = some (.int .i64 tr)) (first | exact ⟨e10, e4⟩ | (simp [go_sem, d10, d4]; done)) (first
      | (go_at_call 36; refine (ran_by (R3'.out.below (Below.refl _ _).drew) rfl tr).mono ?_; rintro e w4 ⟨⟨S, hS1, hS2, he⟩, b4⟩; obtain ⟨v, bb, he2⟩ : ∃ v bb, e = .returned (.tuple #[.int .i64 v, .bool bb]) := ⟨_, _, he⟩; have HE := Lib.hid (he.symm.trans he2); subst he2; clear he; have e10 := (b4.cell (p := ⟨g, 10, none⟩) (by have := R3'.out.lt; simpa using this)).trans d10; have e4 := (b4.cell (p := ⟨g, 4, none⟩) (by have := R3'.out.lt; simpa using this)).trans d4; have B4 := Lib.hid b4; have HSS := Lib.hid (srt_unique hS1 hS2); clear b4 hS1 hS2))
    have b4 := (Below.refl _ _).drew.trans B4.out
    go_wp2_with fail
    refine (told_val _ _ _ _).mono ?_
    rintro e w5 ⟨⟨r0, r1, rfl, hr0, hr1⟩, b5⟩
    have HR0 := Lib.hid hr0
    have HR1 := Lib.hid hr1
    clear hr0 hr1
    have k5 := blk_below (blk_below K3.out b4) b5
    have b45 := b4.trans (b5.mono b4.size)
    have HB45 := Lib.hid b45
    clear b4 b5 b45
    have v0 := (blk_cell k5 0).trans rfl
    have v1 := (blk_cell k5 1).trans rfl
    have f0 := blk_frozen k5 0
    have f1 := blk_frozen k5 1
    have K5 := Lib.hid k5
    have BL := Lib.hid (HB45.out)
    clear k5
    go_wp2
    refine bodyPost_ret (results_ct rfl _ _ b 42 _ (0, 0) _ rfl (two_set K5.out _ _) Try.underlying42 rfl (by kernel_rfl)) rfl ?_
    have q1 := HS.out
    have q2 := S2.out
    have q3 := S3.out
    have q4 := BL.out.size
    have q5 := HBD.out
    refine ⟨?_, by simp [World.setCell]; omega, H.out.joinset HB.out (R3'.out.below BL.out) (q := b) (by omega) (by omega) ?_ ?_⟩
    · (have hE : byV S tr = v ∧ askB S tr = bb := by simpa using HE.out
       have h0 := HR0.out
       have h1 := HR1.out
       have hn := HN.out
       have hs := HSUM.out.2.2
       have hl : (M.map (·.2)).length = nM := by rw [List.length_map, hn]
       have e : readV 6 tr (M.map (·.2)) = (r0, r1) := by
         have hS := HSS.out
         have hr : 1 ≤ tr ∧ tr ≤ 100000000 := by have := HR.out; simpa using this
         rw [h0, h1, ← hE.1, ← hE.2, hS]
         clear hE h0 h1
         have hk : (srt (M.map (·.2))).length = nM := by rw [srt_len, hl]
         by_cases hz : nM = 0
         · have hq : askB (srt (M.map (·.2))) tr = false := decide_eq_false (by omega)
           have hx : readV 6 tr (M.map (·.2)) = (1, 0) := by simp [readV, hl, hz]
           rw [hx, hq]
           simp
         · have hq : askB (srt (M.map (·.2))) tr = true := decide_eq_true (by omega)
           have hx : readV 6 tr (M.map (·.2)) = (0, byV (srt (M.map (·.2))) tr) := by simp [readV, hl, hz]
           rw [hx, hq]
           simp
       rw [e]
       simp)
    · exact ((Kept.refl _ (fun k => k = b)).setCell (p := ⟨b, 0, none⟩) (.inl rfl) _).setCell (p := ⟨b, 1, none⟩) (.inl rfl) _
    · exact ((Below.refl 0 _).setCell (p := ⟨b, 0, none⟩) (Nat.zero_le _) _).setCell (p := ⟨b, 1, none⟩) (Nat.zero_le _) _
end
end Go.Proofs.Ytgfnlhigmncdmaa
end
section
/-
  What List answers of a ring of samples; what Held and New of package window do.
-/
namespace Go.Proofs.Ytgfnlhigmncdmaa
set_option linter.unusedVariables false
set_option linter.unusedSimpArgs false
open Go.RowKit Go.Proofs.Ytgfnlhigmncdmaa.XMono Go.Proofs.YtgfnlhigmncdmaaW.PrintWords Go.Proofs.YtgfnlhigmncdmaaW.PrintLast Go.Proofs.YtgfnlhigmncdmaaW.PrintMore

/-- A sample as the printed texts name it. -/
def toS (y : Int × Int) : XWinA.S38 := ⟨y.1, y.2⟩
set_option maxHeartbeats 8000000 in
set_option maxRecDepth 100000 in
theorem ringsS_list {w : World} {g : Nat} {ok : Nat → Prop} {room : Int} {L : List (Int × Int)} (h : RingIsS w g ok room L) :
    Calls Try.prog 42 #[.pointer (some ⟨g, 0, none⟩)] w fun e w' => ∃ v, e = .returned v ∧ Kd.R XWinA.k38 38 w' w.heap.size (fun _ => True) v (L.map toS) ∧ Below w.heap.size w w' := by
  have HH := Lib.hid h
  have HF := Lib.hid h.few
  clear h
  go_enter Try.func42, Try.ntmps42
  go_wp2_with fail
  refine (ringsS_len HH.out).mono ?_
  rintro e w1 ⟨rfl, rfl⟩
  go_wp2
  go_loopg [3, 9] L.length (fun kq v3 v9 w' => ∃ i : Nat, v9 = .int .i64 i ∧ Aside0 (i + kq = L.length) ∧ Aside0 (Kd.R XWinA.k38 38 w' w.heap.size (fun _ => True) v3 ((L.take i).map toS)) ∧ Aside0 (Below w.heap.size w w'))
  case atStart => exact ⟨0, rfl, ⟨by omega⟩, ⟨Kd.R_nil _ _ _ _ _⟩, ⟨Below.refl _ _⟩⟩
  case round =>
    obtain ⟨i, rfl, hk, hr, hb⟩ := hrel
    by_cases hi : i < L.length
    · have hd : decide (i < L.length) = true := decide_eq_true hi
      have Hi := Lib.hid hi
      clear hi
      go_wp2_with fail
      refine (ringsS_at (HH.out.below hb.out) (i : Int)).mono ?_
      rintro e w2 ⟨rfl, hb2⟩
      have HR2 := Lib.hid (Kd.R_below hr.out hb2)
      obtain ⟨T, hT⟩ : ∃ T, (L.take i).map toS = T := ⟨_, rfl⟩
      rw [hT] at HR2
      have HTT := Lib.hid hT
      have HLn := Lib.hid (show T.length = i by have := Hi.out; rw [← hT, List.length_map, List.length_take]; omega)
      obtain ⟨x, hx⟩ : ∃ x, atS L (i : Int) = x := ⟨_, rfl⟩
      have HX := Lib.hid hx
      rw [hx]
      obtain ⟨w3, hw3⟩ : ∃ w3, w2.alloc (.cells #[.int .i64 x.1, .int .i64 x.2] 38) = w3 := ⟨_, rfl⟩
      obtain ⟨b6, hb6⟩ : ∃ b6, w2.heap.size = b6 := ⟨_, rfl⟩
      have k6 : w3.heap[b6]? = some (.cells #[.int .i64 x.1, .int .i64 x.2] 38 (0, 0)) := by subst hw3 hb6; exact blk_new _ _
      have b3 : Below w2.heap.size w2 w3 := by subst hw3; exact below_alloc (Below.refl _ _) _
      have Hb3 := Lib.hid ((hb.out.trans (hb2.mono hb.out.size)).trans (b3.mono (Nat.le_trans hb.out.size hb2.size)))
      have HR3 := Lib.hid (Kd.R_below HR2.out b3)
      have x0 := (blk_cell k6 0).trans rfl
      have x1 := (blk_cell k6 1).trans rfl
      clear hT hb2 hx hr k6 b3
      obtain ⟨A3, c3, rfl⟩ := Kd.R_slice HR3.out
      go_wp2_with (first | ((with_reducible refine gate_builtin (b := .append) (xs := #[.tmp 18, .tmp 20]) rfl ?_); at_builtin; refine Kd.R_append XWinA.k38 (w0 := w) w.heap.size rfl (.tmp 18) (.tmp 20) 34 38 (.agg #[(.int .i64 0), (.int .i64 0)]) 16 rfl Try.underlying34 XWinA.info38 rfl (by decide) (by decide) (.slice A3 T.length c3) T (toS x) [.int .i64 x.1, .int .i64 x.2] (fun _ => True) (fun _ => False) (by rfl) (by first | rfl | (simp only [World.size_alloc]; rfl)) ?aP (fun _ hk => hk.elim) ?aF ?aO ?aB ?aS ?aL ?_; (case aP => exact XWinA.k38_mkM _ _ _ (toS x)); (case aF => exact (fun _ _ => trivial)); (case aO => exact (by (with_reducible repeat (first | apply Kd.R_alloc | apply Kd.R_drewN | apply Kd.R_drew)); exact HR3.out)); (case aB => exact (by repeat (first | (with_reducible first | exact Hb3.out | apply below_alloc | apply pw_below_drewN | apply below_drew1) | exact Hb3.out))); (case aS => exact (below_size (by repeat (first | (with_reducible first | exact Hb3.out | apply below_alloc | apply pw_below_drewN | apply below_drew1) | exact Hb3.out)))); (case aL => have := HLn.out; have := Hi.out; have := HF.out; omega); intro v108 w9 ho hb9 hg9 hat; have HB9 := Lib.hid hb9; have HO := Lib.hid ho; clear ho hb9 hg9 hat))
      have hw : wrap64 ((i : Int) + 1) = ((i + 1 : Nat) : Int) := by have := Hi.out; have := HF.out; unfold wrap64; omega
      go_roundg (gk - 1)
      case measure => have := hk.out; have := Hi.out; omega
      case rel =>
        refine ⟨i + 1, by first | rfl | simp [hw], ⟨by have := hk.out; have := Hi.out; omega⟩, ⟨?_⟩, ⟨HB9.out⟩⟩
        have e : (L.take (i + 1)).map toS = T ++ [toS x] := by
          have hi := Hi.out
          rw [← HTT.out, List.take_add_one, List.getElem?_eq_getElem hi, Option.toList_some, List.map_append, ← HX.out]
          unfold atS
          rw [if_pos ⟨by omega, by omega⟩, Int.toNat_natCast, List.getD_eq_getElem?_getD, List.getElem?_eq_getElem hi]
          rfl
        rw [e]
        exact HO.out
    · have hd : decide (i < L.length) = false := decide_eq_false hi
      have hik : i = L.length := by have := hk.out; omega
      rw [hik, List.take_length] at hr
      clear hik hi
      obtain ⟨A3, c3, rfl⟩ := Kd.R_slice hr.out
      go_wp2
      go_ret
      exact ⟨_, rfl, hr.out, hb.out⟩

section
variable {w0 w w' : World} {g gr : Nat} {B O : Value} {ok Fr Fb Fo : Nat → Prop} {tm ta ts tr ck : Int} {bg : Bool} {L : List (Int × Int)} {N : Int}
theorem hollow_held {v : Value} (h : Hollow w v) (t : Int) : Calls Try.prog 19 #[v, .int .i64 t] w fun e w' => e = .returned (.tuple #[.slice none 0 0, .int .i64 4]) ∧ Below w.heap.size w w' := by
  have H := Lib.hid h
  clear h
  go_enter Try.func19, Try.ntmps19
  go_wp2_with fail
  refine (hollow_come H.out t).mono ?_
  rintro e w2 ⟨rfl, b2⟩
  go_wp2
  go_ret2
  exact ⟨by simp, b2⟩
set_option maxRecDepth 100000 in
theorem win_held_stale (h : RanL w0 w ok g gr B O tm ta ts tr ck true L N) {t : Int} (ht : t < ck) : Calls Try.prog 19 #[.pointer (some ⟨g, 0, none⟩), .int .i64 t] w fun e w' => e = .returned (.tuple #[.slice none 0 0, .int .i64 32]) ∧ w = w' := by
  have H := Lib.hid h
  have HT := Lib.hid ht
  clear h ht
  go_enter Try.func19, Try.ntmps19
  go_wp2_with fail
  refine (win_come_stale H.out HT.out).mono ?_
  rintro e w2 ⟨rfl, rfl⟩
  go_wp2
  go_ret2
  exact ⟨by simp, rfl⟩
set_option maxRecDepth 100000 in
theorem win_held (h : RanL w0 w ok g gr B O tm ta ts tr ck bg L N) {t : Int} (hL : ∀ y ∈ L, SmpOk t y) (hc : R64 t) (h1 : 1 ≤ ts) (h2 : ts ≤ 604800) (ht : bg = true → ck ≤ t) :
    Calls Try.prog 19 #[.pointer (some ⟨g, 0, none⟩), .int .i64 t] w fun e w' => ∃ (v : Value) (w1 : World), e = .returned (.tuple #[v, .int .i64 0]) ∧ Kd.R XWinA.k38 38 w' w1.heap.size (fun _ => True) v ((expP t ts L).map toS) ∧ w.heap.size ≤ w1.heap.size ∧
      RanL w0 w1 ok g gr B O tm ta ts tr t true (expP t ts L) N ∧ Below w1.heap.size w1 w' := by
  have Q1 := Lib.hid h
  have HT := Lib.hid ht
  have HL := Lib.hid hL
  have HC := Lib.hid hc
  have H12 := Lib.hid (And.intro h1 h2)
  clear h ht hL hc h1 h2
  go_enter Try.func19, Try.ntmps19
  go_wp2_with fail
  refine (win_come Q1.out HT.out).mono ?_
  rintro e w2 ⟨rfl, s2, R2⟩
  have R2' := Lib.hid R2
  have S2 := Lib.hid s2
  clear R2 s2
  go_wp2_with fail
  refine (win_expire R2'.out HC.out HL.out H12.out.1 H12.out.2).mono ?_
  rintro e w3 ⟨rfl, s3, R3⟩
  have R3' := Lib.hid R3
  have S3 := Lib.hid s3
  obtain ⟨lo3, hi3, -, hb3⟩ := R3'.out.cells
  obtain ⟨d0, -, -, -, -, -, -, -, -, -, -⟩ := win_cells hb3
  clear R3 s3 hb3
  obtain ⟨Fr, Fb, Fo, k1, -⟩ := R3'.out.ex
  obtain ⟨okr, r1, -, -⟩ := k1.ring
  have HRR := Lib.hid r1
  clear k1 r1
  go_wp2_with fail
  refine (ringsS_list HRR.out).mono ?_
  rintro e w4 ⟨v, rfl, r4, b4⟩
  obtain ⟨A3, c3, rfl⟩ := Kd.R_slice r4
  have HR4 := Lib.hid r4
  have HB4 := Lib.hid b4
  clear r4 b4
  go_wp2
  go_ret2
  exact ⟨_, w3, by simp, HR4.out, Nat.le_trans S2.out S3.out, R3'.out, HB4.out⟩
end
end Go.Proofs.Ytgfnlhigmncdmaa
end
section
/-
  What New of package window makes; which terms are right.
-/
namespace Go.Proofs.Ytgfnlhigmncdmaa
set_option linter.unusedVariables false
set_option linter.unusedSimpArgs false
open Go.RowKit Go.Proofs.Ytgfnlhigmncdmaa.XMono Go.Proofs.YtgfnlhigmncdmaaW.PrintWords Go.Proofs.YtgfnlhigmncdmaaW.PrintLast Go.Proofs.YtgfnlhigmncdmaaW.PrintMore

/-- The terms that are right. -/
def RightT (tm ta ts tr : Int) : Prop := 0 ≤ tm ∧ 1 ≤ ta ∧ ta ≤ 6 ∧ 1 ≤ ts ∧ ts ≤ 604800 ∧ (ta = 6 → 1 ≤ tr ∧ tr ≤ 100000000) ∧ (ta ≠ 6 → tr = 0)
instance (tm ta ts tr : Int) : Decidable (RightT tm ta ts tr) := by unfold RightT; infer_instance
theorem right_prog (tm ta ts tr : Int) : XWinA.window_Right.f tm ta ts tr = some (decide (RightT tm ta ts tr)) := by
  unfold XWinA.window_Right.f RightT
  by_cases h6 : ta = 6
  · rw [if_pos h6]
    by_cases h1 : tr ≥ 1
    · rw [if_pos h1]
      by_cases h2 : tm ≥ 0 <;> by_cases h3 : ta ≥ 1 <;> by_cases h4 : ta ≤ 6 <;> by_cases h5 : ts ≥ 1 <;> by_cases h7 : ts ≤ 604800 <;> simp [*] <;> omega
    · rw [if_neg h1]
      by_cases h2 : tm ≥ 0 <;> by_cases h3 : ta ≥ 1 <;> by_cases h4 : ta ≤ 6 <;> by_cases h5 : ts ≥ 1 <;> by_cases h7 : ts ≤ 604800 <;> simp [*] <;> omega
  · rw [if_neg h6]
    by_cases h2 : tm ≥ 0 <;> by_cases h3 : ta ≥ 1 <;> by_cases h4 : ta ≤ 6 <;> by_cases h5 : ts ≥ 1 <;> by_cases h7 : ts ≤ 604800 <;> simp [*] <;> try omega
    rw [Bool.eq_iff_iff]
    simp
theorem right_ref (tm ta ts tr : Int) (k : Nat) : XWinA.capstanref08_Right.f (k + 1) tm ta ts tr = some (decide (RightT tm ta ts tr)) := by
  unfold XWinA.capstanref08_Right.f
  simp only [XWinA.capstanref08_Right.j0]
  unfold RightT
  by_cases h2 : tm < 0 <;> by_cases h3 : ta < 1 <;> by_cases h4 : ta > 6 <;> by_cases h5 : ts < 1 <;> by_cases h7 : ts > 604800 <;> by_cases h6 : ta = 6 <;> by_cases h1 : tr ≥ 1 <;> simp [*] <;> try omega
  all_goals (rw [Bool.eq_iff_iff]; simp only [Bool.and_eq_true, decide_eq_true_eq, beq_iff_eq]; omega)

set_option maxRecDepth 100000 in
theorem win_new_no {tm ta ts tr : Int} (w : World) (h : ¬ RightT tm ta ts tr) : Calls Try.prog 9 #[.agg #[.int .i64 tm, .int .i64 ta, .int .i64 ts, .int .i64 tr]] w fun e w' => e = .returned (.tuple #[.pointer none, .int .i64 3]) ∧ Below w.heap.size w w' := by
  have H := Lib.hid h
  clear h
  go_enter Try.func9, Try.ntmps9
  go_wp2_with fail
  refine (XWinA.window_Right.calls tm ta ts tr false _ (by rw [right_prog, decide_eq_false H.out])).mono ?_
  rintro e w1 ⟨rfl, b1⟩
  go_wp2
  go_ret2
  exact ⟨by simp, (below_alloc (Below.refl _ _) _).trans (b1.mono (by simp only [World.size_alloc]; omega))⟩
theorem ran_made {w w' : World} {g gr : Nat} {tm ta ts tr : Int} {B O : Value} {Fb Fo : Nat → Prop} (hb : w'.heap[g]? = some (.cells (winCells gr tm ta ts tr 0 false 0 0 B O) 69 (0, 0))) (hr : RingIsS w' gr (fun _ => False) 4096 [])
    (hB : BestIs w' ta B Fb [] 0) (hO : OrderIs w' ta O Fo []) (h0 : w.heap.size ≤ gr) (h1 : gr < g) (hF : ∀ k, Fb k ∨ Fo k → g < k ∧ k < w'.heap.size) (hn : ∀ k, Fb k → ¬ Fo k) (bel : Below w.heap.size w w') : RanL w w' (fun _ => False) g gr B O tm ta ts tr 0 false [] 0 := by
  have hl := blk_lt hb
  refine ⟨⟨fun k => k = gr, Fb, Fo, ⟨⟨0, 0, ⟨rfl, rfl⟩, hb⟩, ⟨_, hr, rfl, fun k hk => hk.elim⟩, hB, hO, ?_, ?_⟩, ?_⟩, Kept.of_below bel _, bel.mono (Nat.zero_le _)⟩
  · rintro k (hk | hk)
    · subst hk; omega
    · have := hF k hk; omega
  · intro k
    refine ⟨fun hk => ⟨fun h => ?_, fun h => ?_⟩, hn k⟩
    · have := hF k (.inl h); omega
    · have := hF k (.inr h); omega
  · rintro k (hk | hk | hk)
    · exact .inr (by omega)
    · exact .inr (by omega)
    · have := hF k hk; exact .inr (by omega)
theorem isW_zero : IsW 0 0 0 := ⟨rfl, rfl⟩
set_option maxHeartbeats 8000000 in
set_option maxRecDepth 100000 in
theorem win_new {tm ta ts tr : Int} (w : World) (h : RightT tm ta ts tr) : Calls Try.prog 9 #[.agg #[.int .i64 tm, .int .i64 ta, .int .i64 ts, .int .i64 tr]] w fun e w' =>
    ∃ g gr B O, e = .returned (.tuple #[.pointer (some ⟨g, 0, none⟩), .int .i64 0]) ∧ w.heap.size ≤ w'.heap.size ∧ RanL w w' (fun _ => False) g gr B O tm ta ts tr 0 false [] 0 := by
  have H := Lib.hid h
  clear h
  obtain ⟨w1, hw1⟩ : ∃ w1, w.alloc (.cells #[.int .i64 tm, .int .i64 ta, .int .i64 ts, .int .i64 tr] 27) = w1 := ⟨_, rfl⟩
  obtain ⟨b, hbdef⟩ : ∃ b, w.heap.size = b := ⟨_, rfl⟩
  have hbel : Below w.heap.size w w1 := by subst hw1; exact below_alloc (Below.refl _ _) _
  have hblk : w1.heap[b]? = some (.cells #[.int .i64 tm, .int .i64 ta, .int .i64 ts, .int .i64 tr] 27 (0, 0)) := by subst hw1 hbdef; exact blk_new _ _
  have HB := Lib.hid hbel
  have HK := Lib.hid hblk
  have c0 := (blk_cell hblk 0).trans rfl
  have c1 := (blk_cell hblk 1).trans rfl
  have c2 := (blk_cell hblk 2).trans rfl
  have c3 := (blk_cell hblk 3).trans rfl
  clear hbel hblk
  go_enter Try.func9, Try.ntmps9
  go_wp2_with fail
  refine (XWinA.window_Right.calls tm ta ts tr true _ (by rw [right_prog, decide_eq_true H.out])).mono ?_
  rintro e w2 ⟨rfl, b2⟩
  have B2 := Lib.hid b2
  have K2 := Lib.hid (blk_below HK.out b2)
  clear b2 c0 c1 c2 c3
  go_wp2_with fail
  refine (ringsS_new 4096 w2 (by decide) (by decide)).mono ?_
  rintro e w3 ⟨gr, rfl, hgr, r3, b3⟩
  have k3 := blk_below K2.out b3
  have c0 := (blk_cell k3 0).trans rfl
  have c1 := (blk_cell k3 1).trans rfl
  have c2 := (blk_cell k3 2).trans rfl
  have c3 := (blk_cell k3 3).trans rfl
  have K3 := Lib.hid k3
  have R3 := Lib.hid r3
  have B3 := Lib.hid b3
  have HGR := Lib.hid hgr
  clear k3 r3 b3 hgr
  obtain ⟨w4, hw4⟩ : ∃ w4, w3.alloc (.cells #[.pointer (some ⟨gr, 0, none⟩), .int .i64 tm, .int .i64 ta, .int .i64 ts, .int .i64 tr, .int .i64 0, .bool false, .int .u64 0, .int .u64 0, .pointer none, .pointer none] 69) = w4 := ⟨_, rfl⟩
  obtain ⟨g, hg⟩ : ∃ g, w3.heap.size = g := ⟨_, rfl⟩
  have b4 : Below w3.heap.size w3 w4 := by subst hw4; exact below_alloc (Below.refl _ _) _
  have k4 : w4.heap[g]? = some (.cells #[.pointer (some ⟨gr, 0, none⟩), .int .i64 tm, .int .i64 ta, .int .i64 ts, .int .i64 tr, .int .i64 0, .bool false, .int .u64 0, .int .u64 0, .pointer none, .pointer none] 69 (0, 0)) := by subst hw4 hg; exact blk_new _ _
  have HG := Lib.hid hg
  have x1 := (b4.cell (p := ⟨b, 1, none⟩) (blk_lt K3.out)).trans c1
  have d9 := (blk_cell k4 9).trans rfl
  have d10 := (blk_cell k4 10).trans rfl
  have f9 := blk_frozen k4 9
  have f10 := blk_frozen k4 10
  have K4 := Lib.hid k4
  have B4 := Lib.hid b4
  have R4 := Lib.hid (R3.out.below b4)
  have Q := Lib.hid (show w.heap.size ≤ w2.heap.size from Nat.le_trans HB.out.size B2.out.size)
  have BW := Lib.hid (show Below w.heap.size w w4 from ((HB.out.trans (B2.out.mono HB.out.size)).trans (B3.out.mono (by have := HB.out.size; have := B2.out.size; omega))).trans (b4.mono (by have := HB.out.size; have := B2.out.size; have := B3.out.size; omega)))
  have HLT := Lib.hid (show gr < g ∧ g < w4.heap.size from ⟨by rw [← hg]; exact R3.out.lt, blk_lt k4⟩)
  clear k4 b4
  have HGR2 := Lib.hid (show w.heap.size ≤ gr from Nat.le_trans Q.out HGR.out)
  go_upto_region 5 with fail
  obtain ⟨-, ha1, ha2, -, -, -, -⟩ := H.out
  obtain h5 | h5 | h5 | rfl : ta = 3 ∨ ta = 4 ∨ (ta = 1 ∨ ta = 2 ∨ ta = 5) ∨ ta = 6 := by omega
  · subst h5
    clear ha1 ha2
    go_wp2_with fail
    refine (is_new false w4).mono ?_
    rintro e w5 ⟨gb, rfl, hgb, m5, b5⟩
    have k5 := blk_below K4.out b5
    have y9 := (blk_cell k5 9).trans rfl
    have z9 := blk_frozen k5 9
    have K5 := Lib.hid k5
    have M5 := Lib.hid m5
    have B5 := Lib.hid b5
    have HGB := Lib.hid hgb
    clear k5 m5 b5 hgb
    go_wp2
    go_ret2
    have hk : Kept w5 (w5.setCell ⟨g, 9, none⟩ (.pointer (some ⟨gb, 0, none⟩))) (fun k => k = g) := (Kept.refl w5 (fun k => k = g)).setCell (p := ⟨g, 9, none⟩) (.inl rfl) _
    have l1 := HLT.out
    have l2 := HGB.out
    have l3 := HGR2.out
    have l4 := BW.out.size
    have l5 := B5.out.size
    have l6 := M5.out.lt
    refine ⟨g, gr, _, _, by simp, by simp [World.setCell]; omega, ran_made (blk_set K5.out 9 _) ((R4.out.below B5.out).kept hk (by omega) (fun _ h => h.elim)) (Fb := fun k => k = gb) (Fo := fun _ => False) (.inl ⟨.inl rfl, gb, _, 0, rfl, M5.out.kept hk (by omega) (fun _ h => h.elim), by simp, rfl, fun _ h => h.elim⟩) (.inr ⟨by decide, rfl⟩) HGR2.out HLT.out.1 ?_ (fun _ _ h => h) ?_⟩
    · rintro k (h | h)
      · subst h; simp [World.setCell]; omega
      · exact h.elim
    · exact (BW.out.trans (B5.out.mono BW.out.size)).setCell (p := ⟨g, 9, none⟩) (by show _ ≤ g; omega) _
  · subst h5
    clear ha1 ha2
    go_wp2_with fail
    refine (is_new true w4).mono ?_
    rintro e w5 ⟨gb, rfl, hgb, m5, b5⟩
    have k5 := blk_below K4.out b5
    have y9 := (blk_cell k5 9).trans rfl
    have z9 := blk_frozen k5 9
    have K5 := Lib.hid k5
    have M5 := Lib.hid m5
    have B5 := Lib.hid b5
    have HGB := Lib.hid hgb
    clear k5 m5 b5 hgb
    go_wp2
    go_ret2
    have hk : Kept w5 (w5.setCell ⟨g, 9, none⟩ (.pointer (some ⟨gb, 0, none⟩))) (fun k => k = g) := (Kept.refl w5 (fun k => k = g)).setCell (p := ⟨g, 9, none⟩) (.inl rfl) _
    have l1 := HLT.out
    have l2 := HGB.out
    have l3 := HGR2.out
    have l4 := BW.out.size
    have l5 := B5.out.size
    have l6 := M5.out.lt
    refine ⟨g, gr, _, _, by simp, by simp [World.setCell]; omega, ran_made (blk_set K5.out 9 _) ((R4.out.below B5.out).kept hk (by omega) (fun _ h => h.elim)) (Fb := fun k => k = gb) (Fo := fun _ => False) (.inl ⟨.inr rfl, gb, _, 0, rfl, M5.out.kept hk (by omega) (fun _ h => h.elim), by simp, rfl, fun _ h => h.elim⟩) (.inr ⟨by decide, rfl⟩) HGR2.out HLT.out.1 ?_ (fun _ _ h => h) ?_⟩
    · rintro k (h | h)
      · subst h; simp [World.setCell]; omega
      · exact h.elim
    · exact (BW.out.trans (B5.out.mono BW.out.size)).setCell (p := ⟨g, 9, none⟩) (by show _ ≤ g; omega) _
  · rcases h5 with rfl | rfl | rfl
    all_goals
      clear ha1 ha2
      go_wp2
      go_ret2
      have l1 := HLT.out
      have l3 := HGR2.out
      have l4 := BW.out.size
      exact ⟨g, gr, _, _, by simp, by omega, ran_made K4.out R4.out (Fb := fun _ => False) (Fo := fun _ => False) (.inr ⟨by omega, rfl⟩) (.inr ⟨by omega, rfl⟩) HGR2.out HLT.out.1 (fun k h => by rcases h with h | h <;> exact h.elim) (fun _ _ h => h) BW.out⟩
  · clear ha1 ha2
    go_wp2_with fail
    refine (rank_new w4).mono ?_
    rintro e w5 ⟨gb, rfl, hgb, m5, b5⟩
    have k5 := blk_below K4.out b5
    have y10 := (blk_cell k5 10).trans rfl
    have z10 := blk_frozen k5 10
    have K5 := Lib.hid k5
    have M5 := Lib.hid m5
    have B5 := Lib.hid b5
    have HGB := Lib.hid hgb
    clear k5 m5 b5 hgb
    go_wp2
    go_ret2
    have hk : Kept w5 (w5.setCell ⟨g, 10, none⟩ (.pointer (some ⟨gb, 0, none⟩))) (fun k => k = g) := (Kept.refl w5 (fun k => k = g)).setCell (p := ⟨g, 10, none⟩) (.inl rfl) _
    have l1 := HLT.out
    have l2 := HGB.out
    have l3 := HGR2.out
    have l4 := BW.out.size
    have l5 := B5.out.size
    have l6 := M5.out.lt
    refine ⟨g, gr, _, _, by simp, by simp [World.setCell]; omega, ran_made (blk_set K5.out 10 _) ((R4.out.below B5.out).kept hk (by omega) (fun _ h => h.elim)) (Fo := fun k => k = gb) (Fb := fun _ => False) (.inr ⟨by decide, rfl⟩) (.inl ⟨rfl, gb, _, [], rfl, M5.out.kept hk (by omega) (fun _ h => h.elim), List.Perm.refl _, rfl, fun _ h => h.elim⟩) HGR2.out HLT.out.1 ?_ (fun _ h => h.elim) ?_⟩
    · rintro k (h | h)
      · exact h.elim
      · subst h; simp [World.setCell]; omega
    · exact (BW.out.trans (B5.out.mono BW.out.size)).setCell (p := ⟨g, 10, none⟩) (by show _ ≤ g; omega) _
end Go.Proofs.Ytgfnlhigmncdmaa
end
section
/-
  The law's fixed fact; a nil window and the zero window.
-/
namespace Go.Proofs.Ytgfnlhigmncdmaa
set_option linter.unusedVariables false
set_option linter.unusedSimpArgs false
open Go.RowKit Go.Proofs.Ytgfnlhigmncdmaa.XMono Go.Proofs.YtgfnlhigmncdmaaW.PrintWords Go.Proofs.YtgfnlhigmncdmaaW.PrintLast Go.Proofs.YtgfnlhigmncdmaaW.PrintMore

/-- From a window's way to a frame: what was there is as it was. -/
theorem Ran.bel0 {w0 w : World} {g gr : Nat} {B O : Value} {tm ta ts tr ck : Int} {bg : Bool} {Lr : List (Int × Int)} {s : Int} {Lb Lo : List Int} {N : Int} (h : Ran w0 w (fun _ => False) g gr B O tm ta ts tr ck bg Lr s Lb Lo N) : Below w0.heap.size w0 w :=
  ⟨h.bel.os, h.bel.tape, h.bel.output, h.bel.size, fun k hk => h.kept.2 k hk (fun h => h)⟩
set_option maxHeartbeats 4000000 in
set_option maxRecDepth 100000 in
theorem awake08 (w : World) : Calls Try.prog 8 #[] w fun e w' => e = .returned (.bool true) ∧ Below w.heap.size w w' := by
  go_enter Try.func8, Try.ntmps8
  go_wp2_with fail
  refine (win_new (tm := 0) (ta := 1) (ts := 10) (tr := 0) w (by decide)).mono ?_
  rintro e w1 ⟨g, gr, B, O, rfl, s1, r1⟩
  have R1 := Lib.hid r1
  clear s1 r1
  go_wp2_with fail
  refine (win_put (t := 0) (x := 5) R1.out (by decide) (fun y hy => by cases hy) (fun h => by cases h) (by decide)).mono ?_
  rintro e w2 ⟨rfl, s2, r2⟩
  have R2 := Lib.hid r2
  clear s2 r2
  go_wp2_with fail
  refine (win_put (t := 4) (x := 6) R2.out (by decide) (by decide) (fun _ => by decide) (by decide)).mono ?_
  rintro e w3 ⟨rfl, s3, r3⟩
  have R3 := Lib.hid r3
  clear s3 r3
  go_wp2_with fail
  refine (win_read (t := 10) R3.out (by unfold SmpOk; decide) (by decide) (by decide) (by decide) (by decide) (by decide) (fun _ => by decide)).mono ?_
  rintro e w4 ⟨rfl, s4, r4⟩
  have R4 := Lib.hid r4.bel0
  rw [show readV 1 0 ((expP 10 10 (pushP (pushP [] (0, 5)) (4, 6))).map (·.2)) = (0, 6) by decide]
  clear s4 r4
  go_wp2
  go_ret
  exact ⟨by simp, below_alloc R4.out _⟩
end Go.Proofs.Ytgfnlhigmncdmaa
end
