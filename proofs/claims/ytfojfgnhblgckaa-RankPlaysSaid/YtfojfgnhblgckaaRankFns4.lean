/-
  What the function Take of package rank does to numbers that lie in memory.
-/
import Derived.Test.YtfojfgnhblgckaaRankFns3
namespace Go.Proofs.Ytfojfgnhblgckaa
open Go.RowKit Go.Proofs.YtfojfgnhblgckaaW.PrintWords Go.Proofs.YtfojfgnhblgckaaW.PrintLast Go.Proofs.YtfojfgnhblgckaaW.PrintMore

theorem takeL_no {v : Int} {L : List Int} (h : hasL v L = false) : takeL v L = L := by
  unfold takeL
  rw [if_neg (by rw [h]; decide)]
theorem takeL_yes {v : Int} {L : List Int} (h : hasL v L = true) : takeL v L = L.take (lower v L) ++ L.drop (lower v L + 1) := by
  unfold takeL
  rw [if_pos h]
theorem take_cells (L : List Int) (rest : List Value) (i : Nat) (hi : i < L.length) :
    (nums .i64 L ++ rest).take i ++ (nums .i64 (L.drop (i + 1)) ++ (nums .i64 L ++ rest).drop (i + (nums .i64 (L.drop (i + 1))).length)) = nums .i64 (L.take i ++ L.drop (i + 1)) ++ (nums .i64 L ++ rest).drop (L.length - 1) := by
  have hd : (nums .i64 (L.drop (i + 1))).length = L.length - (i + 1) := by simp [nums]
  rw [hd, show i + (L.length - (i + 1)) = L.length - 1 by omega, List.take_append_of_le_length (by simp [nums]; omega), nums_append, List.append_assoc]
  congr 1
  unfold nums
  rw [List.map_take]
set_option maxRecDepth 100000 in
theorem rank_take_nil (v : Int) (w : World) : Calls Try.prog 11 #[.pointer none, .int .i64 v] w fun e w' => e = .returned (.bool false) ∧ w = w' := by
  go_enter Try.func11, Try.ntmps11
  go_wp2
  go_ret
  exact ⟨rfl, rfl⟩
set_option maxRecDepth 100000 in
theorem rank_take_no {w : World} {g : Nat} {ok : Nat → Prop} {L : List Int} (v : Int) (h : RankAt w g ok L) (hv : hasL v L = false) :
    Calls Try.prog 11 #[.pointer (some ⟨g, 0, none⟩), .int .i64 v] w fun e w' => e = .returned (.bool false) ∧ w = w' := by
  obtain ⟨V, hb, hq⟩ := h.ex
  obtain ⟨A, c, rfl⟩ := Kd.R_slice hq
  have c0 := (blk_cell hb 0).trans rfl
  have HQ := Lib.hid hq
  have HH := Lib.hid h
  have HV := Lib.hid hv
  clear hq hb h hv
  go_enter Try.func11, Try.ntmps11
  go_wp2_with fail
  refine (search v (Kd.R_reads' HQ.out).2.2 (by have := HH.out.few; omega) HH.out.rise).mono ?_
  rintro e w1 ⟨rfl, rfl⟩
  rw [HV.out]
  go_wp2
  go_ret
  exact ⟨by simp, rfl⟩
set_option maxHeartbeats 8000000 in
set_option maxRecDepth 100000 in
theorem rank_take {w : World} {g : Nat} {ok : Nat → Prop} {L : List Int} (v : Int) (h : RankAt w g ok L) (hv : hasL v L = true) :
    Calls Try.prog 11 #[.pointer (some ⟨g, 0, none⟩), .int .i64 v] w fun e w' => e = .returned (.bool true) ∧ Below 0 w w' ∧ Kept w w' (fun k => k = g ∨ ok k) ∧ RankAt w' g ok (takeL v L) := by
  obtain ⟨V, hb, hq⟩ := h.ex
  have hil0 : lower v L < L.length := (of_decide_eq_true hv).1
  obtain ⟨hh, cap, rest, rfl, hok, hcm, hrow, hcp⟩ := R_open hq (by omega)
  have c0 := (blk_cell hb 0).trans rfl
  have f0 := blk_frozen hb 0
  have HQ := Lib.hid hq
  have HB := Lib.hid hb
  have HH := Lib.hid h
  have HO := Lib.hid (And.intro hok (And.intro hcm (And.intro hrow hcp)))
  have HV := Lib.hid hv
  have hhg : ¬ hh = g := h.away _ hok
  obtain ⟨n, hn⟩ : ∃ n, L.length = n := ⟨_, rfl⟩
  have HN := Lib.hid hn
  obtain ⟨i, hi⟩ : ∃ i, lower v L = i := ⟨_, rfl⟩
  have HI := Lib.hid hi
  have hfew := h.few
  rw [hn] at hfew hcp hil0 c0
  rw [hi] at hil0
  obtain ⟨I1, hI1⟩ : ∃ I1, i + 1 = I1 := ⟨_, rfl⟩
  obtain ⟨N0, hN0⟩ : ∃ N0, n - 1 = N0 := ⟨_, rfl⟩
  have hwi : IntKind.i64.wrap ((i : Int) + 1) = (I1 : Int) := by rw [i64_w]; unfold wrap64; omega
  have HII := Lib.hid (And.intro hI1 (And.intro hil0 (And.intro hN0 hfew)))
  have e1 := eq_true (show (0 : Int) ≤ (I1 : Int) by omega)
  have e2 : ((I1 : Int) ≤ (n : Int)) = True := eq_true (by omega)
  have e3 : ((n : Int) ≤ (cap : Int)) = True := eq_true (by omega)
  have e4 : (n ≤ cap) = True := eq_true (by omega)
  have e5 : (I1 ≤ n) = True := eq_true (by omega)
  have e6 := eq_true (show (0 : Int) ≤ (i : Int) by omega)
  have e7 : ((i : Int) ≤ (n : Int)) = True := eq_true (by omega)
  have e8 : (i ≤ n) = True := eq_true (by omega)
  have e9 := eq_true (show (0 : Int) ≤ (N0 : Int) by omega)
  have e10 : ((N0 : Int) ≤ (cap : Int)) = True := eq_true (by omega)
  have e11 : (N0 ≤ cap) = True := eq_true (by omega)
  have hci : ¬ cap = i := by omega
  obtain ⟨A2, hA2⟩ : ∃ A2, (if cap = I1 then some (⟨hh, 0, none⟩ : Addr) else some ⟨hh, I1, none⟩) = A2 := ⟨_, rfl⟩
  have HA2 := Lib.hid hA2
  clear hq hb h hv hok hcm hrow hcp hn hi hfew hil0 hI1 hN0
  go_enter Try.func11, Try.ntmps11
  go_wp2_with fail
  have hs := search v (Kd.R_reads' HQ.out).2.2 (by have := HH.out.few; omega) HH.out.rise (c := cap)
  rw [HN.out] at hs
  refine hs.mono ?_
  clear hs
  rintro e w1 ⟨rfl, rfl⟩
  rw [HV.out, HI.out]
  obtain ⟨w11, hcp, g11, ⟨rest2, r11, l11⟩, b11, k11⟩ : ∃ w11, (Builtin.copy_ #[22, 22] 3 #[.slice (some ⟨hh, i, none⟩) (n - i) (cap - i), .slice A2 (n - I1) (cap - I1)]).run Try.prog w.drew = .ok (.int .i64 ((n - I1 : Nat) : Int)) w11 ∧
      w11.heap[g]? = some (.cells #[.slice (some ⟨hh, 0, none⟩) n cap] 45 (0, 0)) ∧ (∃ rest2, w11.heap[hh]? = some (.cells (nums .i64 (takeL v L) ++ rest2).toArray 2 (0, 0)) ∧ (takeL v L).length + rest2.length = cap) ∧ Below 0 w w11 ∧ Kept w w11 (fun k => k = g ∨ ok k) := by
    obtain ⟨z1, z2, z3, z4⟩ := HII.out
    have hn := HN.out
    have hi := HI.out
    obtain ⟨hok, hcm, hrow, hcp⟩ := HO.out
    have hB := HB.out
    rw [hn] at hB hcp
    have hE := take_cells L rest i (by omega)
    have hT := takeL_yes HV.out
    rw [hi, z1] at hT
    rw [z1, ← hT, hn] at hE
    have hlen : (nums .i64 (L.drop I1)).length = n - I1 := by simp [nums]; omega
    have hdl : (takeL v L).length + ((nums .i64 L ++ rest).drop (n - 1)).length = cap := by
      rw [hT]
      simp [nums]
      omega
    by_cases hz : I1 = n
    · refine ⟨w.drew, ?_, hB, ⟨_, ?_, hdl⟩, below_drew (Below.refl _ _), (Kept.refl w _).drew⟩
      · have := run_copy_none (P := Try.prog) w.drew 22 22 3 2 (some ⟨hh, i, none⟩) A2 (n - i) (cap - i) (n - I1) (cap - I1) Try.underlying22 size64 (by rw [hz, Nat.sub_self]; exact Nat.zero_min _)
        rw [this, hz, Nat.sub_self]
        rfl
      · refine hrow.trans ?_
        rw [← hE, hlen]
        have e1 : L.drop I1 = [] := List.drop_eq_nil_of_le (by omega)
        rw [e1]
        simp only [nums, List.map_nil, List.nil_append]
        rw [show i + (n - I1) = i by omega, List.take_append_drop]
    · have hA := HA2.out
      rw [if_neg (by omega)] at hA
      have hr := run_copy_row (P := Try.prog) w.drew 22 22 3 2 hh i (n - i) (cap - i) ⟨hh, I1, none⟩ (n - I1) (cap - I1) (nums .i64 L ++ rest).toArray 2 (nums .i64 (L.drop I1)) Try.underlying22 size64 hrow
        (by rw [hlen]; show n - I1 = min (n - I1) (n - i); omega)
        (by
          intro j u hu
          rw [add_at, blk_cell (show w.drew.heap[hh]? = _ from hrow) (I1 + j)]
          have hj : j < (nums .i64 (L.drop I1)).length := (List.getElem?_eq_some_iff.1 hu).1
          rw [List.getElem?_toArray, List.getElem?_append_left (by rw [hlen] at hj; simp [nums]; omega), ← hu]
          simp only [nums, List.map_drop, List.getElem?_drop])
        (by rw [hlen]; simp [nums]; omega)
        (by
          intro u hu
          unfold nums at hu
          obtain ⟨z, _, rfl⟩ := List.mem_map.1 hu
          rfl)
      rw [hA] at hr
      rw [hlen] at hr
      refine ⟨_, hr, (setRow_other _ _ _ _ (fun e => hhg e.symm)).trans hB, ⟨_, ?_, hdl⟩, below_setRow (below_drew (Below.refl _ _)) (Nat.zero_le _) _, ?_⟩
      · refine (setRow_heap _ _ _ _ _ _ (show w.drew.heap[hh]? = _ from hrow)).trans ?_
        rw [← hE, hlen]
        simp only [List.append_assoc]
      · refine ⟨by simp [World.setRow], fun k hk hs => ?_⟩
        rw [setRow_other _ _ _ _ (fun e => by subst e; exact hs (.inr hok))]
        rfl
  have k0 := (blk_cell g11 0).trans rfl
  have kf0 := blk_frozen g11 0
  have hw0 : IntKind.i64.wrap ((i : Int) + ((n - I1 : Nat) : Int)) = (N0 : Int) := by have := HII.out; rw [i64_w]; unfold wrap64; omega
  have G11 := Lib.hid g11
  have R11 := Lib.hid r11
  have L11 := Lib.hid l11
  have B11 := Lib.hid b11
  have K11 := Lib.hid k11
  clear g11 r11 l11 b11 k11
  go_wp2
  go_big_region
  clear hcp hw0 hwi
  go_wp2
  go_ret
  have hlenT : (takeL v L).length = N0 := by
    rw [takeL_yes HV.out, HI.out]
    have := HII.out; have := HN.out
    simp
    omega
  refine ⟨by simp, Below.setCell (p := ⟨g, 0, none⟩) B11.out (Nat.zero_le _) _, Kept.setCell (p := ⟨g, 0, none⟩) K11.out (.inl (.inl rfl)) _, ⟨⟨.slice (some ⟨hh, 0, none⟩) N0 cap, ?_, ?_⟩, HH.out.away, ?_, take_rising HH.out.rise, ?_⟩⟩
  · simpa using blk_set G11.out 0 (.slice (some ⟨hh, 0, none⟩) N0 cap)
  · exact R_close HO.out.1 (Nat.zero_le _) HO.out.2.1 (rest := rest2) (blk_far (p := ⟨g, 0, none⟩) R11.out hhg _) L11.out hlenT.symm
  · have := blk_lt G11.out
    simpa using this
  · rw [hlenT]
    have := HII.out
    omega
end Go.Proofs.Ytfojfgnhblgckaa
