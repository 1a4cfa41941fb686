/-
  Texts of this seat, joined, less what WindowAgrees does not lean on: RankFns2, RankFns3, RankFns4.
-/
import Derived.Test.YtgfnlhigmncdmaaQWindowAgrees11
import Derived.Test.YtgfnlhigmncdmaaQWindowAgrees7
import Derived.Laws.CopyOwn
section
namespace Go.Proofs.Ytgfnlhigmncdmaa
set_option linter.unusedVariables false
set_option linter.unusedSimpArgs false
open Go.RowKit Go.Proofs.YtgfnlhigmncdmaaW.PrintWords Go.Proofs.YtgfnlhigmncdmaaW.PrintLast Go.Proofs.YtgfnlhigmncdmaaW.PrintMore

/-- Numbers in rising order at block g; their row's block is one of those that ok names. -/
structure RankAt (w : World) (g : Nat) (ok : Nat → Prop) (L : List Int) : Prop where
  ex : ∃ v, w.heap[g]? = some (.cells #[v] 95 (0, 0)) ∧ Kd.R (Kd.int .i64) 2 w 0 ok v L
  away : ∀ k, ok k → k ≠ g
  lt : g < w.heap.size
  rise : Rising L
  few : L.length ≤ 1048576
section
variable {w w' : World} {g : Nat} {ok : Nat → Prop} {L : List Int}
theorem RankAt.below (h : RankAt w g ok L) (hb : Below w.heap.size w w') : RankAt w' g ok L := by
  obtain ⟨⟨v, h1, h2⟩, h3, h4, h5, h6⟩ := h
  exact ⟨⟨v, (hb.block g h4).trans h1, Kd.R_below h2 hb⟩, h3, Nat.lt_of_lt_of_le h4 hb.size, h5, h6⟩
theorem RankAt.kept {S : Nat → Prop} (h : RankAt w g ok L) (hk : Kept w w' S) (hg : ¬ S g) (hs : ∀ k, ok k → ¬ S k) : RankAt w' g ok L := by
  obtain ⟨⟨v, h1, h2⟩, h3, h4, h5, h6⟩ := h
  exact ⟨⟨v, blk_kept h1 hk hg, Kd.R_kept h2 hk hs⟩, h3, Nat.lt_of_lt_of_le h4 hk.1, h5, h6⟩
theorem RankAt.tight (h : RankAt w g ok L) : RankAt w g (fun k => ok k ∧ k < w.heap.size) L := by
  obtain ⟨⟨v, h1, h2⟩, h3, h4, h5, h6⟩ := h
  exact ⟨⟨v, h1, Kd.R_mono (Kd.R_bound h2) (fun k hk => ⟨hk.1, hk.2.2.1⟩)⟩, fun k hk => h3 k hk.1, h4, h5, h6⟩
end
theorem rank_new (w : World) : Calls Try.prog 22 #[] w fun e w' => ∃ g, e = .returned (.pointer (some ⟨g, 0, none⟩)) ∧ w.heap.size ≤ g ∧ RankAt w' g (fun _ => False) [] ∧ Below w.heap.size w w' := by
  go_enter Try.func22, Try.ntmps22
  go_wp2
  go_ret
  exact ⟨w.heap.size, by simp, Nat.le_refl _, ⟨⟨_, blk_new _ _, Kd.R_nil _ _ _ _ _⟩, fun _ hk => hk.elim, by simp, rising_nil, by simp⟩, below_alloc (Below.refl _ _) _⟩
theorem rank_len {w : World} {g : Nat} {ok : Nat → Prop} {L : List Int} (h : RankAt w g ok L) : Calls Try.prog 57 #[.pointer (some ⟨g, 0, none⟩)] w fun e w' => e = .returned (.int .i64 (L.length : Int)) ∧ w = w' := by
  obtain ⟨v, hb, hq⟩ := h.ex
  obtain ⟨A, c, rfl⟩ := Kd.R_slice hq
  have c0 := (blk_cell hb 0).trans rfl
  clear hb hq h
  go_enter Try.func57, Try.ntmps57
  go_wp2
  go_ret
  exact ⟨by simp, rfl⟩
def atV (L : List Int) (i : Int) : Int := if 0 ≤ i ∧ i < L.length then L.getD i.toNat 0 else 0
def atB (L : List Int) (i : Int) : Bool := decide (0 ≤ i ∧ i < L.length)
set_option maxRecDepth 100000 in
theorem rank_at {w : World} {g : Nat} {ok : Nat → Prop} {L : List Int} (h : RankAt w g ok L) (i : Int) : Calls Try.prog 60 #[.pointer (some ⟨g, 0, none⟩), .int .i64 i] w fun e w' => e = .returned (.tuple #[.int .i64 (atV L i), .bool (atB L i)]) ∧ w = w' := by
  by_cases h0 : i < 0
  · have e1 : atV L i = 0 := if_neg (by omega)
    have e2 : atB L i = false := decide_eq_false (by omega)
    have d1 : decide (i < 0) = true := decide_eq_true h0
    have E := Lib.hid (And.intro e1 e2)
    clear e1 e2 h0
    go_enter Try.func60, Try.ntmps60
    go_wp2
    go_ret2
    exact ⟨by rw [E.out.1, E.out.2]; simp, rfl⟩
  · have d1 : decide (i < 0) = false := decide_eq_false h0
    obtain ⟨k, rfl⟩ := Int.eq_ofNat_of_zero_le (show 0 ≤ i by omega)
    by_cases hk : k < L.length
    · obtain ⟨v, hb, hq⟩ := h.ex
      obtain ⟨A, c, rfl⟩ := Kd.R_slice hq
      have c0 := (blk_cell hb 0).trans rfl
      obtain ⟨ad, rfl, r0⟩ := Kd.at_int (Kd.R_reads' hq).2.2 (k : Int) (by omega) (by omega)
      rw [Int.toNat_natCast] at r0
      have e1 : atV L (k : Int) = rd L (k : Int) := by unfold atV rd; rw [if_pos (by omega)]
      have e2 : atB L (k : Int) = true := decide_eq_true (by omega)
      have E := Lib.hid (And.intro e1 e2)
      have d2 : decide ((L.length : Int) ≤ (k : Int)) = false := decide_eq_false (by omega)
      have d3 : decide (L.length ≤ k) = false := decide_eq_false (by omega)
      have f1 := eq_true (show (0 : Int) ≤ (k : Int) by omega)
      have f2 : ((k : Int) < (L.length : Int)) = True := eq_true (by omega)
      have f3 := eq_true hk
      have HH := Lib.hid h
      clear e1 e2 hb hq h h0 hk
      go_enter Try.func60, Try.ntmps60
      go_wp2_with fail
      refine (rank_len HH.out).mono ?_
      rintro e w1 ⟨rfl, rfl⟩
      go_wp2
      go_ret2
      exact ⟨by rw [E.out.1, E.out.2]; simp, rfl⟩
    · have e1 : atV L (k : Int) = 0 := if_neg (by omega)
      have e2 : atB L (k : Int) = false := decide_eq_false (by omega)
      have E := Lib.hid (And.intro e1 e2)
      have d2 : decide ((L.length : Int) ≤ (k : Int)) = true := decide_eq_true (by omega)
      have d3 : decide (L.length ≤ k) = true := decide_eq_true (by omega)
      clear e1 e2 h0 hk
      go_enter Try.func60, Try.ntmps60
      go_wp2_with fail
      refine (rank_len h).mono ?_
      rintro e w1 ⟨rfl, rfl⟩
      go_wp2
      go_ret2
      exact ⟨by rw [E.out.1, E.out.2]; simp, rfl⟩
end Go.Proofs.Ytgfnlhigmncdmaa

end
section
namespace Go.Proofs.Ytgfnlhigmncdmaa
set_option linter.unusedVariables false
set_option linter.unusedSimpArgs false
open Go.RowKit Go.Proofs.YtgfnlhigmncdmaaW.PrintWords Go.Proofs.YtgfnlhigmncdmaaW.PrintLast Go.Proofs.YtgfnlhigmncdmaaW.PrintMore

theorem info64 : (Try.prog.info? 2).map (fun i => (i.zero, i.size, i.bytes)) = some (some (.int .i64 0), 1, 8) := by kernel_rfl
theorem size64 : (Try.prog.info? 2).map (·.size) = some 1 := by kernel_rfl
theorem R_open {e base : Nat} {ok : Nat → Prop} {w : World} {v : Value} {xs : List Int} (h : (Kd.int .i64).R e w base ok v xs) (hp : 0 < xs.length) :
    ∃ (g cap : Nat) (rest : List Value), v = .slice (some ⟨g, 0, none⟩) xs.length cap ∧ ok g ∧ cap ≤ maxLen ∧ w.heap[g]? = some (.cells (nums .i64 xs ++ rest).toArray e (0, 0)) ∧ xs.length + rest.length = cap := by
  have h0 := h.1
  obtain ⟨h1, h2⟩ := Kd.own_of_R h
  rcases h2 with ⟨_, h2⟩ | ⟨g, cap, cur, rfl, hb, hh, hn, hm, hc, ht⟩
  · omega
  refine ⟨g, cap, cur.toList.drop xs.length, rfl, h0 g rfl, hm, ?_, ?_⟩
  · rw [hh]
    congr 2
    apply Array.ext'
    have e : nums .i64 xs = encs (Value.int .i64) xs := rfl
    rw [e, ← ht, Nat.mul_one, List.take_append_drop]
  · have hcl : cur.toList.length = cap := by rw [Array.length_toList, hc, Nat.mul_one]
    rw [List.length_drop, hcl]
    omega
/-- What stands in the row behind the copy and the store. -/
theorem put_cells (v : Int) (L : List Int) (rest : List Value) (i : Nat) (hi : i ≤ L.length) (hil : lower v L = i) :
    (((nums .i64 (L ++ [0]) ++ rest).take (i + 1) ++ (nums .i64 (L.drop i) ++ (nums .i64 (L ++ [0]) ++ rest).drop (i + 1 + (nums .i64 (L.drop i)).length))).set i (.int .i64 v)) = nums .i64 (putL v L) ++ rest := by
  have hn : (nums .i64 (L ++ [0])).length = L.length + 1 := by simp [nums]
  have hd : (nums .i64 (L.drop i)).length = L.length - i := by simp [nums]
  rw [hd, show i + 1 + (L.length - i) = (nums .i64 (L ++ [0])).length by rw [hn]; omega, List.drop_left, List.take_append_of_le_length (by rw [hn]; omega)]
  have e : (nums .i64 (L ++ [0])).take (i + 1) = nums .i64 (L.take i) ++ [.int .i64 ((L ++ [0]).getD i 0)] := by
    have hl : i < (L ++ [(0 : Int)]).length := by simp; omega
    unfold nums
    rw [← List.map_take, List.take_add_one, List.getElem?_eq_getElem hl, List.getD_eq_getElem?_getD, List.getElem?_eq_getElem hl, Option.toList_some, List.map_append, List.take_append_of_le_length hi]
    rfl
  have hl2 : (nums .i64 (L.take i)).length = i := by simp [nums]; omega
  rw [e, List.append_assoc, List.set_append_right _ _ (by omega), hl2, Nat.sub_self]
  unfold putL
  rw [hil]
  simp [nums]
theorem put_cells_end (v : Int) (L : List Int) (rest : List Value) (hil : lower v L = L.length) :
    ((nums .i64 (L ++ [0]) ++ rest).set L.length (.int .i64 v)) = nums .i64 (putL v L) ++ rest := by
  unfold putL
  rw [hil, List.take_length, List.drop_length]
  have hl2 : (nums .i64 L).length = L.length := by simp [nums]
  rw [nums_append, List.append_assoc, List.set_append_right _ _ (by omega), hl2, Nat.sub_self, nums_append, List.append_assoc]
  rfl
theorem R_close {e base g cap : Nat} {ok : Nat → Prop} {w : World} {xs : List Int} {rest : List Value} (hg : ok g) (hb : base ≤ g) (hm : cap ≤ maxLen) (hh : w.heap[g]? = some (.cells (nums .i64 xs ++ rest).toArray e (0, 0))) (hc : xs.length + rest.length = cap) {n : Nat} (hn : n = xs.length) :
    (Kd.int .i64).R e w base ok (.slice (some ⟨g, 0, none⟩) n cap) xs := by
  subst hn
  refine Kd.R_of_own ⟨by simp [encs], .inr ⟨g, cap, _, rfl, hb, hh, by omega, hm, by simp [nums]; omega, ?_⟩⟩ (fun k hk => by simp [Value.ownBlock] at hk; rw [← hk]; exact hg)
  simp [nums, encs]
set_option maxRecDepth 100000 in
theorem rank_put_nil (v : Int) (w : World) : Calls Try.prog 28 #[.pointer none, .int .i64 v] w fun e w' => e = .returned (.tuple #[]) ∧ w = w' := by
  go_enter Try.func28, Try.ntmps28
  go_wp2
  refine bodyPost_ret (results_none rfl _ _ _) rfl ?_
  exact ⟨rfl, rfl⟩
set_option maxHeartbeats 8000000 in
set_option maxRecDepth 100000 in
theorem rank_put {w : World} {g : Nat} {ok : Nat → Prop} {L : List Int} (v : Int) (h : RankAt w g ok L) (hl : L.length + 1 ≤ 1048576) :
    Calls Try.prog 28 #[.pointer (some ⟨g, 0, none⟩), .int .i64 v] w fun e w' => e = .returned (.tuple #[]) ∧ Below 0 w w' ∧ Kept w w' (fun k => k = g ∨ ok k) ∧ RankAt w' g (fun k => ok k ∨ w.heap.size ≤ k) (putL v L) := by
  obtain ⟨V, hb, hq⟩ := h.ex
  obtain ⟨A, c, rfl⟩ := Kd.R_slice hq
  have c0 := (blk_cell hb 0).trans rfl
  have HQ := Lib.hid hq
  have HB := Lib.hid hb
  have HH := Lib.hid h
  have HL := Lib.hid hl
  clear hq hb h hl
  go_enter Try.func28, Try.ntmps28
  go_wp2_with fail
  refine (search v (Kd.R_reads' HQ.out).2.2 (by have := HL.out; omega) HH.out.rise).mono ?_
  rintro e w1 ⟨rfl, rfl⟩
  obtain ⟨i, hi⟩ : ∃ i, lower v L = i := ⟨_, rfl⟩
  have HI := Lib.hid hi
  rw [hi]
  clear hi
  have hlt := HH.out.lt
  obtain ⟨n, hn⟩ : ∃ n, L.length = n := ⟨_, rfl⟩
  obtain ⟨N1, hN1⟩ : ∃ N1, (L ++ [(0 : Int)]).length = N1 := ⟨_, rfl⟩
  have HN := Lib.hid hn
  have HN1 := Lib.hid (show N1 = n + 1 by rw [← hN1, ← hn]; simp)
  have HN2 := Lib.hid hN1
  clear hn hN1
  have hne : ¬ g = w.heap.size := by omega
  go_wp2_with (first | ((with_reducible refine gate_builtin (b := .append) (xs := #[.tmp 21, .tmp 22]) rfl ?_); at_builtin; refine Kd.R_append (Kd.int .i64) (w0 := w) 0 rfl (.tmp 21) (.tmp 22) 93 2 (.int .i64 0) 8 rfl Try.underlying93 info64 rfl (by decide) (by decide) (.slice A L.length c) L 0 [.int .i64 0] (fun k => ok k ∨ w.heap.size ≤ k) (fun _ => False) (by rfl) (by first | rfl | (simp only [World.size_alloc]; rfl)) ?aP (fun _ hk => hk.elim) (fun k hk => .inr hk) (Kd.R_mono HQ.out (fun k hk => .inl hk)) (Below.refl 0 w) (Nat.zero_le _) ?aL ?_; (case aP => exact rfl); (case aL => have := HL.out; omega); intro v1 w9 ho hb9 hg9 hat; obtain ⟨hh, cap, rest, hv1, hok, hcm, hrow, hcp⟩ := R_open ho (by simp); rw [HN2.out] at hv1 hcp; subst hv1; have HO := Lib.hid (And.intro hok (And.intro hcm (And.intro hrow hcp))); have HB9 := Lib.hid hb9; have HG9 := Lib.hid hg9; have hbk := (hg9.block g HH.out.lt (Kd.R_away HQ.out HH.out.away)).trans HB.out; have k0 := (blk_cell hbk 0).trans rfl; have kf0 := blk_frozen hbk 0; have HBK := Lib.hid hbk; clear ho hb9 hg9 hat hbk hok hcm hrow hcp))
  have hok' : ∀ k, (ok k ∨ w.heap.size ≤ k) → k ≠ g := by
    rintro k (hk | hk)
    · exact HH.out.away k hk
    · have := HH.out.lt; omega
  have hhg : ¬ hh = g := hok' _ HO.out.1
  obtain ⟨w10, hw10⟩ : ∃ w10, w10 = w9.setCell ⟨g, 0, none⟩ (.slice (some ⟨hh, 0, none⟩) N1 cap) := ⟨_, rfl⟩
  rw [← hw10]
  have hg10 : w10.heap[g]? = some (.cells #[.slice (some ⟨hh, 0, none⟩) N1 cap] 95 (0, 0)) := by rw [hw10]; simpa using blk_set HBK.out 0 (.slice (some ⟨hh, 0, none⟩) N1 cap)
  have hr10 : w10.heap[hh]? = some (.cells (nums .i64 (L ++ [0]) ++ rest).toArray 2 (0, 0)) := by rw [hw10]; exact blk_far (p := ⟨g, 0, none⟩) HO.out.2.2.1 hhg _
  have hb10 : Below 0 w w10 := by rw [hw10]; exact Below.setCell (p := ⟨g, 0, none⟩) HB9.out (Nat.zero_le _) _
  have hk10 : Kept w w10 (fun k => k = g ∨ ok k) := by
    rw [hw10]
    exact Kept.setCell (p := ⟨g, 0, none⟩) (Kept.of_grown HG9.out (Kept.refl w _) (fun k hk => .inl (.inr (HQ.out.1 k hk)))) (.inl (.inl rfl)) _
  have K0 := (blk_cell hg10 0).trans rfl
  have HG10 := Lib.hid hg10
  have HR10 := Lib.hid hr10
  have HB10 := Lib.hid hb10
  have HK10 := Lib.hid hk10
  have HOK := Lib.hid hok'
  clear hw10 hg10 hr10 hb10 hk10 hok' k0 kf0 HBK HB9 HG9
  have hile : i ≤ n := by rw [← HI.out, ← HN.out]; exact lower_le v L
  have hN1 := HN1.out
  have hcp := HO.out.2.2.2
  obtain ⟨I1, hI1⟩ : ∃ I1, i + 1 = I1 := ⟨_, rfl⟩
  have hwi : IntKind.i64.wrap ((i : Int) + 1) = (I1 : Int) := by have := HL.out; have := HN.out; rw [i64_w]; unfold wrap64; omega
  have e1 := eq_true (show (0 : Int) ≤ (I1 : Int) by omega)
  have e2 : ((I1 : Int) ≤ (N1 : Int)) = True := eq_true (by omega)
  have e3 : ((N1 : Int) ≤ (cap : Int)) = True := eq_true (by omega)
  have e4 : (N1 ≤ cap) = True := eq_true (by omega)
  have e5 : (I1 ≤ N1) = True := eq_true (by omega)
  have e6 := eq_true (show (0 : Int) ≤ (i : Int) by omega)
  have e7 : ((i : Int) ≤ (N1 : Int)) = True := eq_true (by omega)
  have e8 : (i ≤ N1) = True := eq_true (by omega)
  have e9 : ((i : Int) < (N1 : Int)) = True := eq_true (by omega)
  have e10 : (i < N1) = True := eq_true (by omega)
  have hci : ¬ cap = i := by omega
  by_cases hin : i < n
  · have hci1 : ¬ cap = I1 := by omega
    have HII := Lib.hid (And.intro hI1 (And.intro hin hile))
    clear hI1 hin hile hN1 hcp
    go_wp2
    refine still_tail 13 (by kernel_rfl) (by kernel_rfl) ?_
    simp only [List.take_succ_cons, List.take_zero, List.drop_succ_cons, List.drop_zero]
    repeat still_step
    refine wpStill_nil ?_
    have hlen : (nums .i64 (L.drop i)).length = n - i := by have := HN.out; simp [nums]; omega
    refine wpList_copy_own rfl (.tmp 32) (.tmp 38) 93 93 rfl 2 Try.underlying93 size64 hh I1 (N1 - I1) (cap - I1) ⟨hh, i, none⟩ (N1 - i) (cap - i) rfl rfl _ 2 HR10.out (nums .i64 (L.drop i)) ?_ ?_ ?_ ?_ ?_
    · have := HN1.out; have := HII.out
      rw [hlen]
      show n - i = min (N1 - i) (N1 - I1)
      omega
    · intro j u hu
      rw [add_at, blk_cell (show w10.drew.heap[hh]? = _ from HR10.out) (i + j)]
      have hj : j < (nums .i64 (L.drop i)).length := (List.getElem?_eq_some_iff.1 hu).1
      rw [List.getElem?_toArray, List.getElem?_append_left (by have := HN.out; have := HII.out; simp [nums]; omega)]
      rw [← hu]
      have := HN.out
      simp only [nums, List.map_append, List.map_drop, List.getElem?_drop]
      rw [List.getElem?_append_left (by simp; omega)]
    · have := HN.out; have := HN1.out; have := HII.out
      rw [hlen]
      simp [nums]
      omega
    · intro u hu
      unfold nums at hu
      obtain ⟨z, _, rfl⟩ := List.mem_map.1 hu
      rfl
    rw [hlen]
    obtain ⟨w11, hw11⟩ : ∃ w11, w11 = w10.drew.setRow hh (List.take I1 (nums .i64 (L ++ [0]) ++ rest).toArray.toList ++ (nums .i64 (L.drop i) ++ List.drop (I1 + (n - i)) (nums .i64 (L ++ [0]) ++ rest).toArray.toList)).toArray := ⟨_, rfl⟩
    rw [← hw11]
    have g11 : w11.heap[g]? = some (.cells #[.slice (some ⟨hh, 0, none⟩) N1 cap] 95 (0, 0)) := by rw [hw11]; exact (setRow_other _ _ _ _ (fun e => hhg e.symm)).trans HG10.out
    have r11 : w11.heap[hh]? = some (.cells (List.take I1 (nums .i64 (L ++ [0]) ++ rest) ++ (nums .i64 (L.drop i) ++ List.drop (I1 + (n - i)) (nums .i64 (L ++ [0]) ++ rest))).toArray 2 (0, 0)) := by
      rw [hw11]
      exact setRow_heap _ _ _ _ _ _ (show w10.drew.heap[hh]? = _ from HR10.out)
    have b11 : Below 0 w w11 := by rw [hw11]; exact below_setRow (below_drew HB10.out) (Nat.zero_le _) _
    have k11 : Kept w w11 (fun k => k = g ∨ ok k) := by
      rw [hw11]
      refine ⟨by simpa [World.setRow] using HK10.out.1, fun k hk hs => ?_⟩
      rw [setRow_other _ _ _ _ (fun e => ?_)]
      · exact HK10.out.2 k hk hs
      · subst e
        rcases HO.out.1 with h1 | h1
        · exact hs (.inr h1)
        · omega
    have HFIN := Lib.hid (show (List.take I1 (nums .i64 (L ++ [0]) ++ rest) ++ (nums .i64 (L.drop i) ++ List.drop (I1 + (n - i)) (nums .i64 (L ++ [0]) ++ rest))).set i (.int .i64 v) = nums .i64 (putL v L) ++ rest by
      have := put_cells v L rest i (by rw [← HI.out]; exact lower_le v L) HI.out
      rw [hlen, HII.out.1] at this
      exact this)
    have kk0 := (blk_cell g11 0).trans rfl
    have kr : ∃ y, w11.cell? ⟨hh, i, none⟩ = some y := by
      rw [blk_cell r11 i]
      have hl : i < (List.take I1 (nums .i64 (L ++ [0]) ++ rest) ++ (nums .i64 (L.drop i) ++ List.drop (I1 + (n - i)) (nums .i64 (L ++ [0]) ++ rest))).length := by
        have := HII.out
        have := HN.out
        simp [nums]
        omega
      exact ⟨_, by rw [List.getElem?_toArray, List.getElem?_eq_getElem hl]⟩
    obtain ⟨y, kr⟩ := kr
    have kf := blk_frozen r11 i
    have G11 := Lib.hid g11
    have R11 := Lib.hid r11
    have B11 := Lib.hid b11
    have K11 := Lib.hid k11
    clear hw11 g11 r11 b11 k11 hlen hwi
    go_wp2
    go_end0
    refine ⟨rfl, Below.setCell (p := ⟨hh, i, none⟩) B11.out (Nat.zero_le _) _, Kept.setCell (p := ⟨hh, i, none⟩) K11.out ?_ _, ⟨⟨_, blk_far (p := ⟨hh, i, none⟩) G11.out (fun e => hhg e.symm) _, ?_⟩, HOK.out, ?_, put_rising v L HH.out.rise, by rw [put_len]; exact HL.out⟩⟩
    · rcases HO.out.1 with h1 | h1
      · exact .inl (.inr h1)
      · exact .inr h1
    · refine R_close HO.out.1 (Nat.zero_le _) HO.out.2.1 (rest := rest) ?_ ?_ ?_
      · exact (blk_set R11.out i _).trans (by rw [List.setIfInBounds_toArray, HFIN.out])
      · rw [put_len, HN.out, ← HN1.out]; exact HO.out.2.2.2
      · rw [put_len, HN.out, HN1.out]
    · have := blk_lt G11.out
      simpa using this
  · have hin2 : i = n := by omega
    have HII := Lib.hid (And.intro hI1 hin2)
    obtain ⟨A2, hA2⟩ : ∃ A2, (if cap = I1 then some (⟨hh, 0, none⟩ : Addr) else some ⟨hh, I1, none⟩) = A2 := ⟨_, rfl⟩
    clear hI1 hin hin2 hile hN1 hcp
    go_wp2
    refine still_tail 13 (by kernel_rfl) (by kernel_rfl) ?_
    simp only [List.take_succ_cons, List.take_zero, List.drop_succ_cons, List.drop_zero]
    repeat still_step
    refine wpStill_nil ?_
    refine wpList_copy_nothing rfl (.tmp 32) (.tmp 38) 93 93 rfl 2 Try.underlying93 size64 A2 (some ⟨hh, i, none⟩) (N1 - I1) (cap - I1) (N1 - i) (cap - i) rfl rfl ?_ ?_
    · have := HN1.out; have := HII.out
      show min (N1 - i) (N1 - I1) = 0
      omega
    obtain ⟨w11, hw11⟩ : ∃ w11, w11 = w10.drew := ⟨_, rfl⟩
    rw [← hw11]
    have g11 : w11.heap[g]? = some (.cells #[.slice (some ⟨hh, 0, none⟩) N1 cap] 95 (0, 0)) := by rw [hw11]; exact HG10.out
    have r11 : w11.heap[hh]? = some (.cells (nums .i64 (L ++ [0]) ++ rest).toArray 2 (0, 0)) := by rw [hw11]; exact HR10.out
    have b11 : Below 0 w w11 := by rw [hw11]; exact below_drew HB10.out
    have k11 : Kept w w11 (fun k => k = g ∨ ok k) := by rw [hw11]; exact HK10.out.drew
    have HFIN := Lib.hid (show (nums .i64 (L ++ [0]) ++ rest).set i (.int .i64 v) = nums .i64 (putL v L) ++ rest by
      have h1 := HII.out.2
      have h2 := HN.out
      rw [h1, ← h2]
      exact put_cells_end v L rest (by rw [HI.out, h1, h2]))
    have kk0 := (blk_cell g11 0).trans rfl
    have kr : ∃ y, w11.cell? ⟨hh, i, none⟩ = some y := by
      rw [blk_cell r11 i]
      have hl : i < (nums .i64 (L ++ [0]) ++ rest).length := by
        have := HII.out
        have := HN.out
        simp [nums]
        omega
      exact ⟨_, by rw [List.getElem?_toArray, List.getElem?_eq_getElem hl]⟩
    obtain ⟨y, kr⟩ := kr
    have kf := blk_frozen r11 i
    have G11 := Lib.hid g11
    have R11 := Lib.hid r11
    have B11 := Lib.hid b11
    have K11 := Lib.hid k11
    clear hw11 g11 r11 b11 k11 hwi hA2
    go_wp2
    go_end0
    refine ⟨rfl, Below.setCell (p := ⟨hh, i, none⟩) B11.out (Nat.zero_le _) _, Kept.setCell (p := ⟨hh, i, none⟩) K11.out ?_ _, ⟨⟨_, blk_far (p := ⟨hh, i, none⟩) G11.out (fun e => hhg e.symm) _, ?_⟩, HOK.out, ?_, put_rising v L HH.out.rise, by rw [put_len]; exact HL.out⟩⟩
    · rcases HO.out.1 with h1 | h1
      · exact .inl (.inr h1)
      · exact .inr h1
    · refine R_close HO.out.1 (Nat.zero_le _) HO.out.2.1 (rest := rest) ?_ ?_ ?_
      · exact (blk_set R11.out i _).trans (by rw [List.setIfInBounds_toArray, HFIN.out])
      · rw [put_len, HN.out, ← HN1.out]; exact HO.out.2.2.2
      · rw [put_len, HN.out, HN1.out]
    · have := blk_lt G11.out
      simpa using this
end Go.Proofs.Ytgfnlhigmncdmaa

end
section
namespace Go.Proofs.Ytgfnlhigmncdmaa
set_option linter.unusedVariables false
set_option linter.unusedSimpArgs false
open Go.RowKit Go.Proofs.YtgfnlhigmncdmaaW.PrintWords Go.Proofs.YtgfnlhigmncdmaaW.PrintLast Go.Proofs.YtgfnlhigmncdmaaW.PrintMore

theorem takeL_yes {v : Int} {L : List Int} (h : hasL v L = true) : takeL v L = L.take (lower v L) ++ L.drop (lower v L + 1) := by
  unfold takeL
  rw [if_pos h]
theorem take_cells (L : List Int) (rest : List Value) (i : Nat) (hi : i < L.length) :
    (nums .i64 L ++ rest).take i ++ (nums .i64 (L.drop (i + 1)) ++ (nums .i64 L ++ rest).drop (i + (nums .i64 (L.drop (i + 1))).length)) = nums .i64 (L.take i ++ L.drop (i + 1)) ++ (nums .i64 L ++ rest).drop (L.length - 1) := by
  have hd : (nums .i64 (L.drop (i + 1))).length = L.length - (i + 1) := by simp [nums]
  rw [hd, show i + (L.length - (i + 1)) = L.length - 1 by omega, List.take_append_of_le_length (by simp [nums]; omega), nums_append, List.append_assoc]
  congr 1
  unfold nums
  rw [List.map_take]
set_option maxRecDepth 100000 in
theorem rank_take_nil (v : Int) (w : World) : Calls Try.prog 48 #[.pointer none, .int .i64 v] w fun e w' => e = .returned (.bool false) ∧ w = w' := by
  go_enter Try.func48, Try.ntmps48
  go_wp2
  go_ret
  exact ⟨rfl, rfl⟩
set_option maxHeartbeats 8000000 in
set_option maxRecDepth 100000 in
theorem rank_take {w : World} {g : Nat} {ok : Nat → Prop} {L : List Int} (v : Int) (h : RankAt w g ok L) (hv : hasL v L = true) :
    Calls Try.prog 48 #[.pointer (some ⟨g, 0, none⟩), .int .i64 v] w fun e w' => e = .returned (.bool true) ∧ Below 0 w w' ∧ Kept w w' (fun k => k = g ∨ ok k) ∧ RankAt w' g ok (takeL v L) := by
  obtain ⟨V, hb, hq⟩ := h.ex
  have hil0 : lower v L < L.length := (of_decide_eq_true hv).1
  obtain ⟨hh, cap, rest, rfl, hok, hcm, hrow, hcp⟩ := R_open hq (by omega)
  have c0 := (blk_cell hb 0).trans rfl
  have f0 := blk_frozen hb 0
  have HQ := Lib.hid hq
  have HB := Lib.hid hb
  have HH := Lib.hid h
  have HO := Lib.hid (And.intro hok (And.intro hcm (And.intro hrow hcp)))
  have HV := Lib.hid hv
  have hhg : ¬ hh = g := h.away _ hok
  obtain ⟨n, hn⟩ : ∃ n, L.length = n := ⟨_, rfl⟩
  have HN := Lib.hid hn
  obtain ⟨i, hi⟩ : ∃ i, lower v L = i := ⟨_, rfl⟩
  have HI := Lib.hid hi
  have hfew := h.few
  rw [hn] at hfew hcp hil0 c0
  rw [hi] at hil0
  obtain ⟨I1, hI1⟩ : ∃ I1, i + 1 = I1 := ⟨_, rfl⟩
  obtain ⟨N0, hN0⟩ : ∃ N0, n - 1 = N0 := ⟨_, rfl⟩
  have hwi : IntKind.i64.wrap ((i : Int) + 1) = (I1 : Int) := by rw [i64_w]; unfold wrap64; omega
  have HII := Lib.hid (And.intro hI1 (And.intro hil0 (And.intro hN0 hfew)))
  have e1 := eq_true (show (0 : Int) ≤ (I1 : Int) by omega)
  have e2 : ((I1 : Int) ≤ (n : Int)) = True := eq_true (by omega)
  have e3 : ((n : Int) ≤ (cap : Int)) = True := eq_true (by omega)
  have e4 : (n ≤ cap) = True := eq_true (by omega)
  have e5 : (I1 ≤ n) = True := eq_true (by omega)
  have e6 := eq_true (show (0 : Int) ≤ (i : Int) by omega)
  have e7 : ((i : Int) ≤ (n : Int)) = True := eq_true (by omega)
  have e8 : (i ≤ n) = True := eq_true (by omega)
  have e9 := eq_true (show (0 : Int) ≤ (N0 : Int) by omega)
  have e10 : ((N0 : Int) ≤ (cap : Int)) = True := eq_true (by omega)
  have e11 : (N0 ≤ cap) = True := eq_true (by omega)
  have hci : ¬ cap = i := by omega
  obtain ⟨A2, hA2⟩ : ∃ A2, (if cap = I1 then some (⟨hh, 0, none⟩ : Addr) else some ⟨hh, I1, none⟩) = A2 := ⟨_, rfl⟩
  have HA2 := Lib.hid hA2
  clear hq hb h hv hok hcm hrow hcp hn hi hfew hil0 hI1 hN0
  go_enter Try.func48, Try.ntmps48
  go_wp2_with fail
  have hs := search v (Kd.R_reads' HQ.out).2.2 (by have := HH.out.few; omega) HH.out.rise (c := cap)
  rw [HN.out] at hs
  refine hs.mono ?_
  clear hs
  rintro e w1 ⟨rfl, rfl⟩
  rw [HV.out, HI.out]
  obtain ⟨w11, hcp, g11, ⟨rest2, r11, l11⟩, b11, k11⟩ : ∃ w11, (Builtin.copy_ #[93, 93] 3 #[.slice (some ⟨hh, i, none⟩) (n - i) (cap - i), .slice A2 (n - I1) (cap - I1)]).run Try.prog w.drew = .ok (.int .i64 ((n - I1 : Nat) : Int)) w11 ∧
      w11.heap[g]? = some (.cells #[.slice (some ⟨hh, 0, none⟩) n cap] 95 (0, 0)) ∧ (∃ rest2, w11.heap[hh]? = some (.cells (nums .i64 (takeL v L) ++ rest2).toArray 2 (0, 0)) ∧ (takeL v L).length + rest2.length = cap) ∧ Below 0 w w11 ∧ Kept w w11 (fun k => k = g ∨ ok k) := by
    obtain ⟨z1, z2, z3, z4⟩ := HII.out
    have hn := HN.out
    have hi := HI.out
    obtain ⟨hok, hcm, hrow, hcp⟩ := HO.out
    have hB := HB.out
    rw [hn] at hB hcp
    have hE := take_cells L rest i (by omega)
    have hT := takeL_yes HV.out
    rw [hi, z1] at hT
    rw [z1, ← hT, hn] at hE
    have hlen : (nums .i64 (L.drop I1)).length = n - I1 := by simp [nums]; omega
    have hdl : (takeL v L).length + ((nums .i64 L ++ rest).drop (n - 1)).length = cap := by
      rw [hT]
      simp [nums]
      omega
    by_cases hz : I1 = n
    · refine ⟨w.drew, ?_, hB, ⟨_, ?_, hdl⟩, below_drew (Below.refl _ _), (Kept.refl w _).drew⟩
      · have := run_copy_none (P := Try.prog) w.drew 93 93 3 2 (some ⟨hh, i, none⟩) A2 (n - i) (cap - i) (n - I1) (cap - I1) Try.underlying93 size64 (by rw [hz, Nat.sub_self]; exact Nat.zero_min _)
        rw [this, hz, Nat.sub_self]
        rfl
      · refine hrow.trans ?_
        rw [← hE, hlen]
        have e1 : L.drop I1 = [] := List.drop_eq_nil_of_le (by omega)
        rw [e1]
        simp only [nums, List.map_nil, List.nil_append]
        rw [show i + (n - I1) = i by omega, List.take_append_drop]
    · have hA := HA2.out
      rw [if_neg (by omega)] at hA
      have hr := run_copy_row (P := Try.prog) w.drew 93 93 3 2 hh i (n - i) (cap - i) ⟨hh, I1, none⟩ (n - I1) (cap - I1) (nums .i64 L ++ rest).toArray 2 (nums .i64 (L.drop I1)) Try.underlying93 size64 hrow
        (by rw [hlen]; show n - I1 = min (n - I1) (n - i); omega)
        (by
          intro j u hu
          rw [add_at, blk_cell (show w.drew.heap[hh]? = _ from hrow) (I1 + j)]
          have hj : j < (nums .i64 (L.drop I1)).length := (List.getElem?_eq_some_iff.1 hu).1
          rw [List.getElem?_toArray, List.getElem?_append_left (by rw [hlen] at hj; simp [nums]; omega), ← hu]
          simp only [nums, List.map_drop, List.getElem?_drop])
        (by rw [hlen]; simp [nums]; omega)
        (by
          intro u hu
          unfold nums at hu
          obtain ⟨z, _, rfl⟩ := List.mem_map.1 hu
          rfl)
      rw [hA] at hr
      rw [hlen] at hr
      refine ⟨_, hr, (setRow_other _ _ _ _ (fun e => hhg e.symm)).trans hB, ⟨_, ?_, hdl⟩, below_setRow (below_drew (Below.refl _ _)) (Nat.zero_le _) _, ?_⟩
      · refine (setRow_heap _ _ _ _ _ _ (show w.drew.heap[hh]? = _ from hrow)).trans ?_
        rw [← hE, hlen]
        simp only [List.append_assoc]
      · refine ⟨by simp [World.setRow], fun k hk hs => ?_⟩
        rw [setRow_other _ _ _ _ (fun e => by subst e; exact hs (.inr hok))]
        rfl
  have k0 := (blk_cell g11 0).trans rfl
  have kf0 := blk_frozen g11 0
  have hw0 : IntKind.i64.wrap ((i : Int) + ((n - I1 : Nat) : Int)) = (N0 : Int) := by have := HII.out; rw [i64_w]; unfold wrap64; omega
  have G11 := Lib.hid g11
  have R11 := Lib.hid r11
  have L11 := Lib.hid l11
  have B11 := Lib.hid b11
  have K11 := Lib.hid k11
  clear g11 r11 l11 b11 k11
  go_wp2
  go_big_region
  clear hcp hw0 hwi
  go_wp2
  go_ret
  have hlenT : (takeL v L).length = N0 := by
    rw [takeL_yes HV.out, HI.out]
    have := HII.out; have := HN.out
    simp
    omega
  refine ⟨by simp, Below.setCell (p := ⟨g, 0, none⟩) B11.out (Nat.zero_le _) _, Kept.setCell (p := ⟨g, 0, none⟩) K11.out (.inl (.inl rfl)) _, ⟨⟨.slice (some ⟨hh, 0, none⟩) N0 cap, ?_, ?_⟩, HH.out.away, ?_, take_rising HH.out.rise, ?_⟩⟩
  · simpa using blk_set G11.out 0 (.slice (some ⟨hh, 0, none⟩) N0 cap)
  · exact R_close HO.out.1 (Nat.zero_le _) HO.out.2.1 (rest := rest2) (blk_far (p := ⟨g, 0, none⟩) R11.out hhg _) L11.out hlenT.symm
  · have := blk_lt G11.out
    simpa using this
  · rw [hlenT]
    have := HII.out
    omega
end Go.Proofs.Ytgfnlhigmncdmaa

end
