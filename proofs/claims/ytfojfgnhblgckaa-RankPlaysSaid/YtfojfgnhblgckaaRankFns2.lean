/-
  What the functions New, Len, At, Put of package rank do to numbers that lie in memory.
-/
import Derived.Test.YtfojfgnhblgckaaRankFns1
import Derived.Test.YtfojfgnhblgckaaStill
import Derived.Laws.CopyOwn
namespace Go.Proofs.Ytfojfgnhblgckaa
open Go.RowKit Go.Proofs.YtfojfgnhblgckaaW.PrintWords Go.Proofs.YtfojfgnhblgckaaW.PrintLast Go.Proofs.YtfojfgnhblgckaaW.PrintMore

/-- Numbers in rising order at block g; their row's block is one of those that ok names. -/
structure RankAt (w : World) (g : Nat) (ok : Nat → Prop) (L : List Int) : Prop where
  ex : ∃ v, w.heap[g]? = some (.cells #[v] 45 (0, 0)) ∧ Kd.R (Kd.int .i64) 2 w 0 ok v L
  away : ∀ k, ok k → k ≠ g
  lt : g < w.heap.size
  rise : Rising L
  few : L.length ≤ 1048576
section
variable {w w' : World} {g : Nat} {ok : Nat → Prop} {L : List Int}
theorem RankAt.below (h : RankAt w g ok L) (hb : Below w.heap.size w w') : RankAt w' g ok L := by
  obtain ⟨⟨v, h1, h2⟩, h3, h4, h5, h6⟩ := h
  exact ⟨⟨v, (hb.block g h4).trans h1, Kd.R_below h2 hb⟩, h3, Nat.lt_of_lt_of_le h4 hb.size, h5, h6⟩
theorem RankAt.kept {S : Nat → Prop} (h : RankAt w g ok L) (hk : Kept w w' S) (hg : ¬ S g) (hs : ∀ k, ok k → ¬ S k) : RankAt w' g ok L := by
  obtain ⟨⟨v, h1, h2⟩, h3, h4, h5, h6⟩ := h
  exact ⟨⟨v, blk_kept h1 hk hg, Kd.R_kept h2 hk hs⟩, h3, Nat.lt_of_lt_of_le h4 hk.1, h5, h6⟩
theorem RankAt.tight (h : RankAt w g ok L) : RankAt w g (fun k => ok k ∧ k < w.heap.size) L := by
  obtain ⟨⟨v, h1, h2⟩, h3, h4, h5, h6⟩ := h
  exact ⟨⟨v, h1, Kd.R_mono (Kd.R_bound h2) (fun k hk => ⟨hk.1, hk.2.2.1⟩)⟩, fun k hk => h3 k hk.1, h4, h5, h6⟩
end
theorem rank_new (w : World) : Calls Try.prog 8 #[] w fun e w' => ∃ g, e = .returned (.pointer (some ⟨g, 0, none⟩)) ∧ w.heap.size ≤ g ∧ RankAt w' g (fun _ => False) [] ∧ Below w.heap.size w w' := by
  go_enter Try.func8, Try.ntmps8
  go_wp2
  go_ret
  exact ⟨w.heap.size, by simp, Nat.le_refl _, ⟨⟨_, blk_new _ _, Kd.R_nil _ _ _ _ _⟩, fun _ hk => hk.elim, by simp, rising_nil, by simp⟩, below_alloc (Below.refl _ _) _⟩
theorem rank_len {w : World} {g : Nat} {ok : Nat → Prop} {L : List Int} (h : RankAt w g ok L) : Calls Try.prog 19 #[.pointer (some ⟨g, 0, none⟩)] w fun e w' => e = .returned (.int .i64 (L.length : Int)) ∧ w = w' := by
  obtain ⟨v, hb, hq⟩ := h.ex
  obtain ⟨A, c, rfl⟩ := Kd.R_slice hq
  have c0 := (blk_cell hb 0).trans rfl
  clear hb hq h
  go_enter Try.func19, Try.ntmps19
  go_wp2
  go_ret
  exact ⟨by simp, rfl⟩
theorem rank_len_nil (w : World) : Calls Try.prog 19 #[.pointer none] w fun e w' => e = .returned (.int .i64 0) ∧ w = w' := by
  go_enter Try.func19, Try.ntmps19
  go_wp2
  go_ret
  exact ⟨rfl, rfl⟩
def atV (L : List Int) (i : Int) : Int := if 0 ≤ i ∧ i < L.length then L.getD i.toNat 0 else 0
def atB (L : List Int) (i : Int) : Bool := decide (0 ≤ i ∧ i < L.length)
set_option maxRecDepth 100000 in
theorem rank_at {w : World} {g : Nat} {ok : Nat → Prop} {L : List Int} (h : RankAt w g ok L) (i : Int) : Calls Try.prog 13 #[.pointer (some ⟨g, 0, none⟩), .int .i64 i] w fun e w' => e = .returned (.tuple #[.int .i64 (atV L i), .bool (atB L i)]) ∧ w = w' := by
  by_cases h0 : i < 0
  · have e1 : atV L i = 0 := if_neg (by omega)
    have e2 : atB L i = false := decide_eq_false (by omega)
    have d1 : decide (i < 0) = true := decide_eq_true h0
    have E := Lib.hid (And.intro e1 e2)
    clear e1 e2 h0
    go_enter Try.func13, Try.ntmps13
    go_wp2
    go_ret2
    exact ⟨by rw [E.out.1, E.out.2]; simp, rfl⟩
  · have d1 : decide (i < 0) = false := decide_eq_false h0
    obtain ⟨k, rfl⟩ := Int.eq_ofNat_of_zero_le (show 0 ≤ i by omega)
    by_cases hk : k < L.length
    · obtain ⟨v, hb, hq⟩ := h.ex
      obtain ⟨A, c, rfl⟩ := Kd.R_slice hq
      have c0 := (blk_cell hb 0).trans rfl
      obtain ⟨ad, rfl, r0⟩ := Kd.at_int (Kd.R_reads' hq).2.2 (k : Int) (by omega) (by omega)
      rw [Int.toNat_natCast] at r0
      have e1 : atV L (k : Int) = rd L (k : Int) := by unfold atV rd; rw [if_pos (by omega)]
      have e2 : atB L (k : Int) = true := decide_eq_true (by omega)
      have E := Lib.hid (And.intro e1 e2)
      have d2 : decide ((L.length : Int) ≤ (k : Int)) = false := decide_eq_false (by omega)
      have d3 : decide (L.length ≤ k) = false := decide_eq_false (by omega)
      have f1 := eq_true (show (0 : Int) ≤ (k : Int) by omega)
      have f2 : ((k : Int) < (L.length : Int)) = True := eq_true (by omega)
      have f3 := eq_true hk
      have HH := Lib.hid h
      clear e1 e2 hb hq h h0 hk
      go_enter Try.func13, Try.ntmps13
      go_wp2_with fail
      refine (rank_len HH.out).mono ?_
      rintro e w1 ⟨rfl, rfl⟩
      go_wp2
      go_ret2
      exact ⟨by rw [E.out.1, E.out.2]; simp, rfl⟩
    · have e1 : atV L (k : Int) = 0 := if_neg (by omega)
      have e2 : atB L (k : Int) = false := decide_eq_false (by omega)
      have E := Lib.hid (And.intro e1 e2)
      have d2 : decide ((L.length : Int) ≤ (k : Int)) = true := decide_eq_true (by omega)
      have d3 : decide (L.length ≤ k) = true := decide_eq_true (by omega)
      clear e1 e2 h0 hk
      go_enter Try.func13, Try.ntmps13
      go_wp2_with fail
      refine (rank_len h).mono ?_
      rintro e w1 ⟨rfl, rfl⟩
      go_wp2
      go_ret2
      exact ⟨by rw [E.out.1, E.out.2]; simp, rfl⟩
end Go.Proofs.Ytfojfgnhblgckaa
