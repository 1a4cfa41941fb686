/-
  The law's own first question; RankNil: the law's call answers true; nothing that was there is changed.
-/
import Derived.Test.YtfojfgnhblgckaaRankFns5
namespace Go.Proofs.Ytfojfgnhblgckaa
open Go.RowKit Go.Proofs.YtfojfgnhblgckaaW.PrintWords Go.Proofs.YtfojfgnhblgckaaW.PrintLast Go.Proofs.YtfojfgnhblgckaaW.PrintMore

theorem below_kept {w w1 w2 : World} {S : Nat → Prop} (h1 : Below w.heap.size w w1) (h2 : Below 0 w1 w2) (hk : Kept w1 w2 S) (hS : ∀ k, k < w.heap.size → ¬ S k) : Below w.heap.size w w2 :=
  ⟨h2.os.trans h1.os, h2.tape.trans h1.tape, h2.output.trans h1.output, Nat.le_trans h1.size h2.size, fun k hk' => (hk.2 k (Nat.lt_of_lt_of_le hk' h1.size) (hS k hk')).trans (h1.block k hk')⟩
/-- Numbers that lie in new memory. -/
structure RInv (W : World) (g : Nat) (L : List Int) (w : World) : Prop where
  big : W.heap.size ≤ g
  bel : Below W.heap.size W w
  ex : ∃ ok : Nat → Prop, RankAt w g ok L ∧ ∀ k, ok k → W.heap.size ≤ k
section
variable {W w w' : World} {g : Nat} {L L' : List Int}
theorem RInv.below (h : RInv W g L w) (hb : Below w.heap.size w w') : RInv W g L w' := by
  obtain ⟨h1, h2, ok, h3, h4⟩ := h
  exact ⟨h1, h2.trans (hb.mono h2.size), ok, h3.below hb, h4⟩
theorem RInv.step {ok ok' : Nat → Prop} (h : RInv W g L w) (h4 : ∀ k, ok k → W.heap.size ≤ k) (b : Below 0 w w') (k : Kept w w' (fun k => k = g ∨ ok k)) (m : RankAt w' g ok' L') (h5 : ∀ k, ok' k → W.heap.size ≤ k) : RInv W g L' w' := by
  refine ⟨h.big, below_kept h.bel b k ?_, ok', m, h5⟩
  rintro k hk (rfl | hs)
  · have := h.big; omega
  · have := h4 k hs; omega
theorem rinv_new (W w : World) (b : Below W.heap.size W w) : Calls Try.prog 8 #[] w fun e w' => ∃ g, e = .returned (.pointer (some ⟨g, 0, none⟩)) ∧ RInv W g [] w' := by
  refine (rank_new w).mono ?_
  rintro e w' ⟨g, rfl, h1, h2, h3⟩
  exact ⟨g, rfl, Nat.le_trans b.size h1, b.trans (h3.mono b.size), _, h2, fun _ hk => hk.elim⟩
theorem rinv_put (v : Int) (h : RInv W g L w) (hl : L.length + 1 ≤ 1048576) : Calls Try.prog 9 #[.pointer (some ⟨g, 0, none⟩), .int .i64 v] w fun e w' => e = .returned (.tuple #[]) ∧ RInv W g (putL v L) w' := by
  obtain ⟨ok, m1, m2⟩ := h.ex
  refine (rank_put v m1 hl).mono ?_
  rintro e w' ⟨rfl, b, k, m⟩
  refine ⟨rfl, h.step m2 b k m ?_⟩
  rintro k (hk | hk)
  · exact m2 k hk
  · exact Nat.le_trans h.bel.size hk
theorem rinv_take (v : Int) (h : RInv W g L w) : Calls Try.prog 11 #[.pointer (some ⟨g, 0, none⟩), .int .i64 v] w fun e w' => e = .returned (.bool (hasL v L)) ∧ RInv W g (takeL v L) w' := by
  obtain ⟨ok, m1, m2⟩ := h.ex
  cases hv : hasL v L with
  | true =>
    refine (rank_take v m1 hv).mono ?_
    rintro e w' ⟨rfl, b, k, m⟩
    exact ⟨rfl, h.step m2 b k m m2⟩
  | false =>
    refine (rank_take_no v m1 hv).mono ?_
    rintro e w' ⟨rfl, rfl⟩
    rw [takeL_no hv]
    exact ⟨rfl, h⟩
theorem rinv_len (h : RInv W g L w) : Calls Try.prog 19 #[.pointer (some ⟨g, 0, none⟩)] w fun e w' => e = .returned (.int .i64 (L.length : Int)) ∧ w = w' := by
  obtain ⟨ok, m1, m2⟩ := h.ex
  exact rank_len m1
theorem rinv_at (i : Int) (h : RInv W g L w) : Calls Try.prog 13 #[.pointer (some ⟨g, 0, none⟩), .int .i64 i] w fun e w' => e = .returned (.tuple #[.int .i64 (atV L i), .bool (atB L i)]) ∧ w = w' := by
  obtain ⟨ok, m1, m2⟩ := h.ex
  exact rank_at m1 i
theorem rinv_by (p : Int) (h : RInv W g L w) : Calls Try.prog 10 #[.pointer (some ⟨g, 0, none⟩), .int .i64 p] w fun e w' => e = .returned (.tuple #[.int .i64 (byV L p), .bool (askB L p)]) ∧ Below w.heap.size w w' := by
  obtain ⟨ok, m1, m2⟩ := h.ex
  exact rank_by m1 p
theorem rinv_list (h : RInv W g L w) : Calls Try.prog 17 #[.pointer (some ⟨g, 0, none⟩)] w fun e w' => ∃ v, e = .returned v ∧ Kd.R (Kd.int .i64) 2 w' w.heap.size (fun _ => True) v L ∧ Below w.heap.size w w' := by
  obtain ⟨ok, m1, m2⟩ := h.ex
  exact rank_list m1
theorem RInv.rise (h : RInv W g L w) : Rising L := by
  obtain ⟨ok, m1, m2⟩ := h.ex
  exact m1.rise
end
set_option maxRecDepth 100000 in
theorem rank_at_nil (w : World) : Calls Try.prog 13 #[.pointer none, .int .i64 0] w fun e w' => e = .returned (.tuple #[.int .i64 0, .bool false]) ∧ w = w' := by
  go_enter Try.func13, Try.ntmps13
  go_wp2_with fail
  refine (rank_len_nil _).mono ?_
  rintro e w1 ⟨rfl, rfl⟩
  go_wp2
  go_ret2
  exact ⟨by simp, rfl⟩
set_option maxHeartbeats 8000000 in
set_option maxRecDepth 100000 in
theorem awake07 (w : World) : Calls Try.prog 7 #[] w fun e w' => e = .returned (.bool true) ∧ Below w.heap.size w w' := by
  go_enter Try.func7, Try.ntmps7
  go_wp2_with fail
  refine (rinv_new w _ (Below.refl _ _)).mono ?_
  rintro e w1 ⟨g, rfl, h1⟩
  go_wp2_with fail
  refine (rinv_put 5 h1 (by decide)).mono ?_
  rintro e w2 ⟨rfl, h2⟩
  go_wp2_with fail
  refine (rinv_put 1 h2 (by decide)).mono ?_
  rintro e w3 ⟨rfl, h3⟩
  go_wp2_with fail
  refine (rinv_by 50000001 h3).mono ?_
  rintro e w4 ⟨rfl, b4⟩
  have e1 : byV (putL 1 (putL 5 [])) 50000001 = 5 := by decide
  have e2 : askB (putL 1 (putL 5 [])) 50000001 = true := by decide
  rw [e1, e2]
  go_wp2_with fail
  refine (rinv_len (h3.below b4)).mono ?_
  rintro e w5 ⟨rfl, rfl⟩
  have e3 : ((putL 1 (putL 5 [])).length : Int) = 2 := by decide
  rw [e3]
  go_wp2
  go_ret
  exact ⟨by simp, (h3.below b4).bel⟩
theorem put_nil (v : Int) : putL v [] = [v] := rfl
theorem has_one (v : Int) : hasL v [v] = true := by
  unfold hasL
  have : lower v [v] = 0 := by rw [lower_cons]; simp [lower]
  rw [this]
  simp
theorem take_one (v : Int) : takeL v [v] = [] := by
  rw [takeL_yes (has_one v)]
  have : lower v [v] = 0 := by rw [lower_cons]; simp [lower]
  rw [this]
  rfl
set_option maxHeartbeats 8000000 in
set_option maxRecDepth 100000 in
theorem RankNil_walk (v : Int) (W : World) : Calls Try.prog 6 #[.int .i64 v] W fun e w' => e = .returned (.bool true) ∧ Below W.heap.size W w' := by
  go_enter Try.func6, Try.ntmps6
  go_wp2_with fail
  refine (awake07 _).mono ?_
  rintro e w1 ⟨rfl, b1⟩
  go_wp2_with fail
  refine (rank_put_nil v _).mono ?_
  rintro e w2 ⟨rfl, rfl⟩
  go_wp2_with fail
  refine (rank_by_nil _ _).mono ?_
  rintro e w2 ⟨rfl, rfl⟩
  go_wp2_with fail
  refine (rank_at_nil _).mono ?_
  rintro e w2 ⟨rfl, rfl⟩
  go_wp2_with fail
  refine (rank_take_nil _ _).mono ?_
  rintro e w2 ⟨rfl, rfl⟩
  go_wp2_with fail
  refine (rank_len_nil _).mono ?_
  rintro e w2 ⟨rfl, rfl⟩
  go_wp2_with fail
  refine (rank_list_nil _).mono ?_
  rintro e w2 ⟨rfl, rfl⟩
  have P2 := Lib.hid (show RInv W w1.heap.size [] (w1.alloc (.cells #[.slice none 0 0] 45 (0, 0))) from ⟨b1.size, b1.alloc b1.size _, fun _ => False, ⟨⟨_, blk_new _ _, Kd.R_nil _ _ _ _ _⟩, fun _ hk => hk.elim, by simp, rising_nil, by simp⟩, fun _ hk => hk.elim⟩)
  clear b1
  go_wp2_with fail
  refine (rinv_put v P2.out (by decide)).mono ?_
  rintro e w3 ⟨rfl, h3⟩
  rw [put_nil] at h3
  go_wp2_with fail
  refine (rinv_by 1 h3).mono ?_
  rintro e w4 ⟨rfl, b4⟩
  have e2 : askB [v] 1 = true := by simp [askB]
  have e1 : byV [v] 1 = v := by unfold byV; rw [e2]; simp [place]
  rw [e1, e2]
  go_wp2_with fail
  refine (rinv_take v (h3.below b4)).mono ?_
  rintro e w5 ⟨rfl, h5⟩
  rw [take_one] at h5
  rw [has_one]
  go_wp2_with fail
  refine (rinv_len h5).mono ?_
  rintro e w6 ⟨rfl, rfl⟩
  go_wp2
  go_ret
  exact ⟨by simp, h5.bel⟩
end Go.Proofs.Ytfojfgnhblgckaa
