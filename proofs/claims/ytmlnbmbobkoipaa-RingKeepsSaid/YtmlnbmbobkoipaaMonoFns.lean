/-
  What the functions of package mono do to a queue that lies in memory.
-/
import Derived.Test.YtmlnbmbobkoipaaXMonox
import Derived.ProofKit
import Derived.WalkKit
import Derived.Lib.Hide
import Derived.WalkMore
import Derived.Deep.RegionHeldLaw
import Derived.Deep.RegionLaw
import Derived.KernelRfl
namespace Go.Proofs.Ytmlnbmbobkoipaa
open Go.RowKit Go.Proofs.Ytmlnbmbobkoipaa.XMono Go.Proofs.YtmlnbmbobkoipaaW.PrintWords Go.Proofs.YtmlnbmbobkoipaaW.PrintLast Go.Proofs.YtmlnbmbobkoipaaW.PrintMore

/-- A queue at block g; its row's block is one of those that ok names. -/
structure MonoAt (w : World) (g : Nat) (ok : Nat → Prop) (high : Bool) (come left : Int) (K : List S80) : Prop where
  ex : ∃ A c, w.heap[g]? = some (.cells #[.bool high, .int .i64 come, .int .i64 left, .slice A K.length c] 42 (0, 0)) ∧ Kd.Q k80 80 w 0 ok (.slice A K.length c) K
  away : ∀ k, ok k → k ≠ g
  lt : g < w.heap.size

theorem MonoAt.below {w w' : World} {g : Nat} {ok : Nat → Prop} {high : Bool} {come left : Int} {K : List S80} (h : MonoAt w g ok high come left K) (hb : Below w.heap.size w w') : MonoAt w' g ok high come left K := by
  obtain ⟨⟨A, c, h1, h2⟩, h3, h4⟩ := h
  exact ⟨⟨A, c, (hb.block g h4).trans h1, Kd.Q_below h2 hb⟩, h3, Nat.lt_of_lt_of_le h4 hb.size⟩
theorem MonoAt.kept {w w' : World} {g : Nat} {ok : Nat → Prop} {high : Bool} {come left : Int} {K : List S80} {S : Nat → Prop} (h : MonoAt w g ok high come left K) (hk : Kept w w' S) (hg : ¬ S g) (hs : ∀ k, ok k → ¬ S k) : MonoAt w' g ok high come left K := by
  obtain ⟨⟨A, c, h1, h2⟩, h3, h4⟩ := h
  exact ⟨⟨A, c, blk_kept h1 hk hg, Kd.Q_kept h2 hk hs⟩, h3, Nat.lt_of_lt_of_le h4 hk.1⟩

theorem mono_len {w : World} {g : Nat} {ok : Nat → Prop} {high : Bool} {come left : Int} {K : List S80} (h : MonoAt w g ok high come left K) (h0 : 0 ≤ left) (h1 : left ≤ come) (h2 : come < 4611686018427387904) :
    Calls Try.prog 20 #[.pointer (some ⟨g, 0, none⟩)] w fun e w' => e = .returned (.int .i64 (come - left)) ∧ Below w.heap.size w w' := by
  obtain ⟨A, c, hb, hq⟩ := h.ex
  have c1 := (blk_cell hb 1).trans rfl
  have c2 := (blk_cell hb 2).trans rfl
  have hw : IntKind.i64.wrap (come - left) = come - left := by rw [i64_w]; unfold wrap64; omega
  clear hb hq h h0 h1 h2
  go_enter Try.func20, Try.ntmps20
  go_wp2
  go_quiet (fail)
  go_wp2
  go_ret
  exact ⟨by simp [hw], pw_below_drewN (Below.refl _ _) _⟩
theorem mono_len_nil (w : World) :
    Calls Try.prog 20 #[.pointer none] w fun e w' => e = .returned (.int .i64 0) ∧ Below w.heap.size w w' := by
  go_enter Try.func20, Try.ntmps20
  go_wp2
  go_ret
  exact ⟨rfl, Below.refl _ _⟩
theorem mono_best_nil (w : World) :
    Calls Try.prog 19 #[.pointer none] w fun e w' => e = .returned (.tuple #[.int .i64 0, .bool false]) ∧ Below w.heap.size w w' := by
  go_enter Try.func19, Try.ntmps19
  go_wp2_with fail
  refine (mono_len_nil _).mono ?_
  rintro e w1 ⟨rfl, hb1⟩
  go_wp2
  go_ret2
  exact ⟨by simp, hb1⟩
theorem mono_take_nil (w : World) :
    Calls Try.prog 18 #[.pointer none] w fun e w' => e = .returned (.bool false) ∧ Below w.heap.size w w' := by
  go_enter Try.func18, Try.ntmps18
  go_wp2_with fail
  refine (mono_len_nil _).mono ?_
  rintro e w1 ⟨rfl, hb1⟩
  go_wp2
  go_ret
  exact ⟨rfl, hb1⟩
set_option maxRecDepth 100000 in
theorem mono_put_nil (v : Int) (w : World) :
    Calls Try.prog 13 #[.pointer none, .int .i64 v] w fun e w' => e = .returned (.tuple #[]) ∧ Below w.heap.size w w' := by
  go_enter Try.func13, Try.ntmps13
  go_step3
  go_wp2
  simp only [Exit.noGoto_ret]
  refine bodyPost_ret (results_none rfl _ _ _) rfl ?_
  exact ⟨rfl, Below.refl _ _⟩
theorem mono_kept_nil (w : World) :
    Calls Try.prog 14 #[.pointer none] w fun e w' => e = .returned (.slice none 0 0) ∧ Below w.heap.size w w' := by
  go_enter Try.func14, Try.ntmps14
  go_wp2
  go_ret
  exact ⟨rfl, Below.refl _ _⟩
theorem mono_best {w : World} {g : Nat} {ok : Nat → Prop} {high : Bool} {come left : Int} {K : List S80} (h : MonoAt w g ok high come left K) (h0 : 0 ≤ left) (h1 : left < come) (h2 : come < 4611686018427387904) (hK : 0 < K.length) :
    Calls Try.prog 19 #[.pointer (some ⟨g, 0, none⟩)] w fun e w' => e = .returned (.tuple #[.int .i64 (rd_T80 K 0).f0, .bool true]) ∧ Below w.heap.size w w' := by
  go_enter Try.func19, Try.ntmps19
  go_wp2_with fail
  refine (mono_len h h0 (by omega) h2).mono ?_
  rintro e w1 ⟨rfl, hb1⟩
  obtain ⟨A, c, hb, hq⟩ := (h.below hb1).ex
  have c3 := (blk_cell hb 3).trans rfl
  obtain ⟨ad, rfl, r0', -⟩ := at_T80 (Kd.Q_reads' hq).2.2 0 (by decide) (by omega)
  have r0 : w1.cell? ad = some (.int .i64 (rd_T80 K 0).f0) := by simpa [Addr.add] using r0'
  clear r0'
  have hd : decide (come - left = 0) = false := decide_eq_false (by omega)
  have hd2 : (come - left == 0) = false := by simp; omega
  have hk := eq_true (show (0 : Int) < (K.length : Int) by omega)
  have hk2 := eq_true hK
  clear hb hq h0 h1 h2
  go_wp2
  go_ret2
  exact ⟨by simp, hb1⟩
theorem mono_best_none {w : World} {g : Nat} {ok : Nat → Prop} {high : Bool} {come left : Int} {K : List S80} (h : MonoAt w g ok high come left K) (h0 : 0 ≤ left) (h1 : left = come) (h2 : come < 4611686018427387904) :
    Calls Try.prog 19 #[.pointer (some ⟨g, 0, none⟩)] w fun e w' => e = .returned (.tuple #[.int .i64 0, .bool false]) ∧ Below w.heap.size w w' := by
  go_enter Try.func19, Try.ntmps19
  go_wp2_with fail
  refine (mono_len h h0 (by omega) h2).mono ?_
  rintro e w1 ⟨rfl, hb1⟩
  have hd2 : (come - left == 0) = true := by simp; omega
  clear h0 h1 h2
  go_wp2
  go_ret2
  exact ⟨by simp, hb1⟩

/-- Does an elder number stay ahead of a new one? -/
def beatsB (high : Bool) (a b : Int) : Bool := if high then decide (b < a) else decide (a < b)
/-- How many of the first n are left ahead of v. -/
def cutN (high : Bool) (v : Int) (K : List S80) : Nat → Nat
  | 0 => 0
  | n + 1 => if beatsB high (rd_T80 K (n : Int)).f0 v then n + 1 else cutN high v K n
theorem cutN_le (high : Bool) (v : Int) (K : List S80) : ∀ n, cutN high v K n ≤ n
  | 0 => Nat.le_refl _
  | n + 1 => by
    unfold cutN
    split
    · exact Nat.le_refl _
    · exact Nat.le_succ_of_le (cutN_le high v K n)

theorem info_kept : (Try.prog.info? 80).map (fun i => (i.zero, i.size, i.bytes)) = some (some (.agg #[.int .i64 0, .int .i64 0]), 2, 16) := by kernel_rfl

set_option maxHeartbeats 8000000 in
set_option maxRecDepth 100000 in
theorem mono_put {w : World} {g : Nat} {ok : Nat → Prop} {high : Bool} {come left : Int} {K : List S80} (v : Int) (h : MonoAt w g ok high come left K) (h0 : 0 ≤ come) (h1 : come < 4611686018427387904) (hl : (K.length + 1) * 16 ≤ 140737488355328) :
    Calls Try.prog 13 #[.pointer (some ⟨g, 0, none⟩), .int .i64 v] w fun e w' => e = .returned (.tuple #[]) ∧ Below 0 w w' ∧ Kept w w' (fun k => k = g ∨ ok k) ∧
      MonoAt w' g (fun k => ok k ∨ w.heap.size ≤ k) high (come + 1) left (K.take (cutN high v K K.length) ++ [⟨v, come⟩]) := by
  obtain ⟨A, c, hb, hq⟩ := h.ex
  have c0 := (blk_cell hb 0).trans rfl
  have c1 := (blk_cell hb 1).trans rfl
  have c3 := (blk_cell hb 3).trans rfl
  have HQ := Lib.hid hq
  have HB := Lib.hid hb
  have HL := Lib.hid hl
  have H0 := Lib.hid (And.intro h0 h1)
  have HH := Lib.hid h
  clear hb hq hl h0 h1 h
  go_enter Try.func13, Try.ntmps13
  go_step3
  go_wp2
  go_step3
  go_wp2
  go_loopg [4] K.length (fun kq v4 w' => ∃ n : Nat, v4 = .int .i64 n ∧ Aside0 (n = kq) ∧ Aside0 (n ≤ K.length) ∧ Aside0 (cutN high v K n = cutN high v K K.length) ∧ Aside0 (w' = w))
  case atStart => exact ⟨K.length, rfl, ⟨rfl⟩, ⟨Nat.le_refl _⟩, ⟨rfl⟩, ⟨rfl⟩⟩
  case round =>
    obtain ⟨n, rfl, hk, hn, hc, hw⟩ := hrel
    obtain rfl := hw.out
    by_cases hz : n = 0
    · have hd : decide (0 < n) = false := decide_eq_false (by omega)
      have HCUT := Lib.hid (show n = cutN high v K K.length by rw [← hc.out, hz]; rfl)
      clear hz
      go_wp2
      have hnc : n ≤ c := Nat.le_trans hn.out (Kd.Q_reads' HQ.out).2.1
      have hQ := Kd.Q_mono (ok' := fun k => ok k ∨ wr.heap.size ≤ k) (Kd.Q_take HQ.out (m := n) hn.out) (fun k hk => .inl hk)
      have hA : some g ≠ (Value.slice A n c).ownBlock := Kd.Q_away (Kd.Q_take HQ.out (m := n) hn.out) HH.out.away
      have hS : ∀ k, (Value.slice A n c).ownBlock = some k → ok k := (Kd.Q_take HQ.out (m := n) hn.out).1
      have hlen : (K.take (n)).length = n := by rw [List.length_take]; exact Nat.min_eq_left hn.out
      have hlen2 := Lib.hid hlen
      clear hlen
      have e1 := eq_true (show (0 : Int) ≤ ((n : Nat) : Int) by omega)
      have e2 : (((n : Nat) : Int) ≤ (c : Int)) = True := eq_true (by omega)
      have e3 := eq_true hnc
      have hne := World.new_ne wr _ c3
      have hlt := HH.out.lt
      have hne2 : ¬ g = wr.heap.size := by omega
      skip
      have HS := Lib.hid hS
      clear hS hnc
      go_region_law ((refine Kd.Q_append_step k80 (W := wr.drew) (w0 := wr) 0 (by rfl) _ _ _ 80 (.agg #[.int .i64 0, .int .i64 0]) 16 (by rfl) Try.underlying40 info_kept rfl (by decide) (by decide) (.slice A (n) c) (K.take (n)) ⟨v, come⟩ [.int .i64 v, .int .i64 come] (fun k => ok k ∨ wr.heap.size ≤ k) (fun _ => False) (by rfl) (by rfl) (k80_mkM _ _ _ _) (fun _ h => h.elim) (fun k hk => .inr hk) (Kd.Q_drew hQ) ((Below.refl 0 wr).drew) (Nat.zero_le _) (by have := HL.out; have := hn.out; have := hlen2.out; omega) ?_; intro v1 w1 hq1 hb1 hg1 hat1; obtain ⟨A1, cA1, rfl, -⟩ := Kd.Q_slice hq1; have hbk := (hg1.block g HH.out.lt hA).trans HB.out; have k1 := (blk_cell hbk 1).trans rfl; have k3 := (blk_cell hbk 3).trans rfl; have kf1 := blk_frozen hbk 1; have kf3 := blk_frozen hbk 3; have HBK := Lib.hid hbk; have HQ1 := Lib.hid hq1; have HG1 := Lib.hid hg1; clear hbk hq1 hg1))
      all_goals
        clear hQ
        go_wp2
        go_end0
        have hcw : wrap64 (come + 1) = come + 1 := by have := H0.out; unfold wrap64; omega
        rw [hcw]
        have hfar : ∀ k, (ok k ∨ wr.heap.size ≤ k) → k ≠ g := by
          intro k hk
          rcases hk with hk | hk
          · exact HH.out.away k hk
          · have := HH.out.lt; omega
        refine ⟨rfl, (hb1.setCell (p := ⟨g, 3, none⟩) (Nat.zero_le _) _).setCell (p := ⟨g, 1, none⟩) (Nat.zero_le _) _, ?_, ?_⟩
        · exact Kept.setCell (p := ⟨g, 1, none⟩) (Kept.setCell (p := ⟨g, 3, none⟩) (Kept.of_grown HG1.out (Kept.refl wr _).drew (fun k hk => .inl (.inr (HS.out k hk)))) (.inl (.inl rfl)) _) (.inl (.inl rfl)) _
        · rw [← HCUT.out]
          refine ⟨⟨A1, cA1, by simpa using blk_set (blk_set HBK.out 3 _) 1 _, Kd.Q_far (p := ⟨g, 1, none⟩) (Kd.Q_far (p := ⟨g, 3, none⟩) HQ1.out hfar _) hfar _⟩, hfar, ?_⟩
          have := blk_lt HBK.out
          simpa using this
    · obtain ⟨m, rfl⟩ : ∃ m, n = m + 1 := ⟨n - 1, by omega⟩
      clear hz
      have hd : decide (0 < m + 1) = true := decide_eq_true (by omega)
      have hw1 : wrap64 (((m + 1 : Nat) : Int) - 1) = (m : Int) := by have := hn.out; have := HL.out; unfold wrap64; omega
      have hw3 : wrap64 (m : Int) = (m : Int) := by have := hn.out; have := HL.out; unfold wrap64; omega
      have hw2 : wrap64 ((m : Int) + 1 - 1) = (m : Int) := by have := hn.out; have := HL.out; unfold wrap64; omega
      obtain ⟨ad, rfl, r0, -⟩ := at_T80 (Kd.Q_reads' HQ.out).2.2 (m : Int) (by omega) (by have := hn.out; omega)
      rw [Int.toNat_natCast] at r0
      have f1 := eq_true (show (0 : Int) ≤ (m : Int) by omega)
      have f2 : ((m : Int) < (K.length : Int)) = True := eq_true (by have := hn.out; omega)
      have f3 : (m < K.length) = True := eq_true (by have := hn.out; omega)
      cases hb : beatsB high (rd_T80 K (m : Int)).f0 v with
      | true =>
        have HCUT := Lib.hid (show m + 1 = cutN high v K K.length by rw [← hc.out]; unfold cutN; rw [if_pos hb])
        cases high with
        | true =>
          have hx : decide (v < (rd_T80 K (m : Int)).f0) = true := hb
          clear hb
          go_wp2
          have hnc : m + 1 ≤ c := Nat.le_trans hn.out (Kd.Q_reads' HQ.out).2.1
          have hQ := Kd.Q_mono (ok' := fun k => ok k ∨ wr.heap.size ≤ k) (Kd.Q_take HQ.out (m := m + 1) hn.out) (fun k hk => .inl hk)
          have hA : some g ≠ (Value.slice (some ad) (m + 1) c).ownBlock := Kd.Q_away (Kd.Q_take HQ.out (m := m + 1) hn.out) HH.out.away
          have hS : ∀ k, (Value.slice (some ad) (m + 1) c).ownBlock = some k → ok k := (Kd.Q_take HQ.out (m := m + 1) hn.out).1
          have hlen : (K.take (m + 1)).length = m + 1 := by rw [List.length_take]; exact Nat.min_eq_left hn.out
          have hlen2 := Lib.hid hlen
          clear hlen
          have e1 := eq_true (show (0 : Int) ≤ ((m + 1 : Nat) : Int) by omega)
          have e2 : (((m + 1 : Nat) : Int) ≤ (c : Int)) = True := eq_true (by omega)
          have e3 := eq_true hnc
          have hne := World.new_ne wr _ c3
          have hlt := HH.out.lt
          have hne2 : ¬ g = wr.heap.size := by omega
          have e4 := eq_true (show (0 : Int) ≤ (m : Int) + 1 by omega)
          have e5 : ((m : Int) + 1 ≤ (c : Int)) = True := eq_true (by omega)
          have HS := Lib.hid hS
          clear hS hnc
          go_region_law ((refine Kd.Q_append_step k80 (W := wr.drew) (w0 := wr) 0 (by rfl) _ _ _ 80 (.agg #[.int .i64 0, .int .i64 0]) 16 (by rfl) Try.underlying40 info_kept rfl (by decide) (by decide) (.slice (some ad) (m + 1) c) (K.take (m + 1)) ⟨v, come⟩ [.int .i64 v, .int .i64 come] (fun k => ok k ∨ wr.heap.size ≤ k) (fun _ => False) (by rfl) (by rfl) (k80_mkM _ _ _ _) (fun _ h => h.elim) (fun k hk => .inr hk) (Kd.Q_drew hQ) ((Below.refl 0 wr).drew) (Nat.zero_le _) (by have := HL.out; have := hn.out; have := hlen2.out; omega) ?_; intro v1 w1 hq1 hb1 hg1 hat1; obtain ⟨A1, cA1, rfl, -⟩ := Kd.Q_slice hq1; have hbk := (hg1.block g HH.out.lt hA).trans HB.out; have k1 := (blk_cell hbk 1).trans rfl; have k3 := (blk_cell hbk 3).trans rfl; have kf1 := blk_frozen hbk 1; have kf3 := blk_frozen hbk 3; have HBK := Lib.hid hbk; have HQ1 := Lib.hid hq1; have HG1 := Lib.hid hg1; clear hbk hq1 hg1))
          all_goals
            clear hQ
            go_wp2
            go_end0
            have hcw : wrap64 (come + 1) = come + 1 := by have := H0.out; unfold wrap64; omega
            rw [hcw]
            have hfar : ∀ k, (ok k ∨ wr.heap.size ≤ k) → k ≠ g := by
              intro k hk
              rcases hk with hk | hk
              · exact HH.out.away k hk
              · have := HH.out.lt; omega
            refine ⟨rfl, (hb1.setCell (p := ⟨g, 3, none⟩) (Nat.zero_le _) _).setCell (p := ⟨g, 1, none⟩) (Nat.zero_le _) _, ?_, ?_⟩
            · exact Kept.setCell (p := ⟨g, 1, none⟩) (Kept.setCell (p := ⟨g, 3, none⟩) (Kept.of_grown HG1.out (Kept.refl wr _).drew (fun k hk => .inl (.inr (HS.out k hk)))) (.inl (.inl rfl)) _) (.inl (.inl rfl)) _
            · rw [← HCUT.out]
              refine ⟨⟨A1, cA1, by simpa using blk_set (blk_set HBK.out 3 _) 1 _, Kd.Q_far (p := ⟨g, 1, none⟩) (Kd.Q_far (p := ⟨g, 3, none⟩) HQ1.out hfar _) hfar _⟩, hfar, ?_⟩
              have := blk_lt HBK.out
              simpa using this
        | false =>
          have hx : decide ((rd_T80 K (m : Int)).f0 < v) = true := hb
          clear hb
          go_wp2
          have hnc : m + 1 ≤ c := Nat.le_trans hn.out (Kd.Q_reads' HQ.out).2.1
          have hQ := Kd.Q_mono (ok' := fun k => ok k ∨ wr.heap.size ≤ k) (Kd.Q_take HQ.out (m := m + 1) hn.out) (fun k hk => .inl hk)
          have hA : some g ≠ (Value.slice (some ad) (m + 1) c).ownBlock := Kd.Q_away (Kd.Q_take HQ.out (m := m + 1) hn.out) HH.out.away
          have hS : ∀ k, (Value.slice (some ad) (m + 1) c).ownBlock = some k → ok k := (Kd.Q_take HQ.out (m := m + 1) hn.out).1
          have hlen : (K.take (m + 1)).length = m + 1 := by rw [List.length_take]; exact Nat.min_eq_left hn.out
          have hlen2 := Lib.hid hlen
          clear hlen
          have e1 := eq_true (show (0 : Int) ≤ ((m + 1 : Nat) : Int) by omega)
          have e2 : (((m + 1 : Nat) : Int) ≤ (c : Int)) = True := eq_true (by omega)
          have e3 := eq_true hnc
          have hne := World.new_ne wr _ c3
          have hlt := HH.out.lt
          have hne2 : ¬ g = wr.heap.size := by omega
          have e4 := eq_true (show (0 : Int) ≤ (m : Int) + 1 by omega)
          have e5 : ((m : Int) + 1 ≤ (c : Int)) = True := eq_true (by omega)
          have HS := Lib.hid hS
          clear hS hnc
          go_region_law ((refine Kd.Q_append_step k80 (W := wr.drew) (w0 := wr) 0 (by rfl) _ _ _ 80 (.agg #[.int .i64 0, .int .i64 0]) 16 (by rfl) Try.underlying40 info_kept rfl (by decide) (by decide) (.slice (some ad) (m + 1) c) (K.take (m + 1)) ⟨v, come⟩ [.int .i64 v, .int .i64 come] (fun k => ok k ∨ wr.heap.size ≤ k) (fun _ => False) (by rfl) (by rfl) (k80_mkM _ _ _ _) (fun _ h => h.elim) (fun k hk => .inr hk) (Kd.Q_drew hQ) ((Below.refl 0 wr).drew) (Nat.zero_le _) (by have := HL.out; have := hn.out; have := hlen2.out; omega) ?_; intro v1 w1 hq1 hb1 hg1 hat1; obtain ⟨A1, cA1, rfl, -⟩ := Kd.Q_slice hq1; have hbk := (hg1.block g HH.out.lt hA).trans HB.out; have k1 := (blk_cell hbk 1).trans rfl; have k3 := (blk_cell hbk 3).trans rfl; have kf1 := blk_frozen hbk 1; have kf3 := blk_frozen hbk 3; have HBK := Lib.hid hbk; have HQ1 := Lib.hid hq1; have HG1 := Lib.hid hg1; clear hbk hq1 hg1))
          all_goals
            clear hQ
            go_wp2
            go_end0
            have hcw : wrap64 (come + 1) = come + 1 := by have := H0.out; unfold wrap64; omega
            rw [hcw]
            have hfar : ∀ k, (ok k ∨ wr.heap.size ≤ k) → k ≠ g := by
              intro k hk
              rcases hk with hk | hk
              · exact HH.out.away k hk
              · have := HH.out.lt; omega
            refine ⟨rfl, (hb1.setCell (p := ⟨g, 3, none⟩) (Nat.zero_le _) _).setCell (p := ⟨g, 1, none⟩) (Nat.zero_le _) _, ?_, ?_⟩
            · exact Kept.setCell (p := ⟨g, 1, none⟩) (Kept.setCell (p := ⟨g, 3, none⟩) (Kept.of_grown HG1.out (Kept.refl wr _).drew (fun k hk => .inl (.inr (HS.out k hk)))) (.inl (.inl rfl)) _) (.inl (.inl rfl)) _
            · rw [← HCUT.out]
              refine ⟨⟨A1, cA1, by simpa using blk_set (blk_set HBK.out 3 _) 1 _, Kd.Q_far (p := ⟨g, 1, none⟩) (Kd.Q_far (p := ⟨g, 3, none⟩) HQ1.out hfar _) hfar _⟩, hfar, ?_⟩
              have := blk_lt HBK.out
              simpa using this
      | false =>
        have HC := Lib.hid (show cutN high v K m = cutN high v K K.length by rw [← hc.out]; conv => rhs; unfold cutN; rw [if_neg (by rw [hb]; decide)])
        cases high with
        | true =>
          have hx : decide (v < (rd_T80 K (m : Int)).f0) = false := hb
          clear hb
          go_wp2
          go_roundg m
          case measure => have := hk.out; omega
          case rel => exact ⟨m, by first | rfl | simp [hw3], ⟨rfl⟩, ⟨by have := hn.out; omega⟩, ⟨HC.out⟩, ⟨rfl⟩⟩
        | false =>
          have hx : decide ((rd_T80 K (m : Int)).f0 < v) = false := hb
          clear hb
          go_wp2
          go_roundg m
          case measure => have := hk.out; omega
          case rel => exact ⟨m, by first | rfl | simp [hw3], ⟨rfl⟩, ⟨by have := hn.out; omega⟩, ⟨HC.out⟩, ⟨rfl⟩⟩
end Go.Proofs.Ytmlnbmbobkoipaa
