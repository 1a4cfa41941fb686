/-
  Texts of this seat, joined, less what WindowAgrees does not lean on: MonoFns, MonoFns2, MonoFns3, MonoPure, MonoIs.
-/
import Derived.Test.YtgfnlhigmncdmaaQWindowAgrees10
import Derived.ProofKit
import Derived.WalkKit
import Derived.Lib.Hide
import Derived.WalkMore
import Derived.Deep.RegionHeldLaw
import Derived.Deep.RegionLaw
import Derived.KernelRfl
section
namespace Go.Proofs.Ytgfnlhigmncdmaa
set_option linter.unusedVariables false
set_option linter.unusedSimpArgs false
open Go.RowKit Go.Proofs.Ytgfnlhigmncdmaa.XMono Go.Proofs.YtgfnlhigmncdmaaW.PrintWords Go.Proofs.YtgfnlhigmncdmaaW.PrintLast Go.Proofs.YtgfnlhigmncdmaaW.PrintMore

/-- A queue at block g; its row's block is one of those that ok names. -/
structure MonoAt (w : World) (g : Nat) (ok : Nat → Prop) (high : Bool) (come left : Int) (K : List S102) : Prop where
  ex : ∃ A c, w.heap[g]? = some (.cells #[.bool high, .int .i64 come, .int .i64 left, .slice A K.length c] 92 (0, 0)) ∧ Kd.Q k102 102 w 0 ok (.slice A K.length c) K
  away : ∀ k, ok k → k ≠ g
  lt : g < w.heap.size

theorem MonoAt.below {w w' : World} {g : Nat} {ok : Nat → Prop} {high : Bool} {come left : Int} {K : List S102} (h : MonoAt w g ok high come left K) (hb : Below w.heap.size w w') : MonoAt w' g ok high come left K := by
  obtain ⟨⟨A, c, h1, h2⟩, h3, h4⟩ := h
  exact ⟨⟨A, c, (hb.block g h4).trans h1, Kd.Q_below h2 hb⟩, h3, Nat.lt_of_lt_of_le h4 hb.size⟩
theorem MonoAt.kept {w w' : World} {g : Nat} {ok : Nat → Prop} {high : Bool} {come left : Int} {K : List S102} {S : Nat → Prop} (h : MonoAt w g ok high come left K) (hk : Kept w w' S) (hg : ¬ S g) (hs : ∀ k, ok k → ¬ S k) : MonoAt w' g ok high come left K := by
  obtain ⟨⟨A, c, h1, h2⟩, h3, h4⟩ := h
  exact ⟨⟨A, c, blk_kept h1 hk hg, Kd.Q_kept h2 hk hs⟩, h3, Nat.lt_of_lt_of_le h4 hk.1⟩

theorem mono_len {w : World} {g : Nat} {ok : Nat → Prop} {high : Bool} {come left : Int} {K : List S102} (h : MonoAt w g ok high come left K) (h0 : 0 ≤ left) (h1 : left ≤ come) (h2 : come < 4611686018427387904) :
    Calls Try.prog 61 #[.pointer (some ⟨g, 0, none⟩)] w fun e w' => e = .returned (.int .i64 (come - left)) ∧ Below w.heap.size w w' := by
  obtain ⟨A, c, hb, hq⟩ := h.ex
  have c1 := (blk_cell hb 1).trans rfl
  have c2 := (blk_cell hb 2).trans rfl
  have hw : IntKind.i64.wrap (come - left) = come - left := by rw [i64_w]; unfold wrap64; omega
  clear hb hq h h0 h1 h2
  go_enter Try.func61, Try.ntmps61
  go_wp2
  go_quiet (fail)
  go_wp2
  go_ret
  exact ⟨by simp [hw], pw_below_drewN (Below.refl _ _) _⟩
theorem mono_len_nil (w : World) :
    Calls Try.prog 61 #[.pointer none] w fun e w' => e = .returned (.int .i64 0) ∧ Below w.heap.size w w' := by
  go_enter Try.func61, Try.ntmps61
  go_wp2
  go_ret
  exact ⟨rfl, Below.refl _ _⟩
theorem mono_take_nil (w : World) :
    Calls Try.prog 47 #[.pointer none] w fun e w' => e = .returned (.bool false) ∧ Below w.heap.size w w' := by
  go_enter Try.func47, Try.ntmps47
  go_wp2_with fail
  refine (mono_len_nil _).mono ?_
  rintro e w1 ⟨rfl, hb1⟩
  go_wp2
  go_ret
  exact ⟨rfl, hb1⟩
set_option maxRecDepth 100000 in
theorem mono_put_nil (v : Int) (w : World) :
    Calls Try.prog 27 #[.pointer none, .int .i64 v] w fun e w' => e = .returned (.tuple #[]) ∧ Below w.heap.size w w' := by
  go_enter Try.func27, Try.ntmps27
  go_step3
  go_wp2
  simp only [Exit.noGoto_ret]
  refine bodyPost_ret (results_none rfl _ _ _) rfl ?_
  exact ⟨rfl, Below.refl _ _⟩
theorem mono_best {w : World} {g : Nat} {ok : Nat → Prop} {high : Bool} {come left : Int} {K : List S102} (h : MonoAt w g ok high come left K) (h0 : 0 ≤ left) (h1 : left < come) (h2 : come < 4611686018427387904) (hK : 0 < K.length) :
    Calls Try.prog 37 #[.pointer (some ⟨g, 0, none⟩)] w fun e w' => e = .returned (.tuple #[.int .i64 (rd_T102 K 0).f0, .bool true]) ∧ Below w.heap.size w w' := by
  go_enter Try.func37, Try.ntmps37
  go_wp2_with fail
  refine (mono_len h h0 (by omega) h2).mono ?_
  rintro e w1 ⟨rfl, hb1⟩
  obtain ⟨A, c, hb, hq⟩ := (h.below hb1).ex
  have c3 := (blk_cell hb 3).trans rfl
  obtain ⟨ad, rfl, r0', -⟩ := at_T102 (Kd.Q_reads' hq).2.2 0 (by decide) (by omega)
  have r0 : w1.cell? ad = some (.int .i64 (rd_T102 K 0).f0) := by simpa [Addr.add] using r0'
  clear r0'
  have hd : decide (come - left = 0) = false := decide_eq_false (by omega)
  have hd2 : (come - left == 0) = false := by simp; omega
  have hk := eq_true (show (0 : Int) < (K.length : Int) by omega)
  have hk2 := eq_true hK
  clear hb hq h0 h1 h2
  go_wp2
  go_ret2
  exact ⟨by simp, hb1⟩
theorem mono_best_none {w : World} {g : Nat} {ok : Nat → Prop} {high : Bool} {come left : Int} {K : List S102} (h : MonoAt w g ok high come left K) (h0 : 0 ≤ left) (h1 : left = come) (h2 : come < 4611686018427387904) :
    Calls Try.prog 37 #[.pointer (some ⟨g, 0, none⟩)] w fun e w' => e = .returned (.tuple #[.int .i64 0, .bool false]) ∧ Below w.heap.size w w' := by
  go_enter Try.func37, Try.ntmps37
  go_wp2_with fail
  refine (mono_len h h0 (by omega) h2).mono ?_
  rintro e w1 ⟨rfl, hb1⟩
  have hd2 : (come - left == 0) = true := by simp; omega
  clear h0 h1 h2
  go_wp2
  go_ret2
  exact ⟨by simp, hb1⟩

/-- Does an elder number stay ahead of a new one? -/
def beatsB (high : Bool) (a b : Int) : Bool := if high then decide (b < a) else decide (a < b)
/-- How many of the first n are left ahead of v. -/
def cutN (high : Bool) (v : Int) (K : List S102) : Nat → Nat
  | 0 => 0
  | n + 1 => if beatsB high (rd_T102 K (n : Int)).f0 v then n + 1 else cutN high v K n
theorem info_kept : (Try.prog.info? 102).map (fun i => (i.zero, i.size, i.bytes)) = some (some (.agg #[.int .i64 0, .int .i64 0]), 2, 16) := by kernel_rfl

set_option maxHeartbeats 8000000 in
set_option maxRecDepth 100000 in
theorem mono_put {w : World} {g : Nat} {ok : Nat → Prop} {high : Bool} {come left : Int} {K : List S102} (v : Int) (h : MonoAt w g ok high come left K) (h0 : 0 ≤ come) (h1 : come < 4611686018427387904) (hl : (K.length + 1) * 16 ≤ 140737488355328) :
    Calls Try.prog 27 #[.pointer (some ⟨g, 0, none⟩), .int .i64 v] w fun e w' => e = .returned (.tuple #[]) ∧ Below 0 w w' ∧ Kept w w' (fun k => k = g ∨ ok k) ∧
      MonoAt w' g (fun k => ok k ∨ w.heap.size ≤ k) high (come + 1) left (K.take (cutN high v K K.length) ++ [⟨v, come⟩]) := by
  obtain ⟨A, c, hb, hq⟩ := h.ex
  have c0 := (blk_cell hb 0).trans rfl
  have c1 := (blk_cell hb 1).trans rfl
  have c3 := (blk_cell hb 3).trans rfl
  have HQ := Lib.hid hq
  have HB := Lib.hid hb
  have HL := Lib.hid hl
  have H0 := Lib.hid (And.intro h0 h1)
  have HH := Lib.hid h
  clear hb hq hl h0 h1 h
  go_enter Try.func27, Try.ntmps27
  go_step3
  go_wp2
  go_step3
  go_wp2
  go_loopg [4] K.length (fun kq v4 w' => ∃ n : Nat, v4 = .int .i64 n ∧ Aside0 (n = kq) ∧ Aside0 (n ≤ K.length) ∧ Aside0 (cutN high v K n = cutN high v K K.length) ∧ Aside0 (w' = w))
  case atStart => exact ⟨K.length, rfl, ⟨rfl⟩, ⟨Nat.le_refl _⟩, ⟨rfl⟩, ⟨rfl⟩⟩
  case round =>
    obtain ⟨n, rfl, hk, hn, hc, hw⟩ := hrel
    obtain rfl := hw.out
    by_cases hz : n = 0
    · have hd : decide (0 < n) = false := decide_eq_false (by omega)
      have HCUT := Lib.hid (show n = cutN high v K K.length by rw [← hc.out, hz]; rfl)
      clear hz
      go_wp2
      have hnc : n ≤ c := Nat.le_trans hn.out (Kd.Q_reads' HQ.out).2.1
      have hQ := Kd.Q_mono (ok' := fun k => ok k ∨ wr.heap.size ≤ k) (Kd.Q_take HQ.out (m := n) hn.out) (fun k hk => .inl hk)
      have hA : some g ≠ (Value.slice A n c).ownBlock := Kd.Q_away (Kd.Q_take HQ.out (m := n) hn.out) HH.out.away
      have hS : ∀ k, (Value.slice A n c).ownBlock = some k → ok k := (Kd.Q_take HQ.out (m := n) hn.out).1
      have hlen : (K.take (n)).length = n := by rw [List.length_take]; exact Nat.min_eq_left hn.out
      have hlen2 := Lib.hid hlen
      clear hlen
      have e1 := eq_true (show (0 : Int) ≤ ((n : Nat) : Int) by omega)
      have e2 : (((n : Nat) : Int) ≤ (c : Int)) = True := eq_true (by omega)
      have e3 := eq_true hnc
      have hne := World.new_ne wr _ c3
      have hlt := HH.out.lt
      have hne2 : ¬ g = wr.heap.size := by omega
      skip
      have HS := Lib.hid hS
      clear hS hnc
      go_region_law ((refine Kd.Q_append_step k102 (W := wr.drew) (w0 := wr) 0 (by rfl) _ _ _ 102 (.agg #[.int .i64 0, .int .i64 0]) 16 (by rfl) Try.underlying90 info_kept rfl (by decide) (by decide) (.slice A (n) c) (K.take (n)) ⟨v, come⟩ [.int .i64 v, .int .i64 come] (fun k => ok k ∨ wr.heap.size ≤ k) (fun _ => False) (by rfl) (by rfl) (k102_mkM _ _ _ _) (fun _ h => h.elim) (fun k hk => .inr hk) (Kd.Q_drew hQ) ((Below.refl 0 wr).drew) (Nat.zero_le _) (by have := HL.out; have := hn.out; have := hlen2.out; omega) ?_; intro v1 w1 hq1 hb1 hg1 hat1; obtain ⟨A1, cA1, rfl, -⟩ := Kd.Q_slice hq1; have hbk := (hg1.block g HH.out.lt hA).trans HB.out; have k1 := (blk_cell hbk 1).trans rfl; have k3 := (blk_cell hbk 3).trans rfl; have kf1 := blk_frozen hbk 1; have kf3 := blk_frozen hbk 3; have HBK := Lib.hid hbk; have HQ1 := Lib.hid hq1; have HG1 := Lib.hid hg1; clear hbk hq1 hg1))
      all_goals
        clear hQ
        go_wp2
        go_end0
        have hcw : wrap64 (come + 1) = come + 1 := by have := H0.out; unfold wrap64; omega
        rw [hcw]
        have hfar : ∀ k, (ok k ∨ wr.heap.size ≤ k) → k ≠ g := by
          intro k hk
          rcases hk with hk | hk
          · exact HH.out.away k hk
          · have := HH.out.lt; omega
        refine ⟨rfl, (hb1.setCell (p := ⟨g, 3, none⟩) (Nat.zero_le _) _).setCell (p := ⟨g, 1, none⟩) (Nat.zero_le _) _, ?_, ?_⟩
        · exact Kept.setCell (p := ⟨g, 1, none⟩) (Kept.setCell (p := ⟨g, 3, none⟩) (Kept.of_grown HG1.out (Kept.refl wr _).drew (fun k hk => .inl (.inr (HS.out k hk)))) (.inl (.inl rfl)) _) (.inl (.inl rfl)) _
        · rw [← HCUT.out]
          refine ⟨⟨A1, cA1, by simpa using blk_set (blk_set HBK.out 3 _) 1 _, Kd.Q_far (p := ⟨g, 1, none⟩) (Kd.Q_far (p := ⟨g, 3, none⟩) HQ1.out hfar _) hfar _⟩, hfar, ?_⟩
          have := blk_lt HBK.out
          simpa using this
    · obtain ⟨m, rfl⟩ : ∃ m, n = m + 1 := ⟨n - 1, by omega⟩
      clear hz
      have hd : decide (0 < m + 1) = true := decide_eq_true (by omega)
      have hw1 : wrap64 (((m + 1 : Nat) : Int) - 1) = (m : Int) := by have := hn.out; have := HL.out; unfold wrap64; omega
      have hw3 : wrap64 (m : Int) = (m : Int) := by have := hn.out; have := HL.out; unfold wrap64; omega
      have hw2 : wrap64 ((m : Int) + 1 - 1) = (m : Int) := by have := hn.out; have := HL.out; unfold wrap64; omega
      obtain ⟨ad, rfl, r0, -⟩ := at_T102 (Kd.Q_reads' HQ.out).2.2 (m : Int) (by omega) (by have := hn.out; omega)
      rw [Int.toNat_natCast] at r0
      have f1 := eq_true (show (0 : Int) ≤ (m : Int) by omega)
      have f2 : ((m : Int) < (K.length : Int)) = True := eq_true (by have := hn.out; omega)
      have f3 : (m < K.length) = True := eq_true (by have := hn.out; omega)
      cases hb : beatsB high (rd_T102 K (m : Int)).f0 v with
      | true =>
        have HCUT := Lib.hid (show m + 1 = cutN high v K K.length by rw [← hc.out]; unfold cutN; rw [if_pos hb])
        cases high with
        | true =>
          have hx : decide (v < (rd_T102 K (m : Int)).f0) = true := hb
          clear hb
          go_wp2
          have hnc : m + 1 ≤ c := Nat.le_trans hn.out (Kd.Q_reads' HQ.out).2.1
          have hQ := Kd.Q_mono (ok' := fun k => ok k ∨ wr.heap.size ≤ k) (Kd.Q_take HQ.out (m := m + 1) hn.out) (fun k hk => .inl hk)
          have hA : some g ≠ (Value.slice (some ad) (m + 1) c).ownBlock := Kd.Q_away (Kd.Q_take HQ.out (m := m + 1) hn.out) HH.out.away
          have hS : ∀ k, (Value.slice (some ad) (m + 1) c).ownBlock = some k → ok k := (Kd.Q_take HQ.out (m := m + 1) hn.out).1
          have hlen : (K.take (m + 1)).length = m + 1 := by rw [List.length_take]; exact Nat.min_eq_left hn.out
          have hlen2 := Lib.hid hlen
          clear hlen
          have e1 := eq_true (show (0 : Int) ≤ ((m + 1 : Nat) : Int) by omega)
          have e2 : (((m + 1 : Nat) : Int) ≤ (c : Int)) = True := eq_true (by omega)
          have e3 := eq_true hnc
          have hne := World.new_ne wr _ c3
          have hlt := HH.out.lt
          have hne2 : ¬ g = wr.heap.size := by omega
          have e4 := eq_true (show (0 : Int) ≤ (m : Int) + 1 by omega)
          have e5 : ((m : Int) + 1 ≤ (c : Int)) = True := eq_true (by omega)
          have HS := Lib.hid hS
          clear hS hnc
          go_region_law ((refine Kd.Q_append_step k102 (W := wr.drew) (w0 := wr) 0 (by rfl) _ _ _ 102 (.agg #[.int .i64 0, .int .i64 0]) 16 (by rfl) Try.underlying90 info_kept rfl (by decide) (by decide) (.slice (some ad) (m + 1) c) (K.take (m + 1)) ⟨v, come⟩ [.int .i64 v, .int .i64 come] (fun k => ok k ∨ wr.heap.size ≤ k) (fun _ => False) (by rfl) (by rfl) (k102_mkM _ _ _ _) (fun _ h => h.elim) (fun k hk => .inr hk) (Kd.Q_drew hQ) ((Below.refl 0 wr).drew) (Nat.zero_le _) (by have := HL.out; have := hn.out; have := hlen2.out; omega) ?_; intro v1 w1 hq1 hb1 hg1 hat1; obtain ⟨A1, cA1, rfl, -⟩ := Kd.Q_slice hq1; have hbk := (hg1.block g HH.out.lt hA).trans HB.out; have k1 := (blk_cell hbk 1).trans rfl; have k3 := (blk_cell hbk 3).trans rfl; have kf1 := blk_frozen hbk 1; have kf3 := blk_frozen hbk 3; have HBK := Lib.hid hbk; have HQ1 := Lib.hid hq1; have HG1 := Lib.hid hg1; clear hbk hq1 hg1))
          all_goals
            clear hQ
            go_wp2
            go_end0
            have hcw : wrap64 (come + 1) = come + 1 := by have := H0.out; unfold wrap64; omega
            rw [hcw]
            have hfar : ∀ k, (ok k ∨ wr.heap.size ≤ k) → k ≠ g := by
              intro k hk
              rcases hk with hk | hk
              · exact HH.out.away k hk
              · have := HH.out.lt; omega
            refine ⟨rfl, (hb1.setCell (p := ⟨g, 3, none⟩) (Nat.zero_le _) _).setCell (p := ⟨g, 1, none⟩) (Nat.zero_le _) _, ?_, ?_⟩
            · exact Kept.setCell (p := ⟨g, 1, none⟩) (Kept.setCell (p := ⟨g, 3, none⟩) (Kept.of_grown HG1.out (Kept.refl wr _).drew (fun k hk => .inl (.inr (HS.out k hk)))) (.inl (.inl rfl)) _) (.inl (.inl rfl)) _
            · rw [← HCUT.out]
              refine ⟨⟨A1, cA1, by simpa using blk_set (blk_set HBK.out 3 _) 1 _, Kd.Q_far (p := ⟨g, 1, none⟩) (Kd.Q_far (p := ⟨g, 3, none⟩) HQ1.out hfar _) hfar _⟩, hfar, ?_⟩
              have := blk_lt HBK.out
              simpa using this
        | false =>
          have hx : decide ((rd_T102 K (m : Int)).f0 < v) = true := hb
          clear hb
          go_wp2
          have hnc : m + 1 ≤ c := Nat.le_trans hn.out (Kd.Q_reads' HQ.out).2.1
          have hQ := Kd.Q_mono (ok' := fun k => ok k ∨ wr.heap.size ≤ k) (Kd.Q_take HQ.out (m := m + 1) hn.out) (fun k hk => .inl hk)
          have hA : some g ≠ (Value.slice (some ad) (m + 1) c).ownBlock := Kd.Q_away (Kd.Q_take HQ.out (m := m + 1) hn.out) HH.out.away
          have hS : ∀ k, (Value.slice (some ad) (m + 1) c).ownBlock = some k → ok k := (Kd.Q_take HQ.out (m := m + 1) hn.out).1
          have hlen : (K.take (m + 1)).length = m + 1 := by rw [List.length_take]; exact Nat.min_eq_left hn.out
          have hlen2 := Lib.hid hlen
          clear hlen
          have e1 := eq_true (show (0 : Int) ≤ ((m + 1 : Nat) : Int) by omega)
          have e2 : (((m + 1 : Nat) : Int) ≤ (c : Int)) = True := eq_true (by omega)
          have e3 := eq_true hnc
          have hne := World.new_ne wr _ c3
          have hlt := HH.out.lt
          have hne2 : ¬ g = wr.heap.size := by omega
          have e4 := eq_true (show (0 : Int) ≤ (m : Int) + 1 by omega)
          have e5 : ((m : Int) + 1 ≤ (c : Int)) = True := eq_true (by omega)
          have HS := Lib.hid hS
          clear hS hnc
          go_region_law ((refine Kd.Q_append_step k102 (W := wr.drew) (w0 := wr) 0 (by rfl) _ _ _ 102 (.agg #[.int .i64 0, .int .i64 0]) 16 (by rfl) Try.underlying90 info_kept rfl (by decide) (by decide) (.slice (some ad) (m + 1) c) (K.take (m + 1)) ⟨v, come⟩ [.int .i64 v, .int .i64 come] (fun k => ok k ∨ wr.heap.size ≤ k) (fun _ => False) (by rfl) (by rfl) (k102_mkM _ _ _ _) (fun _ h => h.elim) (fun k hk => .inr hk) (Kd.Q_drew hQ) ((Below.refl 0 wr).drew) (Nat.zero_le _) (by have := HL.out; have := hn.out; have := hlen2.out; omega) ?_; intro v1 w1 hq1 hb1 hg1 hat1; obtain ⟨A1, cA1, rfl, -⟩ := Kd.Q_slice hq1; have hbk := (hg1.block g HH.out.lt hA).trans HB.out; have k1 := (blk_cell hbk 1).trans rfl; have k3 := (blk_cell hbk 3).trans rfl; have kf1 := blk_frozen hbk 1; have kf3 := blk_frozen hbk 3; have HBK := Lib.hid hbk; have HQ1 := Lib.hid hq1; have HG1 := Lib.hid hg1; clear hbk hq1 hg1))
          all_goals
            clear hQ
            go_wp2
            go_end0
            have hcw : wrap64 (come + 1) = come + 1 := by have := H0.out; unfold wrap64; omega
            rw [hcw]
            have hfar : ∀ k, (ok k ∨ wr.heap.size ≤ k) → k ≠ g := by
              intro k hk
              rcases hk with hk | hk
              · exact HH.out.away k hk
              · have := HH.out.lt; omega
            refine ⟨rfl, (hb1.setCell (p := ⟨g, 3, none⟩) (Nat.zero_le _) _).setCell (p := ⟨g, 1, none⟩) (Nat.zero_le _) _, ?_, ?_⟩
            · exact Kept.setCell (p := ⟨g, 1, none⟩) (Kept.setCell (p := ⟨g, 3, none⟩) (Kept.of_grown HG1.out (Kept.refl wr _).drew (fun k hk => .inl (.inr (HS.out k hk)))) (.inl (.inl rfl)) _) (.inl (.inl rfl)) _
            · rw [← HCUT.out]
              refine ⟨⟨A1, cA1, by simpa using blk_set (blk_set HBK.out 3 _) 1 _, Kd.Q_far (p := ⟨g, 1, none⟩) (Kd.Q_far (p := ⟨g, 3, none⟩) HQ1.out hfar _) hfar _⟩, hfar, ?_⟩
              have := blk_lt HBK.out
              simpa using this
      | false =>
        have HC := Lib.hid (show cutN high v K m = cutN high v K K.length by rw [← hc.out]; conv => rhs; unfold cutN; rw [if_neg (by rw [hb]; decide)])
        cases high with
        | true =>
          have hx : decide (v < (rd_T102 K (m : Int)).f0) = false := hb
          clear hb
          go_wp2
          go_roundg m
          case measure => have := hk.out; omega
          case rel => exact ⟨m, by first | rfl | simp [hw3], ⟨rfl⟩, ⟨by have := hn.out; omega⟩, ⟨HC.out⟩, ⟨rfl⟩⟩
        | false =>
          have hx : decide ((rd_T102 K (m : Int)).f0 < v) = false := hb
          clear hb
          go_wp2
          go_roundg m
          case measure => have := hk.out; omega
          case rel => exact ⟨m, by first | rfl | simp [hw3], ⟨rfl⟩, ⟨by have := hn.out; omega⟩, ⟨HC.out⟩, ⟨rfl⟩⟩
end Go.Proofs.Ytgfnlhigmncdmaa

end
section
namespace Go.Proofs.Ytgfnlhigmncdmaa
set_option linter.unusedVariables false
set_option linter.unusedSimpArgs false
open Go.RowKit Go.Proofs.Ytgfnlhigmncdmaa.XMono Go.Proofs.YtgfnlhigmncdmaaW.PrintWords Go.Proofs.YtgfnlhigmncdmaaW.PrintLast Go.Proofs.YtgfnlhigmncdmaaW.PrintMore

theorem mono_new (high : Bool) (w : World) : Calls Try.prog 21 #[.bool high] w fun e w' => ∃ g, e = .returned (.pointer (some ⟨g, 0, none⟩)) ∧ w.heap.size ≤ g ∧ MonoAt w' g (fun _ => False) high 0 0 [] ∧ Below w.heap.size w w' := by
  go_enter Try.func21, Try.ntmps21
  go_wp2_with (first | ((with_reducible refine gate_dst (N := 5) rfl ?_); refine box_event ?hg (N := 5) ?hd (cs := #[.bool high, .int .i64 0, .int .i64 0, .slice none 0 0]) (t := 92) ?hr ?_; (case hd => rfl); (case hg => rfl); (case hr => first | (go_simp; done) | (go_simp; rfl)); intro gb hg w2 hbox hb; have HBOX := Lib.hid hbox; have HG := Lib.hid hg; have HB2 := Lib.hid hb; clear hbox hg hb))
  go_ret
  refine ⟨gb, rfl, Nat.le_of_eq HG.out.symm, ⟨⟨none, 0, HBOX.out, Kd.Q_nil _ _ _ _ _⟩, fun _ hk => hk.elim, blk_lt HBOX.out⟩, HB2.out⟩
theorem MonoAt.setLeft {w : World} {g : Nat} {ok : Nat → Prop} {high : Bool} {come left : Int} {K : List S102} (h : MonoAt w g ok high come left K) (x : Int) : MonoAt (w.setCell ⟨g, 2, none⟩ (.int .i64 x)) g ok high come x K := by
  obtain ⟨⟨A, c, h1, h2⟩, h3, h4⟩ := h
  exact ⟨⟨A, c, by simpa using blk_set h1 2 (.int .i64 x), Kd.Q_far (p := ⟨g, 2, none⟩) h2 h3 _⟩, h3, by simpa using h4⟩
theorem MonoAt.setRow {w : World} {g : Nat} {ok : Nat → Prop} {high : Bool} {come left : Int} {K K' : List S102} (h : MonoAt w g ok high come left K) {A : Option Addr} {n c : Nat} (hn : n = K'.length) (hq : Kd.Q k102 102 w 0 ok (.slice A n c) K') : MonoAt (w.setCell ⟨g, 3, none⟩ (.slice A n c)) g ok high come left K' := by
  subst hn
  obtain ⟨⟨A', c', h1, h2⟩, h3, h4⟩ := h
  exact ⟨⟨A, c, by simpa using blk_set h1 3 (.slice A K'.length c), Kd.Q_far (p := ⟨g, 3, none⟩) hq h3 _⟩, h3, by simpa using h4⟩
theorem kept_left {w w1 : World} {g : Nat} (hb : Below w.heap.size w w1) (n : Nat) (x : Int) : Below 0 w ((w1.drewN n).setCell ⟨g, 2, none⟩ (.int .i64 x)) ∧ Kept w ((w1.drewN n).setCell ⟨g, 2, none⟩ (.int .i64 x)) (fun k => k = g) :=
  ⟨Below.setCell (p := ⟨g, 2, none⟩) (pw_below_drewN (hb.mono (Nat.zero_le _)) n) (Nat.zero_le _) _, Kept.setCell (S := fun k => k = g) (p := ⟨g, 2, none⟩) (Kept.drewN (Kept.of_below hb _) n) (.inl rfl) _⟩

/-- The kept numbers behind a Take. -/
def takeK (left : Int) : List S102 → List S102
  | [] => []
  | x :: r => if x.f1 = left then r else x :: r

set_option maxHeartbeats 8000000 in
set_option maxRecDepth 100000 in
theorem mono_take {w : World} {g : Nat} {ok : Nat → Prop} {high : Bool} {come left : Int} {K : List S102} (h : MonoAt w g ok high come left K) (h0 : 0 ≤ left) (h1 : left < come) (h2 : come < 4611686018427387904) :
    Calls Try.prog 47 #[.pointer (some ⟨g, 0, none⟩)] w fun e w' => e = .returned (.bool true) ∧ Below 0 w w' ∧ Kept w w' (fun k => k = g) ∧ MonoAt w' g ok high come (left + 1) (takeK left K) := by
  go_enter Try.func47, Try.ntmps47
  go_wp2_with fail
  refine (mono_len h h0 (by omega) h2).mono ?_
  rintro e w1 ⟨rfl, hb1⟩
  have h' := h.below hb1
  obtain ⟨A, c, hb, hq⟩ := h'.ex
  have c0 := (blk_cell hb 0).trans rfl
  have c2 := (blk_cell hb 2).trans rfl
  have c3 := (blk_cell hb 3).trans rfl
  have cf2 := blk_frozen hb 2
  have cf3 := blk_frozen hb 3
  have hd2 : (come - left == 0) = false := by simp; omega
  have hw : wrap64 (left + 1) = left + 1 := by unfold wrap64; omega
  have HQ := Lib.hid hq
  have HB := Lib.hid hb
  have HH := Lib.hid h'
  have HB1 := Lib.hid hb1
  clear hb hq h h' h0 h1 h2 hb1
  cases K with
  | nil =>
    go_wp2
    repeat (go_quiet (fail))
    go_wp2
    go_ret
    exact ⟨rfl, (kept_left HB1.out _ _).1, (kept_left HB1.out _ _).2, MonoAt.setLeft (w := w1.drewN _) (HH.out.below (pw_below_drewN (Below.refl _ _) _)) _⟩
  | cons x r =>
    obtain ⟨ad, rfl, r0', r1'⟩ := at_T102 (Kd.Q_reads' HQ.out).2.2 0 (by decide) (by simp)
    have r1 : w1.cell? ⟨ad.block, ad.off + 1, none⟩ = some (.int .i64 x.f1) := by simpa [Addr.add, rd_T102] using r1'
    clear r0' r1'
    by_cases hx : x.f1 = left
    · have hx1 : (x.f1 == left) = true := by simp [hx]
      have HK := Lib.hid (show takeK left (x :: r) = r from if_pos hx)
      have hc := (Kd.Q_reads' HQ.out).2.1
      have e1 := eq_true (show (1 : Int) ≤ (r.length : Int) + 1 by omega)
      have e2 : ((r.length : Int) + 1 ≤ (c : Int)) = True := eq_true (by simp at hc; omega)
      have e3 : (r.length + 1 ≤ c) = True := eq_true (by simpa using hc)
      clear hc
      obtain ⟨A2, hA2⟩ : ∃ A2, (if c = 1 then some ad else some (⟨ad.block, ad.off + 2, none⟩ : Addr)) = A2 := ⟨_, rfl⟩
      have hd := show Kd.Q k102 102 w1 0 ok (.slice (if c = 1 then some ad else some ⟨ad.block, ad.off + 2, none⟩) r.length (c - 1)) r from Kd.Q_drop (k := 1) HQ.out (by simp)
      rw [hA2] at hd
      have HD := Lib.hid hd
      clear hd
      go_wp2
      repeat (go_quiet (fail))
      go_wp2
      go_region_with (fail)
      all_goals
        go_wp2
        go_ret
        rw [HK.out]
        refine ⟨rfl, ?_, ?_, MonoAt.setLeft (MonoAt.setRow (w := w1.drewN _) (HH.out.below (pw_below_drewN (Below.refl _ _) _)) rfl (Kd.Q_drewN HD.out _)) _⟩
        · exact Below.setCell (p := ⟨g, 2, none⟩) (Below.setCell (p := ⟨g, 3, none⟩) (pw_below_drewN (HB1.out.mono (Nat.zero_le _)) _) (Nat.zero_le _) _) (Nat.zero_le _) _
        · exact Kept.setCell (S := fun k => k = g) (p := ⟨g, 2, none⟩) (Kept.setCell (S := fun k => k = g) (p := ⟨g, 3, none⟩) (Kept.drewN (Kept.of_below HB1.out _) _) (.inl rfl) _) (.inl rfl) _
    · have hx1 : (x.f1 == left) = false := by simp [hx]
      have HK := Lib.hid (show takeK left (x :: r) = x :: r from if_neg hx)
      go_wp2
      repeat (go_quiet (fail))
      go_wp2
      go_ret
      rw [HK.out]
      exact ⟨rfl, (kept_left HB1.out _ _).1, (kept_left HB1.out _ _).2, MonoAt.setLeft (w := w1.drewN _) (HH.out.below (pw_below_drewN (Below.refl _ _) _)) _⟩
end Go.Proofs.Ytgfnlhigmncdmaa

end
section
namespace Go.Proofs.Ytgfnlhigmncdmaa
set_option linter.unusedVariables false
set_option linter.unusedSimpArgs false
open Go.RowKit Go.Proofs.Ytgfnlhigmncdmaa.XMono Go.Proofs.YtgfnlhigmncdmaaW.PrintWords Go.Proofs.YtgfnlhigmncdmaaW.PrintLast Go.Proofs.YtgfnlhigmncdmaaW.PrintMore

theorem info64 : (Try.prog.info? 2).map (fun i => (i.zero, i.size, i.bytes)) = some (some (.int .i64 0), 1, 8) := by kernel_rfl
end Go.Proofs.Ytgfnlhigmncdmaa

end
section
namespace Go.Proofs.Ytgfnlhigmncdmaa
set_option linter.unusedVariables false
set_option linter.unusedSimpArgs false
open Go.RowKit Go.Proofs.Ytgfnlhigmncdmaa.XMono Go.Proofs.YtgfnlhigmncdmaaW.PrintWords Go.Proofs.YtgfnlhigmncdmaaW.PrintLast Go.Proofs.YtgfnlhigmncdmaaW.PrintMore

def keptV (high : Bool) : List Int → List Int
  | [] => []
  | x :: L => match keptV high L with
    | [] => [x]
    | h :: t => if beatsB high x h then x :: h :: t else h :: t
def keptOf (high : Bool) : List Int → Int → List S102
  | [], _ => []
  | x :: L, p => match keptOf high L (p + 1) with
    | [] => [⟨x, p⟩]
    | h :: t => if beatsB high x h.f0 then ⟨x, p⟩ :: h :: t else h :: t
theorem keptOf_map (high : Bool) : ∀ (L : List Int) (p : Int), (keptOf high L p).map (·.f0) = keptV high L
  | [], _ => rfl
  | x :: L, p => by
    have ih := keptOf_map high L (p + 1)
    unfold keptOf keptV
    rw [← ih]
    cases keptOf high L (p + 1) with
    | nil => rfl
    | cons h t =>
      simp only [List.map_cons]
      split <;> rfl
theorem keptV_len (high : Bool) : ∀ L : List Int, (keptV high L).length ≤ L.length
  | [] => Nat.le_refl _
  | x :: L => by
    have ih := keptV_len high L
    unfold keptV
    split
    · simp
    · rename_i h t he
      rw [he] at ih
      split <;> simp at ih ⊢ <;> omega
theorem keptOf_len (high : Bool) (L : List Int) (p : Int) : (keptOf high L p).length ≤ L.length := by
  have := keptV_len high L
  rw [← keptOf_map high L p, List.length_map] at this
  exact this
theorem keptV_ne (high : Bool) (x : Int) (L : List Int) : keptV high (x :: L) ≠ [] := by
  unfold keptV
  split
  · simp
  · split <;> simp
theorem keptOf_ne (high : Bool) (x : Int) (L : List Int) (p : Int) : keptOf high (x :: L) p ≠ [] := by
  intro h
  have := keptV_ne high x L
  rw [← keptOf_map high (x :: L) p, h] at this
  exact this rfl

/-- The elder numbers that are left ahead of a new one. -/
def cutL (high : Bool) (v : Int) : List S102 → List S102
  | [] => []
  | h :: T => match cutL high v T with
    | [] => if beatsB high h.f0 v then [h] else []
    | a :: b => h :: a :: b
theorem cutL_snoc (high : Bool) (v : Int) (x : S102) : ∀ K, cutL high v (K ++ [x]) = if beatsB high x.f0 v then K ++ [x] else cutL high v K
  | [] => by simp [cutL]
  | h :: T => by
    have ih := cutL_snoc high v x T
    rw [List.cons_append]
    by_cases hb : beatsB high x.f0 v = true
    · rw [if_pos hb] at ih ⊢
      show (match cutL high v (T ++ [x]) with | [] => if beatsB high h.f0 v then [h] else [] | a :: b => h :: a :: b) = _
      rw [ih]
      cases T <;> rfl
    · rw [if_neg hb] at ih ⊢
      show (match cutL high v (T ++ [x]) with | [] => if beatsB high h.f0 v then [h] else [] | a :: b => h :: a :: b) = _
      rw [ih]
      rfl
theorem take_cutN (high : Bool) (v : Int) (K : List S102) : ∀ n, n ≤ K.length → K.take (cutN high v K n) = cutL high v (K.take n)
  | 0, _ => by simp [cutN, cutL]
  | n + 1, hn => by
    have ih := take_cutN high v K n (by omega)
    have hrd : rd_T102 K (n : Int) = K[n]'(by omega) := by
      simp [rd_T102, List.getD_eq_getElem?_getD, List.getElem?_eq_getElem (show n < K.length by omega)]
    have ht : K.take (n + 1) = K.take n ++ [K[n]'(by omega)] := by
      rw [List.take_add_one, List.getElem?_eq_getElem (show n < K.length by omega), Option.toList_some]
    unfold cutN
    rw [ht, cutL_snoc, hrd]
    split
    · rw [ht]
    · exact ih
theorem cut_all (high : Bool) (v : Int) (K : List S102) : K.take (cutN high v K K.length) = cutL high v K := by
  rw [take_cutN high v K K.length (Nat.le_refl _), List.take_length]
theorem beats_trans {high : Bool} {x h v : Int} (h1 : beatsB high x h = false) (h2 : beatsB high h v = false) : beatsB high x v = false := by
  cases high <;> simp [beatsB] at * <;> omega
theorem keptOf_put (high : Bool) (v : Int) : ∀ (L : List Int) (p : Int), keptOf high (L ++ [v]) p = cutL high v (keptOf high L p) ++ [⟨v, p + L.length⟩]
  | [], p => by simp [keptOf, cutL]
  | x :: L, p => by
    have ih := keptOf_put high v L (p + 1)
    have hp : p + 1 + (L.length : Int) = p + ((x :: L).length : Nat) := by simp; omega
    rw [hp] at ih
    rw [List.cons_append]
    unfold keptOf
    rw [ih]
    cases hR : keptOf high L (p + 1) with
    | nil =>
      simp only [cutL, List.nil_append]
      split <;> rfl
    | cons h T =>
      cases hC : cutL high v (h :: T) with
      | nil =>
        have hb : beatsB high h.f0 v = false := by
          unfold cutL at hC
          split at hC
          · split at hC
            · cases hC
            · rename_i hb; simpa using hb
          · cases hC
        simp only [List.nil_append]
        by_cases hx : beatsB high x h.f0 = true
        · rw [if_pos hx]
          unfold cutL
          rw [hC]
          simp only
          split <;> rfl
        · have hx' : beatsB high x h.f0 = false := by simpa using hx
          rw [if_neg hx, hC, beats_trans hx' hb]
          rfl
      | cons a b =>
        have ha : a = h := by
          unfold cutL at hC
          split at hC
          · split at hC
            · cases hC; rfl
            · cases hC
          · cases hC; rfl
        subst ha
        simp only [List.cons_append]
        by_cases hx : beatsB high x a.f0 = true
        · rw [if_pos hx, if_pos hx]
          conv => rhs; unfold cutL
          rw [hC]
          rfl
        · rw [if_neg hx, if_neg hx, hC]
          rfl
theorem keptOf_ge (high : Bool) : ∀ (L : List Int) (p : Int), ∀ e ∈ keptOf high L p, p ≤ e.f1
  | [], _ => fun e he => by cases he
  | x :: L, p => by
    have ih := keptOf_ge high L (p + 1)
    intro e he
    unfold keptOf at he
    split at he
    · rw [List.mem_singleton] at he
      subst he
      exact Int.le_refl _
    · rename_i h t hk
      rw [hk] at ih
      split at he
      · rcases List.mem_cons.1 he with rfl | he
        · exact Int.le_refl _
        · have := ih e he; omega
      · have := ih e he; omega
theorem keptOf_head (high : Bool) (L : List Int) (p : Int) : takeK (p - 1) (keptOf high L p) = keptOf high L p := by
  have h := keptOf_ge high L p
  cases hk : keptOf high L p with
  | nil => rfl
  | cons e t =>
    have := h e (by rw [hk]; exact List.mem_cons_self)
    exact if_neg (by omega)
theorem keptOf_take (high : Bool) (x : Int) (L : List Int) (p : Int) : takeK p (keptOf high (x :: L) p) = keptOf high L (p + 1) := by
  have h := keptOf_head high L (p + 1)
  rw [show p + 1 - 1 = p by omega] at h
  have e : keptOf high (x :: L) p = (match keptOf high L (p + 1) with | [] => [⟨x, p⟩] | h :: t => if beatsB high x h.f0 then ⟨x, p⟩ :: h :: t else h :: t) := rfl
  rw [e]
  cases hk : keptOf high L (p + 1) with
  | nil => simp [takeK]
  | cons e t =>
    rw [hk] at h
    simp only
    split
    · exact if_pos rfl
    · exact h
/-! ### The reference's list -/
def mn (high : Bool) (a b : Int) : Int := if beatsB high a b then a else b
/-- The first of the kept numbers. -/
def hdV (high : Bool) (L : List Int) : Int := (keptV high L).headD 0
theorem hdV_one (high : Bool) (x : Int) : hdV high [x] = x := rfl
theorem hdV_cons (high : Bool) (x y : Int) (L : List Int) : hdV high (x :: y :: L) = mn high x (hdV high (y :: L)) := by
  unfold hdV mn
  have hne := keptV_ne high y L
  have e : keptV high (x :: y :: L) = (match keptV high (y :: L) with | [] => [x] | h :: t => if beatsB high x h then x :: h :: t else h :: t) := rfl
  rw [e]
  cases hk : keptV high (y :: L) with
  | nil => exact absurd hk hne
  | cons h t =>
    have e2 : (h :: t).headD 0 = h := rfl
    rw [e2]
    by_cases hb : beatsB high x h = true
    · rw [if_pos hb]
      show (if beatsB high x h then x :: h :: t else h :: t).headD 0 = x
      rw [if_pos hb]; rfl
    · rw [if_neg hb]
      show (if beatsB high x h then x :: h :: t else h :: t).headD 0 = h
      rw [if_neg hb]; rfl
end Go.Proofs.Ytgfnlhigmncdmaa

end
section
namespace Go.Proofs.Ytgfnlhigmncdmaa
set_option linter.unusedVariables false
set_option linter.unusedSimpArgs false
open Go.RowKit Go.Proofs.Ytgfnlhigmncdmaa.XMono Go.Proofs.YtgfnlhigmncdmaaW.PrintWords Go.Proofs.YtgfnlhigmncdmaaW.PrintLast Go.Proofs.YtgfnlhigmncdmaaW.PrintMore

/-- The queue at block g holds L; 'left' numbers have left it. -/
structure MonoIs (w : World) (g : Nat) (ok : Nat → Prop) (high : Bool) (L : List Int) (left : Int) : Prop where
  at_ : MonoAt w g ok high (left + L.length) left (keptOf high L left)
  pos : 0 ≤ left
  few : left + L.length < 4611686018427387904
  small : L.length ≤ 8796093022208

section
variable {w w' : World} {g : Nat} {ok : Nat → Prop} {high : Bool} {L : List Int} {left : Int}
theorem MonoIs.below (h : MonoIs w g ok high L left) (hb : Below w.heap.size w w') : MonoIs w' g ok high L left := ⟨h.at_.below hb, h.pos, h.few, h.small⟩
theorem MonoIs.kept {S : Nat → Prop} (h : MonoIs w g ok high L left) (hk : Kept w w' S) (hg : ¬ S g) (hs : ∀ k, ok k → ¬ S k) : MonoIs w' g ok high L left := ⟨h.at_.kept hk hg hs, h.pos, h.few, h.small⟩
theorem is_new (high : Bool) (w : World) : Calls Try.prog 21 #[.bool high] w fun e w' => ∃ g, e = .returned (.pointer (some ⟨g, 0, none⟩)) ∧ w.heap.size ≤ g ∧ MonoIs w' g (fun _ => False) high [] 0 ∧ Below w.heap.size w w' := by
  refine (mono_new high w).mono ?_
  rintro e w' ⟨g, rfl, h1, h2, h3⟩
  exact ⟨g, rfl, h1, ⟨h2, Int.le_refl _, by decide, Nat.zero_le _⟩, h3⟩
theorem is_put (v : Int) (h : MonoIs w g ok high L left) (hf : left + L.length + 1 < 4611686018427387904) (hs : L.length + 1 ≤ 8796093022208) :
    Calls Try.prog 27 #[.pointer (some ⟨g, 0, none⟩), .int .i64 v] w fun e w' => e = .returned (.tuple #[]) ∧ Below 0 w w' ∧ Kept w w' (fun k => k = g ∨ ok k) ∧ MonoIs w' g (fun k => ok k ∨ w.heap.size ≤ k) high (L ++ [v]) left := by
  have hl := keptOf_len high L left
  refine (mono_put v h.at_ (by have := h.pos; omega) h.few (by omega)).mono ?_
  rintro e w' ⟨rfl, h1, h2, h3⟩
  have e1 : left + (L.length : Int) + 1 = left + ((L ++ [v]).length : Nat) := by simp; omega
  rw [cut_all, ← keptOf_put, e1] at h3
  exact ⟨rfl, h1, h2, ⟨h3, h.pos, by rw [← e1]; exact hf, by simpa using hs⟩⟩
theorem is_take {x : Int} (h : MonoIs w g ok high (x :: L) left) :
    Calls Try.prog 47 #[.pointer (some ⟨g, 0, none⟩)] w fun e w' => e = .returned (.bool true) ∧ Below 0 w w' ∧ Kept w w' (fun k => k = g) ∧ MonoIs w' g ok high L (left + 1) := by
  have h2 := h.few
  have h3 := h.small
  simp only [List.length_cons] at h2 h3
  refine (mono_take h.at_ h.pos (by simp only [List.length_cons]; omega) h.few).mono ?_
  rintro e w' ⟨rfl, k1, k2, k3⟩
  have e1 : left + ((x :: L).length : Int) = left + 1 + (L.length : Nat) := by simp only [List.length_cons]; omega
  rw [keptOf_take, e1] at k3
  exact ⟨rfl, k1, k2, ⟨k3, by have := h.pos; omega, by omega, by omega⟩⟩
/-- The best of a list, and whether there is one. -/
def bestV (high : Bool) (L : List Int) : Int := hdV high L
def some? (L : List Int) : Bool := decide (0 < L.length)
theorem is_best (h : MonoIs w g ok high L left) : Calls Try.prog 37 #[.pointer (some ⟨g, 0, none⟩)] w fun e w' => e = .returned (.tuple #[.int .i64 (bestV high L), .bool (some? L)]) ∧ Below w.heap.size w w' := by
  cases L with
  | nil =>
    refine (mono_best_none h.at_ h.pos (by simp) h.few).mono ?_
    rintro e w' ⟨rfl, h1⟩
    exact ⟨rfl, h1⟩
  | cons x L =>
    have hne := keptOf_ne high x L left
    have hlen : 0 < (keptOf high (x :: L) left).length := List.length_pos_iff.2 hne
    refine (mono_best h.at_ h.pos (by simp only [List.length_cons]; omega) h.few hlen).mono ?_
    rintro e w' ⟨rfl, h1⟩
    have e1 : (rd_T102 (keptOf high (x :: L) left) 0).f0 = bestV high (x :: L) := by
      unfold bestV hdV
      rw [← keptOf_map high (x :: L) left]
      cases hk : keptOf high (x :: L) left with
      | nil => exact absurd hk hne
      | cons a b => rfl
    have e2 : some? (x :: L) = true := by simp [some?]
    rw [e1, e2]
    exact ⟨rfl, h1⟩
end

end Go.Proofs.Ytgfnlhigmncdmaa

end
