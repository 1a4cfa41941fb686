/-
  What the functions New and Take of package mono do to a queue that lies in memory.
-/
import Derived.Test.YtmlnbmbobkoipaaMonoFns
namespace Go.Proofs.Ytmlnbmbobkoipaa
open Go.RowKit Go.Proofs.Ytmlnbmbobkoipaa.XMono Go.Proofs.YtmlnbmbobkoipaaW.PrintWords Go.Proofs.YtmlnbmbobkoipaaW.PrintLast Go.Proofs.YtmlnbmbobkoipaaW.PrintMore

theorem mono_new (high : Bool) (w : World) : Calls Try.prog 12 #[.bool high] w fun e w' => ∃ g, e = .returned (.pointer (some ⟨g, 0, none⟩)) ∧ w.heap.size ≤ g ∧ MonoAt w' g (fun _ => False) high 0 0 [] ∧ Below w.heap.size w w' := by
  go_enter Try.func12, Try.ntmps12
  go_wp2_with (first | ((with_reducible refine gate_dst (N := 5) rfl ?_); refine box_event ?hg (N := 5) ?hd (cs := #[.bool high, .int .i64 0, .int .i64 0, .slice none 0 0]) (t := 42) ?hr ?_; (case hd => rfl); (case hg => rfl); (case hr => first | (go_simp; done) | (go_simp; rfl)); intro gb hg w2 hbox hb; have HBOX := Lib.hid hbox; have HG := Lib.hid hg; have HB2 := Lib.hid hb; clear hbox hg hb))
  go_ret
  refine ⟨gb, rfl, Nat.le_of_eq HG.out.symm, ⟨⟨none, 0, HBOX.out, Kd.Q_nil _ _ _ _ _⟩, fun _ hk => hk.elim, blk_lt HBOX.out⟩, HB2.out⟩
theorem MonoAt.setLeft {w : World} {g : Nat} {ok : Nat → Prop} {high : Bool} {come left : Int} {K : List S80} (h : MonoAt w g ok high come left K) (x : Int) : MonoAt (w.setCell ⟨g, 2, none⟩ (.int .i64 x)) g ok high come x K := by
  obtain ⟨⟨A, c, h1, h2⟩, h3, h4⟩ := h
  exact ⟨⟨A, c, by simpa using blk_set h1 2 (.int .i64 x), Kd.Q_far (p := ⟨g, 2, none⟩) h2 h3 _⟩, h3, by simpa using h4⟩
theorem MonoAt.setRow {w : World} {g : Nat} {ok : Nat → Prop} {high : Bool} {come left : Int} {K K' : List S80} (h : MonoAt w g ok high come left K) {A : Option Addr} {n c : Nat} (hn : n = K'.length) (hq : Kd.Q k80 80 w 0 ok (.slice A n c) K') : MonoAt (w.setCell ⟨g, 3, none⟩ (.slice A n c)) g ok high come left K' := by
  subst hn
  obtain ⟨⟨A', c', h1, h2⟩, h3, h4⟩ := h
  exact ⟨⟨A, c, by simpa using blk_set h1 3 (.slice A K'.length c), Kd.Q_far (p := ⟨g, 3, none⟩) hq h3 _⟩, h3, by simpa using h4⟩
theorem kept_left {w w1 : World} {g : Nat} (hb : Below w.heap.size w w1) (n : Nat) (x : Int) : Below 0 w ((w1.drewN n).setCell ⟨g, 2, none⟩ (.int .i64 x)) ∧ Kept w ((w1.drewN n).setCell ⟨g, 2, none⟩ (.int .i64 x)) (fun k => k = g) :=
  ⟨Below.setCell (p := ⟨g, 2, none⟩) (pw_below_drewN (hb.mono (Nat.zero_le _)) n) (Nat.zero_le _) _, Kept.setCell (S := fun k => k = g) (p := ⟨g, 2, none⟩) (Kept.drewN (Kept.of_below hb _) n) (.inl rfl) _⟩

/-- The kept numbers behind a Take. -/
def takeK (left : Int) : List S80 → List S80
  | [] => []
  | x :: r => if x.f1 = left then r else x :: r

set_option maxHeartbeats 8000000 in
set_option maxRecDepth 100000 in
theorem mono_take {w : World} {g : Nat} {ok : Nat → Prop} {high : Bool} {come left : Int} {K : List S80} (h : MonoAt w g ok high come left K) (h0 : 0 ≤ left) (h1 : left < come) (h2 : come < 4611686018427387904) :
    Calls Try.prog 18 #[.pointer (some ⟨g, 0, none⟩)] w fun e w' => e = .returned (.bool true) ∧ Below 0 w w' ∧ Kept w w' (fun k => k = g) ∧ MonoAt w' g ok high come (left + 1) (takeK left K) := by
  go_enter Try.func18, Try.ntmps18
  go_wp2_with fail
  refine (mono_len h h0 (by omega) h2).mono ?_
  rintro e w1 ⟨rfl, hb1⟩
  have h' := h.below hb1
  obtain ⟨A, c, hb, hq⟩ := h'.ex
  have c0 := (blk_cell hb 0).trans rfl
  have c2 := (blk_cell hb 2).trans rfl
  have c3 := (blk_cell hb 3).trans rfl
  have cf2 := blk_frozen hb 2
  have cf3 := blk_frozen hb 3
  have hd2 : (come - left == 0) = false := by simp; omega
  have hw : wrap64 (left + 1) = left + 1 := by unfold wrap64; omega
  have HQ := Lib.hid hq
  have HB := Lib.hid hb
  have HH := Lib.hid h'
  have HB1 := Lib.hid hb1
  clear hb hq h h' h0 h1 h2 hb1
  cases K with
  | nil =>
    go_wp2
    repeat (go_quiet (fail))
    go_wp2
    go_ret
    exact ⟨rfl, (kept_left HB1.out _ _).1, (kept_left HB1.out _ _).2, MonoAt.setLeft (w := w1.drewN _) (HH.out.below (pw_below_drewN (Below.refl _ _) _)) _⟩
  | cons x r =>
    obtain ⟨ad, rfl, r0', r1'⟩ := at_T80 (Kd.Q_reads' HQ.out).2.2 0 (by decide) (by simp)
    have r1 : w1.cell? ⟨ad.block, ad.off + 1, none⟩ = some (.int .i64 x.f1) := by simpa [Addr.add, rd_T80] using r1'
    clear r0' r1'
    by_cases hx : x.f1 = left
    · have hx1 : (x.f1 == left) = true := by simp [hx]
      have HK := Lib.hid (show takeK left (x :: r) = r from if_pos hx)
      have hc := (Kd.Q_reads' HQ.out).2.1
      have e1 := eq_true (show (1 : Int) ≤ (r.length : Int) + 1 by omega)
      have e2 : ((r.length : Int) + 1 ≤ (c : Int)) = True := eq_true (by simp at hc; omega)
      have e3 : (r.length + 1 ≤ c) = True := eq_true (by simpa using hc)
      clear hc
      obtain ⟨A2, hA2⟩ : ∃ A2, (if c = 1 then some ad else some (⟨ad.block, ad.off + 2, none⟩ : Addr)) = A2 := ⟨_, rfl⟩
      have hd := show Kd.Q k80 80 w1 0 ok (.slice (if c = 1 then some ad else some ⟨ad.block, ad.off + 2, none⟩) r.length (c - 1)) r from Kd.Q_drop (k := 1) HQ.out (by simp)
      rw [hA2] at hd
      have HD := Lib.hid hd
      clear hd
      go_wp2
      repeat (go_quiet (fail))
      go_wp2
      go_region_with (fail)
      all_goals
        go_wp2
        go_ret
        rw [HK.out]
        refine ⟨rfl, ?_, ?_, MonoAt.setLeft (MonoAt.setRow (w := w1.drewN _) (HH.out.below (pw_below_drewN (Below.refl _ _) _)) rfl (Kd.Q_drewN HD.out _)) _⟩
        · exact Below.setCell (p := ⟨g, 2, none⟩) (Below.setCell (p := ⟨g, 3, none⟩) (pw_below_drewN (HB1.out.mono (Nat.zero_le _)) _) (Nat.zero_le _) _) (Nat.zero_le _) _
        · exact Kept.setCell (S := fun k => k = g) (p := ⟨g, 2, none⟩) (Kept.setCell (S := fun k => k = g) (p := ⟨g, 3, none⟩) (Kept.drewN (Kept.of_below HB1.out _) _) (.inl rfl) _) (.inl rfl) _
    · have hx1 : (x.f1 == left) = false := by simp [hx]
      have HK := Lib.hid (show takeK left (x :: r) = x :: r from if_neg hx)
      go_wp2
      repeat (go_quiet (fail))
      go_wp2
      go_ret
      rw [HK.out]
      exact ⟨rfl, (kept_left HB1.out _ _).1, (kept_left HB1.out _ _).2, MonoAt.setLeft (w := w1.drewN _) (HH.out.below (pw_below_drewN (Below.refl _ _) _)) _⟩
end Go.Proofs.Ytmlnbmbobkoipaa
