/-
  Texts of this seat, joined: WinOps, WinStaleLaw, WinStaleRow.
-/
import Derived.Test.YtgfnlhigmncdmaaPk20
section
/-
  A list of calls as it can be read; two windows side by side.
-/
namespace Go.Proofs.Ytgfnlhigmncdmaa
set_option linter.unusedVariables false
set_option linter.unusedSimpArgs false
open Go.RowKit Go.Proofs.Ytgfnlhigmncdmaa.XMono Go.Proofs.YtgfnlhigmncdmaaW.PrintWords Go.Proofs.YtgfnlhigmncdmaaW.PrintLast Go.Proofs.YtgfnlhigmncdmaaW.PrintMore
def op8Cells : Int × Int × Int → List Value := fun z => [.int .i64 z.1, .int .i64 z.2.1, .int .i64 z.2.2]
def op8Ok : World → Int × Int × Int → Prop := fun _ z => R64 z.2.1 ∧ R64 z.2.2
set_option maxRecDepth 100000 in
theorem op8_opn : Opn Try.prog 54 op8Cells op8Ok := by
  intro H enc w fuel cs x hx hw
  obtain ⟨a, ha, hk⟩ := opn_struct Try.underlying54 (by kernel_rfl) (opnF_cons rfl (sz := 1) (by kernel_rfl) (opn_int Try.underlying3) (opnF_cons rfl (sz := 1) (by kernel_rfl) (opn_int Try.underlying2) (opnF_last rfl (opn_int Try.underlying2)))) hx hw
  exact ⟨a, ha, wf_r64 hk.2.1, wf_r64 hk.2.2⟩
set_option maxRecDepth 100000 in
theorem win_opn : Opn Try.prog 27 (fun x : Int × Int × Int × Int => [.int .i64 x.1, .int .i64 x.2.1, .int .i64 x.2.2.1, .int .i64 x.2.2.2]) (fun _ _ => True) := by
  intro H enc w fuel cs x hx hw
  obtain ⟨a, ha, hk⟩ := opn_struct Try.underlying27 (by kernel_rfl) (opnF_cons rfl (sz := 1) (by kernel_rfl) (opn_int Try.underlying3) (opnF_cons rfl (sz := 1) (by kernel_rfl) (opn_int Try.underlying3) (opnF_cons rfl (sz := 1) (by kernel_rfl) (opn_int Try.underlying2) (opnF_last rfl (opn_int Try.underlying2))))) hx hw
  exact ⟨a, ha, trivial⟩
theorem op8_at {s : Sl (Int × Int × Int)} {W : World} (hs : Sl.ok Try.prog 54 op8Cells op8Ok W s) {i : Nat} (hi : i < s.len) :
    ∃ a kd t v, s.at_ = some a ∧ (a.add (i * 3)).block < W.heap.size ∧ W.cell? (a.add (i * 3)) = some (.int .i64 kd) ∧ W.cell? ⟨(a.add (i * 3)).block, (a.add (i * 3)).off + 1, none⟩ = some (.int .i64 t) ∧ W.cell? ⟨(a.add (i * 3)).block, (a.add (i * 3)).off + 2, none⟩ = some (.int .i64 v) ∧ R64 t ∧ R64 v := by
  obtain ⟨h1, h2, h3, h4, h5, h6⟩ := hs
  rcases h6 with ⟨_, h6⟩ | ⟨a, ha, hc⟩
  · omega
  have hl : i < s.all.length := by omega
  have hz := hc i _ (List.getElem?_eq_getElem hl)
  have ho := h5 _ (List.getElem_mem hl)
  have e : Try.prog.cellsOf 54 = 3 := by kernel_rfl
  rw [e] at hz
  have hb := World.cells?_block hz (by decide)
  refine ⟨a, s.all[i].1, s.all[i].2.1, s.all[i].2.2, ha, ?_, ?_, ?_, ?_, ho.1, ho.2⟩
  · exact hb
  · have := cells_get hz 0 _ rfl
    rw [Addr.add_add] at this
    exact this
  · have := cells_get hz 1 _ rfl
    rw [Addr.add_add] at this
    rw [← add_field _ _ 1 (by omega)]
    exact this
  · have := cells_get hz 2 _ rfl
    rw [Addr.add_add] at this
    rw [← add_field _ _ 2 (by omega)]
    exact this
theorem ops8_few {s : Sl (Int × Int × Int)} {W : World} (hs : Sl.ok Try.prog 54 op8Cells op8Ok W s) : s.len ≤ 5864062014806 := by
  obtain ⟨h1, h2, h3, h4, h5, h6⟩ := hs
  have e : Try.prog.bytesOf 54 = 24 := by kernel_rfl
  have e2 : reachBytes = 140737488351232 := rfl
  rw [e, e2] at h4
  omega

section
variable {w0 w w' : World} {g gr : Nat} {B O : Value} {ok Fr Fb Fo F S : Nat → Prop} {tm ta ts tr ck : Int} {bg : Bool} {Lr : List (Int × Int)} {s : Int} {Lb Lo : List Int} {N : Int}
/-- What is written elsewhere leaves a window as it is. -/
theorem Ran.other (h : Ran w w F g gr B O tm ta ts tr ck bg Lr s Lb Lo N) (hF : ∀ k, F k → k < w.heap.size) (k : Kept w w' S) (dis : ∀ k, F k → ¬ S k) : Ran w' w' F g gr B O tm ta ts tr ck bg Lr s Lb Lo N := by
  obtain ⟨⟨Fr, Fb, Fo, h1, h2⟩, -, -⟩ := h
  have hk : ∀ i, (i = g ∨ Fr i ∨ Fb i ∨ Fo i) → F i := fun i hi => by
    rcases h2 i hi with h3 | h3
    · exact h3
    · rcases hi with rfl | hi
      · have := h1.lt; omega
      · have := (h1.old i hi).1; omega
  exact ⟨⟨Fr, Fb, Fo, h1.far k (fun i hi hS => dis i (hk i hi) hS), fun i hi => .inl (hk i hi)⟩, Kept.refl _ _, Below.refl _ _⟩
end
theorem below_of_kept8 {W w w' : World} {S : Nat → Prop} (h1 : Below W.heap.size W w) (h2 : Below 0 w w') (hk : Kept w w' S) (hS : ∀ k, k < W.heap.size → ¬ S k) : Below W.heap.size W w' :=
  ⟨h2.os.trans h1.os, h2.tape.trans h1.tape, h2.output.trans h1.output, Nat.le_trans h1.size h2.size, fun k hk' => (hk.2 k (Nat.lt_of_lt_of_le hk' h1.size) (hS k hk')).trans (h1.block k hk')⟩
/-- Two windows of one kind, made since W, that share no memory. -/
structure Two (W w : World) (ga gra : Nat) (Ba Oa : Value) (gb grb : Nat) (Bb Ob : Value) (tm ta ts tr : Int) (cka : Int) (bga : Bool) (La : List (Int × Int)) (ckb : Int) (bgb : Bool) (Lb : List (Int × Int)) (N : Int) : Prop where
  ex : ∃ Fa Fb : Nat → Prop, RanL w w Fa ga gra Ba Oa tm ta ts tr cka bga La N ∧ RanL w w Fb gb grb Bb Ob tm ta ts tr ckb bgb Lb N ∧ (∀ k, Fa k ∨ Fb k → W.heap.size ≤ k ∧ k < w.heap.size) ∧ ∀ k, Fa k → ¬ Fb k
  bel : Below W.heap.size W w
section
variable {W w w' : World} {ga gra : Nat} {Ba Oa : Value} {gb grb : Nat} {Bb Ob : Value} {tm ta ts tr : Int} {cka : Int} {bga : Bool} {La : List (Int × Int)} {ckb : Int} {bgb : Bool} {Lb : List (Int × Int)} {N : Int}
theorem Two.below (h : Two W w ga gra Ba Oa gb grb Bb Ob tm ta ts tr cka bga La ckb bgb Lb N) (hb : Below w.heap.size w w') : Two W w' ga gra Ba Oa gb grb Bb Ob tm ta ts tr cka bga La ckb bgb Lb N := by
  obtain ⟨⟨Fa, Fb, h1, h2, h3, h4⟩, h5⟩ := h
  exact ⟨⟨Fa, Fb, h1.other (fun k hk => (h3 k (.inl hk)).2) (kept_any hb) (fun _ _ h => h), h2.other (fun k hk => (h3 k (.inr hk)).2) (kept_any hb) (fun _ _ h => h), fun k hk => ⟨(h3 k hk).1, Nat.lt_of_lt_of_le (h3 k hk).2 hb.size⟩, h4⟩, h5.trans (hb.mono h5.size)⟩
theorem Two.swap (h : Two W w ga gra Ba Oa gb grb Bb Ob tm ta ts tr cka bga La ckb bgb Lb N) : Two W w gb grb Bb Ob ga gra Ba Oa tm ta ts tr ckb bgb Lb cka bga La N := by
  obtain ⟨⟨Fa, Fb, h1, h2, h3, h4⟩, h5⟩ := h
  exact ⟨⟨Fb, Fa, h2, h1, fun k hk => h3 k hk.symm, fun k hb ha => h4 k ha hb⟩, h5⟩
theorem Two.more (h : Two W w ga gra Ba Oa gb grb Bb Ob tm ta ts tr cka bga La ckb bgb Lb N) {N2 : Int} (hN : N ≤ N2) : Two W w ga gra Ba Oa gb grb Bb Ob tm ta ts tr cka bga La ckb bgb Lb N2 := by
  obtain ⟨⟨Fa, Fb, h1, h2, h3, h4⟩, h5⟩ := h
  exact ⟨⟨Fa, Fb, h1.more hN, h2.more hN, h3, h4⟩, h5⟩
/-- A call of the first. -/
theorem Two.stepA (h : Two W w ga gra Ba Oa gb grb Bb Ob tm ta ts tr cka bga La ckb bgb Lb N) : ∃ Fa : Nat → Prop, RanL w w Fa ga gra Ba Oa tm ta ts tr cka bga La N ∧
    ∀ (w' : World) (ck2 : Int) (bg2 : Bool) (L2 : List (Int × Int)) (N2 : Int), N ≤ N2 → RanL w w' Fa ga gra Ba Oa tm ta ts tr ck2 bg2 L2 N2 → Two W w' ga gra Ba Oa gb grb Bb Ob tm ta ts tr ck2 bg2 L2 ckb bgb Lb N2 := by
  obtain ⟨⟨Fa, Fb, h1, h2, h3, h4⟩, h5⟩ := h
  refine ⟨Fa, h1, fun w' ck2 bg2 L2 N2 hN h => ⟨⟨_, Fb, h.anew, (h2.other (fun k hk => (h3 k (.inr hk)).2) h.kept (fun k hb ha => h4 k ha hb)).more hN, ?_, ?_⟩, below_of_kept8 h5 h.bel h.kept (fun k hk ha => by have := (h3 k (.inl ha)).1; omega)⟩⟩
  · have hs := h.kept.1
    have hs5 := h5.size
    rintro k (⟨hk, hl⟩ | hk)
    · refine ⟨?_, hl⟩
      rcases hk with hk | hk
      · exact (h3 k (.inl hk)).1
      · omega
    · exact ⟨(h3 k (.inr hk)).1, Nat.lt_of_lt_of_le (h3 k (.inr hk)).2 hs⟩
  · rintro k ⟨hk, hl⟩ hb
    rcases hk with hk | hk
    · exact h4 k hk hb
    · have := (h3 k (.inr hb)).2; omega
/-- A call of the first, behind new blocks that are not its own. -/
theorem Two.stepB {w2 : World} (h : Two W w ga gra Ba Oa gb grb Bb Ob tm ta ts tr cka bga La ckb bgb Lb N) (hb : Below w.heap.size w w2) : ∃ Fa : Nat → Prop, RanL w2 w2 Fa ga gra Ba Oa tm ta ts tr cka bga La N ∧ (∀ k, Fa k → k < w.heap.size) ∧
    ∀ (w' : World) (ck2 : Int) (bg2 : Bool) (L2 : List (Int × Int)) (N2 : Int), N ≤ N2 → RanL w2 w' Fa ga gra Ba Oa tm ta ts tr ck2 bg2 L2 N2 → Two W w' ga gra Ba Oa gb grb Bb Ob tm ta ts tr ck2 bg2 L2 ckb bgb Lb N2 := by
  obtain ⟨⟨Fa, Fb, h1, h2, h3, h4⟩, h5⟩ := h
  have k1 := h1.other (fun k hk => (h3 k (.inl hk)).2) (kept_any hb) (fun _ _ h => h)
  have k2 := h2.other (fun k hk => (h3 k (.inr hk)).2) (kept_any hb) (fun _ _ h => h)
  have hsz := hb.size
  have hs5 := h5.size
  refine ⟨Fa, k1, fun k hk => (h3 k (.inl hk)).2, fun w' ck2 bg2 L2 N2 hN h => ⟨⟨_, Fb, h.anew, (k2.other (fun k hk => Nat.lt_of_lt_of_le (h3 k (.inr hk)).2 hsz) h.kept (fun k hb ha => h4 k ha hb)).more hN, ?_, ?_⟩, below_of_kept8 (h5.trans (hb.mono h5.size)) h.bel h.kept (fun k hk ha => by have := (h3 k (.inl ha)).1; omega)⟩⟩
  · have hs := h.kept.1
    rintro k (⟨hk, hl⟩ | hk)
    · refine ⟨?_, hl⟩
      rcases hk with hk | hk
      · exact (h3 k (.inl hk)).1
      · omega
    · have := (h3 k (.inr hk)).2
      exact ⟨(h3 k (.inr hk)).1, by omega⟩
  · rintro k ⟨hk, hl⟩ hb
    rcases hk with hk | hk
    · exact h4 k hk hb
    · have := (h3 k (.inr hb)).2; omega
end
theorem eqRes_in (h t h2 t2 : Int) (d : Nat) (w : World) : (Op.equalIn (d + 2) 42 (.agg #[.int .i64 h, .int .i64 t]) (.agg #[.int .i64 h2, .int .i64 t2])).run Try.prog w = .ok ((h == h2) && (t == t2)) w := by
  refine eqA_of Try.underlying42 (by kernel_rfl) ?_
  refine eqf_cons (by rfl) (by go_simp; rfl) (by go_simp; rfl) (by go_simp) ?_
  exact eqf_last (by rfl) (by go_simp; rfl) (by go_simp; rfl) (by go_simp)
/-- One result is itself. -/
theorem sameRes (h t : Int) (w : World) : (binOp .eql 42 (.agg #[.int .i64 h, .int .i64 t]) (.agg #[.int .i64 h, .int .i64 t])).run Try.prog w = .ok (.bool true) w := by
  simp only [binOp]
  simp [Op.equal, Op.maxDepth, eqRes_in h t h t 9998 w]
theorem sameResN (h t : Int) (w : World) : (binOp .neq 42 (.agg #[.int .i64 h, .int .i64 t]) (.agg #[.int .i64 h, .int .i64 t])).run Try.prog w = .ok (.bool false) w := by
  simp only [binOp]
  simp [Op.equal, Op.maxDepth, eqRes_in h t h t 9998 w]
end Go.Proofs.Ytgfnlhigmncdmaa
end
section
/-
  WindowStale: a window that was handed stale samples and questions answers as one that was not: the law's call.
-/
namespace Go.Proofs.Ytgfnlhigmncdmaa
set_option linter.unusedVariables false
set_option linter.unusedSimpArgs false
open Go.RowKit Go.Proofs.Ytgfnlhigmncdmaa.XMono Go.Proofs.YtgfnlhigmncdmaaW.PrintWords Go.Proofs.YtgfnlhigmncdmaaW.PrintLast Go.Proofs.YtgfnlhigmncdmaaW.PrintMore

theorem pushP_mem {L : List (Int × Int)} {s y : Int × Int} (h : y ∈ pushP L s) : y ∈ L ∨ y = s := by
  unfold pushP at h
  rcases List.mem_append.1 h with h | h
  · left
    split at h
    · exact List.mem_of_mem_tail h
    · exact h
  · right; simpa using h
/-- All that is held is well, and no later than the clock. -/
def AllOk (ck : Int) (bg : Bool) (L : List (Int × Int)) : Prop := (∀ y ∈ L, SmpOk ck y) ∧ R64 ck ∧ (bg = false → L = [])
theorem AllOk.at {ck t : Int} {bg : Bool} {L : List (Int × Int)} (h : AllOk ck bg L) (ht : bg = true → ck ≤ t) : ∀ y ∈ L, SmpOk t y := by
  intro y hy
  cases bg with
  | false => rw [h.2.2 rfl] at hy; cases hy
  | true =>
    have := h.1 y hy
    have h2 := ht rfl
    exact ⟨this.1, this.2.1, by have := this.2.2; omega⟩
set_option maxHeartbeats 16000000 in
set_option maxRecDepth 100000 in
theorem WindowStale_sl (tm ta ts tr : Int) (s : Sl (Int × Int × Int)) (W : World) (hs : Sl.ok Try.prog 54 op8Cells op8Ok W s) :
    Calls Try.prog 6 #[.agg #[.int .i64 tm, .int .i64 ta, .int .i64 ts, .int .i64 tr], .slice s.at_ s.len s.cap] W fun e w' => e = .returned (.bool true) ∧ Below W.heap.size W w' := by
  have HP := Lib.hid fun i (hi : i < s.len) => op8_at hs hi
  have HF := Lib.hid (ops8_few hs)
  clear hs
  obtain ⟨at_, len, cap, all⟩ := s
  simp only at HP HF ⊢
  obtain ⟨w1, hw1⟩ : ∃ w1, W.alloc (.cells #[.int .i64 tm, .int .i64 ta, .int .i64 ts, .int .i64 tr] 27) = w1 := ⟨_, rfl⟩
  obtain ⟨b, hbdef⟩ : ∃ b, W.heap.size = b := ⟨_, rfl⟩
  have hbel : Below W.heap.size W w1 := by subst hw1; exact below_alloc (Below.refl _ _) _
  have hblk : w1.heap[b]? = some (.cells #[.int .i64 tm, .int .i64 ta, .int .i64 ts, .int .i64 tr] 27 (0, 0)) := by subst hw1 hbdef; exact blk_new _ _
  have HB := Lib.hid hbel
  have HK := Lib.hid hblk
  clear hbel hblk
  go_enter Try.func6, Try.ntmps6
  go_wp2_with fail
  refine (awake08 _).mono ?_
  rintro e w2 ⟨rfl, b2⟩
  have k2 := blk_below HK.out b2
  have c0 := (blk_cell k2 0).trans rfl
  have c1 := (blk_cell k2 1).trans rfl
  have c2 := (blk_cell k2 2).trans rfl
  have c3 := (blk_cell k2 3).trans rfl
  have K2 := Lib.hid k2
  have B2 := Lib.hid (HB.out.trans (b2.mono HB.out.size))
  clear k2 b2
  by_cases hR : RightT tm ta ts tr
  · have HR := Lib.hid hR
    clear hR
    go_wp2_with fail
    refine (win_new w2 HR.out).mono ?_
    rintro e w3 ⟨ga, gra, Ba, Oa, rfl, s3, r3⟩
    have R3 := Lib.hid r3
    have b3 := r3.bel0
    have k3 := blk_below K2.out b3
    have c0 := (blk_cell k3 0).trans rfl
    have c1 := (blk_cell k3 1).trans rfl
    have c2 := (blk_cell k3 2).trans rfl
    have c3 := (blk_cell k3 3).trans rfl
    have B3 := Lib.hid b3
    clear k3 s3 r3 b3
    go_wp2_with fail
    refine (win_new w3 HR.out).mono ?_
    rintro e w4 ⟨gb, grb, Bb, Ob, rfl, s4, r4⟩
    have HT := Lib.hid (show Two W w4 ga gra Ba Oa gb grb Bb Ob tm ta ts tr 0 false [] 0 false [] 0 from by
      have hA := R3.out.anew
      have b4 := r4.bel0
      have hB := r4.anew
      have z1 := B2.out.size
      have z2 := B3.out.size
      refine ⟨⟨_, _, hA.other (fun k hk => hk.2) (kept_any b4) (fun _ _ h => h), hB, ?_, ?_⟩, (B2.out.trans (B3.out.mono B2.out.size)).trans (b4.mono (by omega))⟩
      · rintro k (⟨hk, hl⟩ | ⟨hk, hl⟩)
        · rcases hk with hk | hk
          · exact hk.elim
          · have := b4.size; omega
        · rcases hk with hk | hk
          · exact hk.elim
          · exact ⟨by omega, hl⟩
      · rintro k ⟨_, hl⟩ ⟨hk, _⟩
        rcases hk with hk | hk
        · exact hk.elim
        · omega)
    clear s4 r4
    go_wp2
    go_loopg [9] len (fun kq v9 w' => ∃ (i : Nat) (ck : Int) (bg : Bool) (L : List (Int × Int)), v9 = .int .i64 i ∧ Aside0 (i + kq = len) ∧ Aside0 (AllOk ck bg L) ∧ Aside0 (Two W w' ga gra Ba Oa gb grb Bb Ob tm ta ts tr ck bg L ck bg L (2 * (i : Int))))
    case atStart => exact ⟨0, 0, false, [], rfl, ⟨by omega⟩, ⟨⟨fun y hy => (by cases hy), (by decide), fun _ => rfl⟩⟩, ⟨HT.out⟩⟩
    case round =>
      obtain ⟨i, ck, bg, L, rfl, hk, ho, hT⟩ := hrel
      have HKQ := Lib.hid hk.out
      have HO := Lib.hid ho.out
      have T1 := Lib.hid hT.out
      clear hk ho hT HT
      by_cases hi : i < len
      · obtain ⟨ad, kd, t, v, hat, hlt, r0, r1, r2, ht, hv⟩ := HP.out i hi
        have Hi := Lib.hid hi
        have HTV := Lib.hid (And.intro ht hv)
        have x0 := (T1.out.bel.cell (p := ad.add (i * 3)) hlt).trans r0
        have x1 := (T1.out.bel.cell (p := ⟨(ad.add (i * 3)).block, (ad.add (i * 3)).off + 1, none⟩) hlt).trans r1
        have x2 := (T1.out.bel.cell (p := ⟨(ad.add (i * 3)).block, (ad.add (i * 3)).off + 2, none⟩) hlt).trans r2
        subst hat
        have e1 := eq_true (show (0 : Int) ≤ (i : Int) by omega)
        have e2 : ((i : Int) < (len : Int)) = True := eq_true (by omega)
        have e3 := eq_true hi
        clear hi ht hv r0 r1 r2 hlt
        obtain ⟨w5, hw5⟩ : ∃ w5, wr.alloc (.cells #[.int .i64 kd, .int .i64 t, .int .i64 v] 54) = w5 := ⟨_, rfl⟩
        obtain ⟨b6, hb6⟩ : ∃ b6, wr.heap.size = b6 := ⟨_, rfl⟩
        have b5 : Below wr.heap.size wr w5 := by subst hw5; exact below_alloc (Below.refl _ _) _
        have k5 : w5.heap[b6]? = some (.cells #[.int .i64 kd, .int .i64 t, .int .i64 v] 54 (0, 0)) := by subst hw5 hb6; exact blk_new _ _
        have HNB := Lib.hid (show ∀ k, (k < wr.heap.size) → k ≠ b6 from fun k hk => by omega)
        have K5 := Lib.hid k5
        have HB15 := Lib.hid b5
        have T5 := Lib.hid (T1.out.below b5)
        have HAT := Lib.hid (fun ht => HO.out.at (t := t) ht)
        clear b5 k5
        obtain ⟨FB, hB, -⟩ := T5.out.swap.stepA
        have HFB := Lib.hid hB
        clear hB
        go_wp2_with fail
        refine (win_clock HFB.out).mono ?_
        rintro e w6 ⟨rfl, b6b⟩
        have T6 := Lib.hid (T5.out.below b6b)
        have HB16 := Lib.hid (HB15.out.trans (b6b.mono HB15.out.size))
        have k6 := blk_below K5.out b6b
        have y0 := (blk_cell k6 0).trans rfl
        have y1 := (blk_cell k6 1).trans rfl
        have y2 := (blk_cell k6 2).trans rfl
        have K6 := Lib.hid k6
        clear k6 b6b x0 x1 x2
        have hwi : wrap64 ((i : Int) + 1) = ((i + 1 : Nat) : Int) := by have := HF.out; have := Hi.out; unfold wrap64; omega
        by_cases hst : bg = true ∧ t < ck
        · obtain ⟨rfl, hlt⟩ := hst
          have d1 : decide (t < ck) = true := decide_eq_true hlt
          have HLT := Lib.hid hlt
          clear hlt
          obtain ⟨FA, hA, -⟩ := T6.out.stepA
          have HFA := Lib.hid hA
          clear hA
          go_wp2_with fail
          refine (win_read_stale HFA.out HLT.out).mono ?_
          rintro e w7 ⟨rfl, b7⟩
          have A7 := Lib.hid (HFA.out.below b7)
          have HB67 := Lib.hid b7
          have T7 := Lib.hid (T6.out.below b7)
          have k7 := blk_below K6.out b7
          have y1 := (blk_cell k7 1).trans rfl
          have y2 := (blk_cell k7 2).trans rfl
          have K7 := Lib.hid k7
          clear b7 k7
          obtain ⟨w8, hw8⟩ : ∃ w8, w7.alloc (.cells #[.int .i64 0, .int .i64 0] 42) = w8 := ⟨_, rfl⟩
          obtain ⟨b8, hb8⟩ : ∃ b8, w7.heap.size = b8 := ⟨_, rfl⟩
          have bb8 : Below w7.heap.size w7 w8 := by subst hw8; exact below_alloc (Below.refl _ _) _
          have k8 : w8.heap[b8]? = some (.cells #[.int .i64 0, .int .i64 0] 42 (0, 0)) := by subst hw8 hb8; exact blk_new _ _
          have A8 := Lib.hid (HFA.out.below (HB67.out.trans (bb8.mono HB67.out.size)))
          have T8 := Lib.hid (T7.out.below bb8)
          have K8 := Lib.hid k8
          have k68 := blk_below K7.out bb8
          have y1 := (blk_cell k68 1).trans rfl
          have y2 := (blk_cell k68 2).trans rfl
          have K68 := Lib.hid k68
          clear bb8 k8 k68
          subst hw8 hb8
          go_wp2_with fail
          refine (win_held_stale A8.out HLT.out).mono ?_
          rintro e w9 ⟨rfl, rfl⟩
          go_wp2_with fail
          refine (win_put_stale A8.out HLT.out (x := v)).mono ?_
          rintro e w9 ⟨rfl, b9⟩
          have T9 := Lib.hid (T8.out.below b9)
          have k9 := blk_below K8.out b9
          have z0 := (blk_cell k9 0).trans rfl
          have z1 := (blk_cell k9 1).trans rfl
          have EQ := fun w => sameResN 0 0 w
          clear b9 k9
          go_wp2
          go_roundg (gk - 1)
          case measure => have := HKQ.out; have := Hi.out; omega
          case rel => exact ⟨i + 1, ck, true, L, by first | rfl | simp [hwi], ⟨by have := HKQ.out; have := Hi.out; omega⟩, ⟨HO.out⟩, ⟨T9.out.more (by omega)⟩⟩
        · have HST := Lib.hid hst
          clear hst
          have HGE := Lib.hid (show bg = true → ck ≤ t from fun h => by have := HST.out; simp only [h, true_and] at this; omega)
          cases bg with
          | false =>
            by_cases k1 : kd = 1
            · subst k1
              obtain ⟨w7, hw7⟩ : ∃ w7, w6.alloc (.cells #[.int .i64 t, .int .i64 v] 38) = w7 := ⟨_, rfl⟩
              obtain ⟨b7, hb7⟩ : ∃ b7, w6.heap.size = b7 := ⟨_, rfl⟩
              have bb7 : Below w6.heap.size w6 w7 := by subst hw7; exact below_alloc (Below.refl _ _) _
              have k7 : w7.heap[b7]? = some (.cells #[.int .i64 t, .int .i64 v] 38 (0, 0)) := by subst hw7 hb7; exact blk_new _ _
              have T7 := Lib.hid (T6.out.below bb7)
              have z0 := (blk_cell k7 0).trans rfl
              have z1 := (blk_cell k7 1).trans rfl
              have K7 := Lib.hid k7
              have HLT := Lib.hid (blk_lt k7)
              obtain ⟨FA, hA, hAl, stA⟩ := T6.out.stepB bb7
              have HFA := Lib.hid hA
              have STA := Lib.hid stA
              have HW7 := Lib.hid (show W.heap.size ≤ b7 from by have := T6.out.bel.size; omega)
              have HAL := Lib.hid hAl
              have HB7 := Lib.hid hb7
              clear hA stA k7 bb7 hAl
              go_wp2_with fail
              refine (win_put HFA.out HTV.out.2 (fun y hy => (HAT.out HGE.out y hy).2.1) HGE.out (by have := HF.out; have := Hi.out; omega)).mono ?_
              rintro e w8 ⟨rfl, s8, r8⟩
              have T8 := Lib.hid (STA.out w8 t true _ _ (by omega) r8)
              have k8 : w8.heap[b7]? = some (.cells #[.int .i64 t, .int .i64 v] 38 (0, 0)) := blk_kept K7.out r8.kept (fun h => by have := HAL.out _ h; have := HB7.out; omega)
              have z0 := (blk_cell k8 0).trans rfl
              have z1 := (blk_cell k8 1).trans rfl
              obtain ⟨FB2, hB2, stB⟩ := T8.out.swap.stepA
              have HFB2 := Lib.hid hB2
              have STB := Lib.hid stB
              clear r8 s8 k8 hB2 stB
              go_wp2_with fail
              refine (win_put HFB2.out HTV.out.2 (fun y hy => (HAT.out HGE.out y hy).2.1) HGE.out (by have := HF.out; have := Hi.out; omega)).mono ?_
              rintro e w9 ⟨rfl, s9, r9⟩
              have T9 := Lib.hid (STB.out w9 t true _ _ (by omega) r9).swap
              clear s9 r9
              go_wp2
              go_roundg (gk - 1)
              case measure => have := HKQ.out; have := Hi.out; omega
              case rel =>
                refine ⟨i + 1, t, true, pushP L (t, v), by first | rfl | simp [hwi], ⟨by have := HKQ.out; have := Hi.out; omega⟩, ⟨fun y hy => ?_, HTV.out.1, fun h => by cases h⟩, ⟨T9.out.more (by omega)⟩⟩
                rcases pushP_mem hy with hy | rfl
                · exact HAT.out HGE.out y hy
                · exact ⟨HTV.out.1, HTV.out.2, Int.le_refl _⟩
            · have n1 : (kd == 1) = false := by simpa using k1
              clear k1
              obtain ⟨rr, hrr⟩ : ∃ rr, readV ta tr ((expP t ts L).map (·.2)) = rr := ⟨_, rfl⟩
              have HRR := Lib.hid hrr
              clear hrr
              obtain ⟨FA, hA, hAl, stA⟩ := T1.out.stepB HB16.out
              have HFA := Lib.hid hA
              have STA := Lib.hid stA
              have HAL := Lib.hid hAl
              clear hA stA hAl
              go_wp2_with fail
              refine (win_read HFA.out (HAT.out HGE.out) HTV.out.1 HR.out.2.2.2.1 HR.out.2.2.2.2.1 ⟨HR.out.2.1, HR.out.2.2.1⟩ HR.out.2.2.2.2.2.1 HGE.out).mono ?_
              rintro e w8 ⟨rfl, s8, r8⟩
              rw [HRR.out]
              have T8 := Lib.hid (STA.out w8 t true _ _ (Int.le_refl _) r8)
              have k8 : w8.heap[b6]? = some (.cells #[.int .i64 kd, .int .i64 t, .int .i64 v] 54 (0, 0)) := blk_kept K6.out r8.kept (fun h => HNB.out _ (HAL.out _ h) rfl)
              clear r8 s8
              obtain ⟨w9, hw9⟩ : ∃ w9, w8.alloc (.cells #[.int .i64 rr.1, .int .i64 rr.2] 42) = w9 := ⟨_, rfl⟩
              obtain ⟨b9, hb9⟩ : ∃ b9, w8.heap.size = b9 := ⟨_, rfl⟩
              have bb9 : Below w8.heap.size w8 w9 := by subst hw9; exact below_alloc (Below.refl _ _) _
              have k9 : w9.heap[b9]? = some (.cells #[.int .i64 rr.1, .int .i64 rr.2] 42 (0, 0)) := by subst hw9 hb9; exact blk_new _ _
              have T9 := Lib.hid (T8.out.below bb9)
              have z1 := (blk_cell (blk_below k8 bb9) 1).trans rfl
              have K9 := Lib.hid k9
              have HW9 := Lib.hid (show W.heap.size ≤ b9 from by have := T8.out.bel.size; omega)
              obtain ⟨FB2, hB2, hBl, stB⟩ := T8.out.swap.stepB bb9
              have HFB2 := Lib.hid hB2
              have STB := Lib.hid stB
              have HBL := Lib.hid hBl
              have HB9 := Lib.hid hb9
              clear hB2 stB bb9 k8 k9 hBl
              go_wp2_with fail
              refine (win_read HFB2.out (HAT.out HGE.out) HTV.out.1 HR.out.2.2.2.1 HR.out.2.2.2.2.1 ⟨HR.out.2.1, HR.out.2.2.1⟩ HR.out.2.2.2.2.2.1 HGE.out).mono ?_
              rintro e w10 ⟨rfl, s10, r10⟩
              rw [HRR.out]
              have T10 := Lib.hid (STB.out w10 t true _ _ (Int.le_refl _) r10).swap
              have k10 : w10.heap[b9]? = some (.cells #[.int .i64 rr.1, .int .i64 rr.2] 42 (0, 0)) := blk_kept K9.out r10.kept (fun h => by have := HBL.out _ h; have := HB9.out; omega)
              clear r10 s10
              obtain ⟨w11, hw11⟩ : ∃ w11, w10.alloc (.cells #[.int .i64 rr.1, .int .i64 rr.2] 42) = w11 := ⟨_, rfl⟩
              obtain ⟨b11, hb11⟩ : ∃ b11, w10.heap.size = b11 := ⟨_, rfl⟩
              have bb11 : Below w10.heap.size w10 w11 := by subst hw11; exact below_alloc (Below.refl _ _) _
              have k11 : w11.heap[b11]? = some (.cells #[.int .i64 rr.1, .int .i64 rr.2] 42 (0, 0)) := by subst hw11 hb11; exact blk_new _ _
              have T11 := Lib.hid (T10.out.below bb11)
              have k10' := blk_below k10 bb11
              have p0 := (blk_cell k10' 0).trans rfl
              have p1 := (blk_cell k10' 1).trans rfl
              have p2 := (blk_cell k11 0).trans rfl
              have p3 := (blk_cell k11 1).trans rfl
              have EQ := fun w => sameResN rr.1 rr.2 w
              clear bb11 k10 k10' k11
              go_wp2
              go_roundg (gk - 1)
              case measure => have := HKQ.out; have := Hi.out; omega
              case rel => exact ⟨i + 1, t, true, expP t ts L, by first | rfl | simp [hwi], ⟨by have := HKQ.out; have := Hi.out; omega⟩, ⟨⟨fun y hy => HAT.out HGE.out y (expP_mem hy), HTV.out.1, fun h => by cases h⟩⟩, ⟨T11.out.more (by omega)⟩⟩
          | true =>
            have d1 : decide (t < ck) = false := decide_eq_false (by have := HGE.out rfl; omega)
            by_cases k1 : kd = 1
            · subst k1
              obtain ⟨w7, hw7⟩ : ∃ w7, w6.alloc (.cells #[.int .i64 t, .int .i64 v] 38) = w7 := ⟨_, rfl⟩
              obtain ⟨b7, hb7⟩ : ∃ b7, w6.heap.size = b7 := ⟨_, rfl⟩
              have bb7 : Below w6.heap.size w6 w7 := by subst hw7; exact below_alloc (Below.refl _ _) _
              have k7 : w7.heap[b7]? = some (.cells #[.int .i64 t, .int .i64 v] 38 (0, 0)) := by subst hw7 hb7; exact blk_new _ _
              have T7 := Lib.hid (T6.out.below bb7)
              have z0 := (blk_cell k7 0).trans rfl
              have z1 := (blk_cell k7 1).trans rfl
              have K7 := Lib.hid k7
              have HLT := Lib.hid (blk_lt k7)
              obtain ⟨FA, hA, hAl, stA⟩ := T6.out.stepB bb7
              have HFA := Lib.hid hA
              have STA := Lib.hid stA
              have HW7 := Lib.hid (show W.heap.size ≤ b7 from by have := T6.out.bel.size; omega)
              have HAL := Lib.hid hAl
              have HB7 := Lib.hid hb7
              clear hA stA k7 bb7 hAl
              go_wp2_with fail
              refine (win_put HFA.out HTV.out.2 (fun y hy => (HAT.out (fun _ => HGE.out trivial) y hy).2.1) (fun _ => HGE.out trivial) (by have := HF.out; have := Hi.out; omega)).mono ?_
              rintro e w8 ⟨rfl, s8, r8⟩
              have T8 := Lib.hid (STA.out w8 t true _ _ (by omega) r8)
              have k8 : w8.heap[b7]? = some (.cells #[.int .i64 t, .int .i64 v] 38 (0, 0)) := blk_kept K7.out r8.kept (fun h => by have := HAL.out _ h; have := HB7.out; omega)
              have z0 := (blk_cell k8 0).trans rfl
              have z1 := (blk_cell k8 1).trans rfl
              obtain ⟨FB2, hB2, stB⟩ := T8.out.swap.stepA
              have HFB2 := Lib.hid hB2
              have STB := Lib.hid stB
              clear r8 s8 k8 hB2 stB
              go_wp2_with fail
              refine (win_put HFB2.out HTV.out.2 (fun y hy => (HAT.out (fun _ => HGE.out trivial) y hy).2.1) (fun _ => HGE.out trivial) (by have := HF.out; have := Hi.out; omega)).mono ?_
              rintro e w9 ⟨rfl, s9, r9⟩
              have T9 := Lib.hid (STB.out w9 t true _ _ (by omega) r9).swap
              clear s9 r9
              go_wp2
              go_roundg (gk - 1)
              case measure => have := HKQ.out; have := Hi.out; omega
              case rel =>
                refine ⟨i + 1, t, true, pushP L (t, v), by first | rfl | simp [hwi], ⟨by have := HKQ.out; have := Hi.out; omega⟩, ⟨fun y hy => ?_, HTV.out.1, fun h => by cases h⟩, ⟨T9.out.more (by omega)⟩⟩
                rcases pushP_mem hy with hy | rfl
                · exact HAT.out (fun _ => HGE.out trivial) y hy
                · exact ⟨HTV.out.1, HTV.out.2, Int.le_refl _⟩
            · have n1 : (kd == 1) = false := by simpa using k1
              clear k1
              obtain ⟨rr, hrr⟩ : ∃ rr, readV ta tr ((expP t ts L).map (·.2)) = rr := ⟨_, rfl⟩
              have HRR := Lib.hid hrr
              clear hrr
              obtain ⟨FA, hA, hAl, stA⟩ := T1.out.stepB HB16.out
              have HFA := Lib.hid hA
              have STA := Lib.hid stA
              have HAL := Lib.hid hAl
              clear hA stA hAl
              go_wp2_with fail
              refine (win_read HFA.out (HAT.out (fun _ => (fun _ => HGE.out trivial) trivial)) HTV.out.1 HR.out.2.2.2.1 HR.out.2.2.2.2.1 ⟨HR.out.2.1, HR.out.2.2.1⟩ HR.out.2.2.2.2.2.1 (fun _ => (fun _ => HGE.out trivial) trivial)).mono ?_
              rintro e w8 ⟨rfl, s8, r8⟩
              rw [HRR.out]
              have T8 := Lib.hid (STA.out w8 t true _ _ (Int.le_refl _) r8)
              have k8 : w8.heap[b6]? = some (.cells #[.int .i64 kd, .int .i64 t, .int .i64 v] 54 (0, 0)) := blk_kept K6.out r8.kept (fun h => HNB.out _ (HAL.out _ h) rfl)
              clear r8 s8
              obtain ⟨w9, hw9⟩ : ∃ w9, w8.alloc (.cells #[.int .i64 rr.1, .int .i64 rr.2] 42) = w9 := ⟨_, rfl⟩
              obtain ⟨b9, hb9⟩ : ∃ b9, w8.heap.size = b9 := ⟨_, rfl⟩
              have bb9 : Below w8.heap.size w8 w9 := by subst hw9; exact below_alloc (Below.refl _ _) _
              have k9 : w9.heap[b9]? = some (.cells #[.int .i64 rr.1, .int .i64 rr.2] 42 (0, 0)) := by subst hw9 hb9; exact blk_new _ _
              have T9 := Lib.hid (T8.out.below bb9)
              have z1 := (blk_cell (blk_below k8 bb9) 1).trans rfl
              have K9 := Lib.hid k9
              have HW9 := Lib.hid (show W.heap.size ≤ b9 from by have := T8.out.bel.size; omega)
              obtain ⟨FB2, hB2, hBl, stB⟩ := T8.out.swap.stepB bb9
              have HFB2 := Lib.hid hB2
              have STB := Lib.hid stB
              have HBL := Lib.hid hBl
              have HB9 := Lib.hid hb9
              clear hB2 stB bb9 k8 k9 hBl
              go_wp2_with fail
              refine (win_read HFB2.out (HAT.out (fun _ => (fun _ => HGE.out trivial) trivial)) HTV.out.1 HR.out.2.2.2.1 HR.out.2.2.2.2.1 ⟨HR.out.2.1, HR.out.2.2.1⟩ HR.out.2.2.2.2.2.1 (fun _ => (fun _ => HGE.out trivial) trivial)).mono ?_
              rintro e w10 ⟨rfl, s10, r10⟩
              rw [HRR.out]
              have T10 := Lib.hid (STB.out w10 t true _ _ (Int.le_refl _) r10).swap
              have k10 : w10.heap[b9]? = some (.cells #[.int .i64 rr.1, .int .i64 rr.2] 42 (0, 0)) := blk_kept K9.out r10.kept (fun h => by have := HBL.out _ h; have := HB9.out; omega)
              clear r10 s10
              obtain ⟨w11, hw11⟩ : ∃ w11, w10.alloc (.cells #[.int .i64 rr.1, .int .i64 rr.2] 42) = w11 := ⟨_, rfl⟩
              obtain ⟨b11, hb11⟩ : ∃ b11, w10.heap.size = b11 := ⟨_, rfl⟩
              have bb11 : Below w10.heap.size w10 w11 := by subst hw11; exact below_alloc (Below.refl _ _) _
              have k11 : w11.heap[b11]? = some (.cells #[.int .i64 rr.1, .int .i64 rr.2] 42 (0, 0)) := by subst hw11 hb11; exact blk_new _ _
              have T11 := Lib.hid (T10.out.below bb11)
              have k10' := blk_below k10 bb11
              have p0 := (blk_cell k10' 0).trans rfl
              have p1 := (blk_cell k10' 1).trans rfl
              have p2 := (blk_cell k11 0).trans rfl
              have p3 := (blk_cell k11 1).trans rfl
              have EQ := fun w => sameResN rr.1 rr.2 w
              clear bb11 k10 k10' k11
              go_wp2
              go_roundg (gk - 1)
              case measure => have := HKQ.out; have := Hi.out; omega
              case rel => exact ⟨i + 1, t, true, expP t ts L, by first | rfl | simp [hwi], ⟨by have := HKQ.out; have := Hi.out; omega⟩, ⟨⟨fun y hy => HAT.out (fun _ => HGE.out trivial) y (expP_mem hy), HTV.out.1, fun h => by cases h⟩⟩, ⟨T11.out.more (by omega)⟩⟩
      · have e1 : ((i : Int) < (len : Int)) = False := eq_false (by omega)
        have e2 := eq_false hi
        have T1' := T1.out.bel
        go_wp2
        go_ret
        exact ⟨by simp, T1'⟩
  · have HR := Lib.hid hR
    clear hR
    go_wp2_with fail
    refine (win_new_no w2 HR.out).mono ?_
    rintro e w3 ⟨rfl, b3⟩
    have k3 := blk_below K2.out b3
    have c0 := (blk_cell k3 0).trans rfl
    have c1 := (blk_cell k3 1).trans rfl
    have c2 := (blk_cell k3 2).trans rfl
    have c3 := (blk_cell k3 3).trans rfl
    have B3 := Lib.hid (B2.out.trans (b3.mono B2.out.size))
    clear k3 b3
    go_wp2_with fail
    refine (win_new_no w3 HR.out).mono ?_
    rintro e w4 ⟨rfl, b4⟩
    have B4 := Lib.hid (B3.out.trans (b4.mono B3.out.size))
    clear b4
    go_wp2
    go_ret
    exact ⟨by simp, B4.out⟩
end Go.Proofs.Ytgfnlhigmncdmaa
end
section
/-
  WindowStale: the law's call over what can be read as data.
-/
namespace Go.Proofs.Ytgfnlhigmncdmaa
set_option linter.unusedVariables false
set_option linter.unusedSimpArgs false
open Go.RowKit Go.Proofs.YtgfnlhigmncdmaaW.PrintWords
set_option maxRecDepth 100000
/-- A value that can be read as a list of calls is one. -/
theorem ops8_arg {H : Type} {enc : TypeId × Value → H} {base : Nat} {d : DataW H} {p : List MemPlace} {v : Value} {W : World} (hval : Value.okWide Try.prog W .any base 51 v)
    (h : DataW.Trod enc Try.prog W 0 (fun _ => true) true 51 v d p) (y : ∀ n ∈ DataW.weights Try.prog 51 d, n ≤ reachBytes) :
    ∃ s : Sl (Int × Int × Int), v = .slice s.at_ s.len s.cap ∧ Sl.ok Try.prog 54 op8Cells op8Ok W s := by
  obtain ⟨a, len, cap, rfl⟩ := WideShapes.okWide_slice Try.underlying51 hval
  obtain ⟨fuel, hf⟩ := h
  obtain ⟨s, hs, hok⟩ := opn_slice Try.underlying51 op8_opn hf y
  simp [Value.cells] at hs
  obtain ⟨rfl, rfl, rfl⟩ := hs
  exact ⟨s, rfl, hok⟩
theorem WindowStale_row {H : Type} {enc : TypeId × Value → H} {base : Nat} {d d2 : DataW H} {p p2 : List MemPlace} (v v2 : Value) (W : World) (hval : Value.okWide Try.prog W .any base 27 v)
    (h : DataW.Trod enc Try.prog W 0 (fun _ => true) true 27 v d p) (y : ∀ n ∈ DataW.weights Try.prog 27 d, n ≤ reachBytes) (hval2 : Value.okWide Try.prog W .any base 51 v2)
    (h2 : DataW.Trod enc Try.prog W 0 (fun _ => true) true 51 v2 d2 p2) (y2 : ∀ n ∈ DataW.weights Try.prog 51 d2, n ≤ reachBytes) :
    Calls Try.prog 6 #[v, v2] W fun e w' => e = .returned (.bool true) ∧ Below W.heap.size W w' := by
  obtain ⟨a, rfl, -⟩ := struct_arg Try.underlying27 win_opn hval h y
  obtain ⟨s, rfl, hs⟩ := ops8_arg hval2 h2 y2
  exact WindowStale_sl a.1 a.2.1 a.2.2.1 a.2.2.2 s W hs
end Go.Proofs.Ytgfnlhigmncdmaa
end
