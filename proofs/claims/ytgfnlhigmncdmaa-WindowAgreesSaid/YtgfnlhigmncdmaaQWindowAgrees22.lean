/-
  Texts of this seat, joined, less what WindowAgrees does not lean on: WinNilLaw, WinArgs, WinOps, WinPair, WinStep, WinStep2, WinStep3, WinStaleLaw, WinStaleRow, WinPlaysLaw, WinPairX, WinFam, WinMade, WinAgreesPure, WinAgreesFns, WinAgreesLaw.
-/
import Derived.Test.YtgfnlhigmncdmaaQWindowAgrees21
import Derived.Test.YtgfnlhigmncdmaaQWindowAgrees3
import Derived.Test.YtgfnlhigmncdmaaQWindowAgrees11
section
namespace Go.Proofs.Ytgfnlhigmncdmaa
set_option linter.unusedVariables false
set_option linter.unusedSimpArgs false
open Go.RowKit Go.Proofs.Ytgfnlhigmncdmaa.XMono Go.Proofs.YtgfnlhigmncdmaaW.PrintWords Go.Proofs.YtgfnlhigmncdmaaW.PrintLast Go.Proofs.YtgfnlhigmncdmaaW.PrintMore

end Go.Proofs.Ytgfnlhigmncdmaa

end
section
namespace Go.Proofs.Ytgfnlhigmncdmaa
set_option linter.unusedVariables false
set_option linter.unusedSimpArgs false
open Go.RowKit Go.Proofs.YtgfnlhigmncdmaaW.PrintWords
set_option maxRecDepth 100000
theorem wf_r64 {n : Int} (h : (Lit.int .i64 n).wf = true) : R64 n := by
  have h2 : IntKind.i64.min ≤ n ∧ n ≤ 9223372036854775807 := by simpa [Lit.wf] using h
  have e : IntKind.i64.min = -9223372036854775808 := by decide
  unfold R64
  omega
theorem sample_opn : Opn Try.prog 38 (fun x : Int × Int => [.int .i64 x.1, .int .i64 x.2]) (fun _ x => R64 x.1 ∧ R64 x.2) := by
  intro H enc w fuel cs x hx hw
  obtain ⟨a, ha, hk⟩ := opn_struct Try.underlying38 (by kernel_rfl) (opnF_cons rfl (sz := 1) (by kernel_rfl) (opn_int Try.underlying2) (opnF_last rfl (opn_int Try.underlying2))) hx hw
  exact ⟨a, ha, wf_r64 hk.1, wf_r64 hk.2⟩
end Go.Proofs.Ytgfnlhigmncdmaa

end
section
namespace Go.Proofs.Ytgfnlhigmncdmaa
set_option linter.unusedVariables false
set_option linter.unusedSimpArgs false
open Go.RowKit Go.Proofs.Ytgfnlhigmncdmaa.XMono Go.Proofs.YtgfnlhigmncdmaaW.PrintWords Go.Proofs.YtgfnlhigmncdmaaW.PrintLast Go.Proofs.YtgfnlhigmncdmaaW.PrintMore
section
variable {w0 w w' : World} {g gr : Nat} {B O : Value} {ok Fr Fb Fo F S : Nat → Prop} {tm ta ts tr ck : Int} {bg : Bool} {Lr : List (Int × Int)} {s : Int} {Lb Lo : List Int} {N : Int}
/-- What is written elsewhere leaves a window as it is. -/
theorem Ran.other (h : Ran w w F g gr B O tm ta ts tr ck bg Lr s Lb Lo N) (hF : ∀ k, F k → k < w.heap.size) (k : Kept w w' S) (dis : ∀ k, F k → ¬ S k) : Ran w' w' F g gr B O tm ta ts tr ck bg Lr s Lb Lo N := by
  obtain ⟨⟨Fr, Fb, Fo, h1, h2⟩, -, -⟩ := h
  have hk : ∀ i, (i = g ∨ Fr i ∨ Fb i ∨ Fo i) → F i := fun i hi => by
    rcases h2 i hi with h3 | h3
    · exact h3
    · rcases hi with rfl | hi
      · have := h1.lt; omega
      · have := (h1.old i hi).1; omega
  exact ⟨⟨Fr, Fb, Fo, h1.far k (fun i hi hS => dis i (hk i hi) hS), fun i hi => .inl (hk i hi)⟩, Kept.refl _ _, Below.refl _ _⟩
end
theorem below_of_kept8 {W w w' : World} {S : Nat → Prop} (h1 : Below W.heap.size W w) (h2 : Below 0 w w') (hk : Kept w w' S) (hS : ∀ k, k < W.heap.size → ¬ S k) : Below W.heap.size W w' :=
  ⟨h2.os.trans h1.os, h2.tape.trans h1.tape, h2.output.trans h1.output, Nat.le_trans h1.size h2.size, fun k hk' => (hk.2 k (Nat.lt_of_lt_of_le hk' h1.size) (hS k hk')).trans (h1.block k hk')⟩
/-- Two windows of one kind, made since W, that share no memory. -/
structure Two (W w : World) (ga gra : Nat) (Ba Oa : Value) (gb grb : Nat) (Bb Ob : Value) (tm ta ts tr : Int) (cka : Int) (bga : Bool) (La : List (Int × Int)) (ckb : Int) (bgb : Bool) (Lb : List (Int × Int)) (N : Int) : Prop where
  ex : ∃ Fa Fb : Nat → Prop, RanL w w Fa ga gra Ba Oa tm ta ts tr cka bga La N ∧ RanL w w Fb gb grb Bb Ob tm ta ts tr ckb bgb Lb N ∧ (∀ k, Fa k ∨ Fb k → W.heap.size ≤ k ∧ k < w.heap.size) ∧ ∀ k, Fa k → ¬ Fb k
  bel : Below W.heap.size W w
section
variable {W w w' : World} {ga gra : Nat} {Ba Oa : Value} {gb grb : Nat} {Bb Ob : Value} {tm ta ts tr : Int} {cka : Int} {bga : Bool} {La : List (Int × Int)} {ckb : Int} {bgb : Bool} {Lb : List (Int × Int)} {N : Int}
theorem Two.below (h : Two W w ga gra Ba Oa gb grb Bb Ob tm ta ts tr cka bga La ckb bgb Lb N) (hb : Below w.heap.size w w') : Two W w' ga gra Ba Oa gb grb Bb Ob tm ta ts tr cka bga La ckb bgb Lb N := by
  obtain ⟨⟨Fa, Fb, h1, h2, h3, h4⟩, h5⟩ := h
  exact ⟨⟨Fa, Fb, h1.other (fun k hk => (h3 k (.inl hk)).2) (kept_any hb) (fun _ _ h => h), h2.other (fun k hk => (h3 k (.inr hk)).2) (kept_any hb) (fun _ _ h => h), fun k hk => ⟨(h3 k hk).1, Nat.lt_of_lt_of_le (h3 k hk).2 hb.size⟩, h4⟩, h5.trans (hb.mono h5.size)⟩
theorem Two.more (h : Two W w ga gra Ba Oa gb grb Bb Ob tm ta ts tr cka bga La ckb bgb Lb N) {N2 : Int} (hN : N ≤ N2) : Two W w ga gra Ba Oa gb grb Bb Ob tm ta ts tr cka bga La ckb bgb Lb N2 := by
  obtain ⟨⟨Fa, Fb, h1, h2, h3, h4⟩, h5⟩ := h
  exact ⟨⟨Fa, Fb, h1.more hN, h2.more hN, h3, h4⟩, h5⟩
end
end Go.Proofs.Ytgfnlhigmncdmaa

end
section
namespace Go.Proofs.Ytgfnlhigmncdmaa
set_option linter.unusedVariables false
set_option linter.unusedSimpArgs false
open Go.RowKit Go.Proofs.YtgfnlhigmncdmaaW.PrintWords Go.Proofs.YtgfnlhigmncdmaaW.PrintLast Go.Proofs.YtgfnlhigmncdmaaW.PrintMore

/-- A window and the reference's, made since W, that share no memory. -/
structure Pair (W w : World) (g gr : Nat) (B O : Value) (h : Nat) (tm ta ts tr : Int) (ck : Int) (bg : Bool) (L : List (Int × Int)) (ckr : Int) (bgr : Bool) (All : List (Int × Int)) (N : Int) : Prop where
  ex : ∃ Fa Fr : Nat → Prop, RanL w w Fa g gr B O tm ta ts tr ck bg L N ∧ RefW w h Fr tm ta ts tr ckr bgr All ∧ (∀ k, Fa k → W.heap.size ≤ k ∧ k < w.heap.size) ∧ ∀ k, (k = h ∨ Fr k) → W.heap.size ≤ k ∧ k < w.heap.size ∧ ¬ Fa k
  bel : Below W.heap.size W w
section
variable {W w w2 w' : World} {g gr : Nat} {B O : Value} {h : Nat} {tm ta ts tr : Int} {ck : Int} {bg : Bool} {L : List (Int × Int)} {ckr : Int} {bgr : Bool} {All : List (Int × Int)} {N : Int}
theorem Pair.below (i : Pair W w g gr B O h tm ta ts tr ck bg L ckr bgr All N) (hb : Below w.heap.size w w') : Pair W w' g gr B O h tm ta ts tr ck bg L ckr bgr All N := by
  obtain ⟨⟨Fa, Fr, h1, h2, h3, h4⟩, h5⟩ := i
  exact ⟨⟨Fa, Fr, h1.other (fun k hk => (h3 k hk).2) (kept_any hb) (fun _ _ h => h), h2.below hb, fun k hk => ⟨(h3 k hk).1, Nat.lt_of_lt_of_le (h3 k hk).2 hb.size⟩, fun k hk => ⟨(h4 k hk).1, Nat.lt_of_lt_of_le (h4 k hk).2.1 hb.size, (h4 k hk).2.2⟩⟩, h5.trans (hb.mono h5.size)⟩
theorem Pair.more (i : Pair W w g gr B O h tm ta ts tr ck bg L ckr bgr All N) {N2 : Int} (hN : N ≤ N2) : Pair W w g gr B O h tm ta ts tr ck bg L ckr bgr All N2 := by
  obtain ⟨⟨Fa, Fr, h1, h2, h3, h4⟩, h5⟩ := i
  exact ⟨⟨Fa, Fr, h1.more hN, h2, h3, h4⟩, h5⟩
theorem pairW {Fa Fr : Nat → Prop} (h1 : RanL w w Fa g gr B O tm ta ts tr ck bg L N) (h2 : RefW w h Fr tm ta ts tr ckr bgr All) (h3 : ∀ k, Fa k → W.heap.size ≤ k ∧ k < w.heap.size) (h4 : ∀ k, (k = h ∨ Fr k) → W.heap.size ≤ k ∧ k < w.heap.size ∧ ¬ Fa k) (h5 : Below W.heap.size W w)
    {ck2 : Int} {bg2 : Bool} {L2 : List (Int × Int)} {N2 : Int} (j : RanL w w' Fa g gr B O tm ta ts tr ck2 bg2 L2 N2) :
    ∃ Fa2 : Nat → Prop, RanL w' w' Fa2 g gr B O tm ta ts tr ck2 bg2 L2 N2 ∧ RefW w' h Fr tm ta ts tr ckr bgr All ∧ (∀ k, Fa2 k → W.heap.size ≤ k ∧ k < w'.heap.size) ∧ (∀ k, (k = h ∨ Fr k) → W.heap.size ≤ k ∧ k < w'.heap.size ∧ ¬ Fa2 k) ∧ Below W.heap.size W w' := by
  have hs5 := h5.size
  refine ⟨_, j.anew, h2.kept j.kept (h4 h (.inl rfl)).2.2 (fun k hk => (h4 k (.inr hk)).2.2), ?_, ?_, below_of_kept8 h5 j.bel j.kept (fun k hk ha => by have := (h3 k ha).1; omega)⟩
  · rintro k ⟨hk, hl⟩
    refine ⟨?_, hl⟩
    rcases hk with hk | hk
    · exact (h3 k hk).1
    · omega
  · intro k hk
    have := h4 k hk
    have hs := j.kept.1
    refine ⟨this.1, by omega, ?_⟩
    rintro ⟨hk2, -⟩
    rcases hk2 with hk2 | hk2
    · exact this.2.2 hk2
    · omega
theorem pairR {Fa Fr : Nat → Prop} (h1 : RanL w w Fa g gr B O tm ta ts tr ck bg L N) (h2 : RefW w h Fr tm ta ts tr ckr bgr All) (h3 : ∀ k, Fa k → W.heap.size ≤ k ∧ k < w.heap.size) (h4 : ∀ k, (k = h ∨ Fr k) → W.heap.size ≤ k ∧ k < w.heap.size ∧ ¬ Fa k) (h5 : Below W.heap.size W w)
    {ck2 : Int} {bg2 : Bool} {All2 : List (Int × Int)} (j : RefW w' h (fun k => Fr k ∨ w.heap.size ≤ k) tm ta ts tr ck2 bg2 All2) (jk : Kept w w' (fun k => k = h ∨ Fr k)) (jb : Below 0 w w') : Pair W w' g gr B O h tm ta ts tr ck bg L ck2 bg2 All2 N := by
  have hs5 := h5.size
  have hs := jk.1
  refine ⟨⟨Fa, _, h1.other (fun k hk => (h3 k hk).2) jk (fun k hk hr => (h4 k hr).2.2 hk), j.tight, ?_, ?_⟩, below_of_kept8 h5 jb jk (fun k hk ha => by have := (h4 k ha).1; omega)⟩
  · intro k hk
    exact ⟨(h3 k hk).1, by have := (h3 k hk).2; omega⟩
  · rintro k (rfl | ⟨hk, hl⟩)
    · have := h4 k (.inl rfl)
      exact ⟨this.1, by omega, this.2.2⟩
    · rcases hk with hk | hk
      · have := h4 k (.inr hk)
        exact ⟨this.1, hl, this.2.2⟩
      · exact ⟨by omega, hl, fun ha => by have := (h3 k ha).2; omega⟩
/-- A call of the window and one of the reference's, behind new blocks that are not theirs. -/
theorem Pair.both (i : Pair W w g gr B O h tm ta ts tr ck bg L ckr bgr All N) (hb : Below w.heap.size w w2) : ∃ Fa Fr : Nat → Prop, RanL w2 w2 Fa g gr B O tm ta ts tr ck bg L N ∧ (∀ k, Fa k → k < w.heap.size) ∧ (∀ k, (k = h ∨ Fr k) → k < w.heap.size) ∧
    ∀ (w3 : World) (ck2 : Int) (bg2 : Bool) (L2 : List (Int × Int)) (N2 : Int), RanL w2 w3 Fa g gr B O tm ta ts tr ck2 bg2 L2 N2 →
      ∀ w4, Below w3.heap.size w3 w4 → RefW w4 h Fr tm ta ts tr ckr bgr All ∧ Pair W w4 g gr B O h tm ta ts tr ck2 bg2 L2 ckr bgr All N2 ∧
      ∀ (w5 : World) (ck3 : Int) (bg3 : Bool) (All3 : List (Int × Int)), RefW w5 h (fun k => Fr k ∨ w4.heap.size ≤ k) tm ta ts tr ck3 bg3 All3 → Kept w4 w5 (fun k => k = h ∨ Fr k) → Below 0 w4 w5 → Pair W w5 g gr B O h tm ta ts tr ck2 bg2 L2 ck3 bg3 All3 N2 := by
  obtain ⟨⟨Fa, Fr, h1, h2, h3, h4⟩, h5⟩ := i
  have k1 := h1.other (fun k hk => (h3 k hk).2) (kept_any hb) (fun _ _ h => h)
  have hsz := hb.size
  have hs5 := h5.size
  refine ⟨Fa, Fr, k1, fun k hk => (h3 k hk).2, fun k hk => (h4 k hk).2.1, fun w3 ck2 bg2 L2 N2 j w4 b4 => ?_⟩
  obtain ⟨Fa2, e1, e2, e3, e4, e5⟩ := pairW k1 (h2.below hb) (fun k hk => ⟨(h3 k hk).1, Nat.lt_of_lt_of_le (h3 k hk).2 hsz⟩) (fun k hk => ⟨(h4 k hk).1, Nat.lt_of_lt_of_le (h4 k hk).2.1 hsz, (h4 k hk).2.2⟩) (h5.trans (hb.mono hs5)) j
  have e1' := e1.other (fun k hk => (e3 k hk).2) (kept_any b4) (fun _ _ h => h)
  have e3' : ∀ k, Fa2 k → W.heap.size ≤ k ∧ k < w4.heap.size := fun k hk => ⟨(e3 k hk).1, Nat.lt_of_lt_of_le (e3 k hk).2 b4.size⟩
  have e4' : ∀ k, (k = h ∨ Fr k) → W.heap.size ≤ k ∧ k < w4.heap.size ∧ ¬ Fa2 k := fun k hk => ⟨(e4 k hk).1, Nat.lt_of_lt_of_le (e4 k hk).2.1 b4.size, (e4 k hk).2.2⟩
  have e5' := e5.trans (b4.mono e5.size)
  exact ⟨e2.below b4, ⟨⟨Fa2, Fr, e1', e2.below b4, e3', e4'⟩, e5'⟩, fun w5 ck3 bg3 All3 r k b => pairR e1' (e2.below b4) e3' e4' e5' r k b⟩
theorem RefW.mono {ok ok2 : Nat → Prop} (i : RefW w h ok tm ta ts tr ck bg All) (hm : ∀ k, ok k → ok2 k) (ha : ∀ k, ok2 k → k ≠ h) : RefW w h ok2 tm ta ts tr ck bg All := by
  obtain ⟨⟨A, c, h1, h2⟩, h3, h4⟩ := i
  exact ⟨⟨A, c, h1, Kd.Q_mono h2 hm⟩, ha, h4⟩
end
/-- The window holds what the definition asks for. -/
structure PInv (ts ck : Int) (bg : Bool) (L All : List (Int × Int)) (N : Int) : Prop where
  inv : WinInv All L ck ts
  all : ∀ y ∈ All, SmpOk ck y
  clock : R64 ck
  fresh : bg = false → All = []
  few : (All.length : Int) ≤ N
theorem PInv.sub {ts ck N : Int} {bg : Bool} {L All : List (Int × Int)} (h : PInv ts ck bg L All N) : ∀ y ∈ L, y ∈ All := by
  intro y hy
  obtain ⟨D, h1, -⟩ := h.inv.ex
  rw [h1]
  exact List.mem_append_right _ hy
theorem PInv.at {ts ck N t : Int} {bg : Bool} {L All : List (Int × Int)} (h : PInv ts ck bg L All N) (ht : bg = true → ck ≤ t) : (∀ y ∈ All, SmpOk t y) ∧ WinInv All L t ts := by
  cases bg with
  | false =>
    have h1 := h.fresh rfl
    subst h1
    have h2 : L = [] := by
      rcases L with _ | ⟨y, L⟩
      · rfl
      · exact absurd (h.sub y List.mem_cons_self) (by simp)
    subst h2
    exact ⟨fun y hy => (by cases hy), WinInv.nil _ _⟩
  | true =>
    have h2 := ht rfl
    exact ⟨fun y hy => ⟨(h.all y hy).1, (h.all y hy).2.1, by have := (h.all y hy).2.2; omega⟩, h.inv.clock h2⟩
theorem PInv.put {ts ck N t x : Int} {bg : Bool} {L All : List (Int × Int)} (h : PInv ts ck bg L All N) (ht : bg = true → ck ≤ t) (h64 : R64 t) (hx : R64 x) : PInv ts t true (pushP L (t, x)) (All ++ [(t, x)]) (N + 1) := by
  obtain ⟨h1, h2⟩ := h.at ht
  refine ⟨WinInv.push (s := (t, x)) h2, ?_, h64, fun h => (by cases h), ?_⟩
  · intro y hy
    rcases List.mem_append.1 hy with hy | hy
    · exact h1 y hy
    · simp at hy; subst hy; exact ⟨h64, hx, Int.le_refl _⟩
  · rw [List.length_append]
    have := h.few
    simp
    omega
theorem PInv.read {ts ck N t : Int} {bg : Bool} {L All : List (Int × Int)} (h : PInv ts ck bg L All N) (ht : bg = true → ck ≤ t) (h64 : R64 t) : PInv ts t true (expP t ts L) All N ∧ heldP All t ts = expP t ts L := by
  obtain ⟨h1, h2⟩ := h.at ht
  obtain ⟨h3, h4⟩ := h2.expire
  exact ⟨⟨h3, h1, h64, fun h => (by cases h), h.few⟩, h4⟩
end Go.Proofs.Ytgfnlhigmncdmaa

end
section
namespace Go.Proofs.Ytgfnlhigmncdmaa
set_option linter.unusedVariables false
set_option linter.unusedSimpArgs false
open Go.RowKit Go.Proofs.YtgfnlhigmncdmaaW.PrintWords Go.Proofs.YtgfnlhigmncdmaaW.PrintLast Go.Proofs.YtgfnlhigmncdmaaW.PrintMore

section
variable {W w : World} {g gr : Nat} {B O : Value} {h : Nat} {tm ta ts tr : Int} {ck : Int} {bg : Bool} {L : List (Int × Int)} {All : List (Int × Int)} {N t v kd : Int}
theorem PInv.more {ts ck N N2 : Int} {bg : Bool} {L All : List (Int × Int)} (p : PInv ts ck bg L All N) (hn : N ≤ N2) : PInv ts ck bg L All N2 := ⟨p.inv, p.all, p.clock, p.fresh, by have := p.few; omega⟩
end
end Go.Proofs.Ytgfnlhigmncdmaa

end
section
namespace Go.Proofs.Ytgfnlhigmncdmaa
set_option linter.unusedVariables false
set_option linter.unusedSimpArgs false
open Go.RowKit Go.Proofs.YtgfnlhigmncdmaaW.PrintWords Go.Proofs.YtgfnlhigmncdmaaW.PrintLast Go.Proofs.YtgfnlhigmncdmaaW.PrintMore

section
variable {W w : World} {g gr : Nat} {B O : Value} {h : Nat} {tm ta ts tr : Int} {ck : Int} {bg : Bool} {L : List (Int × Int)} {All : List (Int × Int)} {N t v kd : Int}
end
end Go.Proofs.Ytgfnlhigmncdmaa

end
section
namespace Go.Proofs.Ytgfnlhigmncdmaa
set_option linter.unusedVariables false
set_option linter.unusedSimpArgs false
open Go.RowKit Go.Proofs.YtgfnlhigmncdmaaW.PrintWords Go.Proofs.YtgfnlhigmncdmaaW.PrintLast Go.Proofs.YtgfnlhigmncdmaaW.PrintMore

section
variable {W w : World} {g gr : Nat} {B O : Value} {h : Nat} {tm ta ts tr : Int} {ck : Int} {bg : Bool} {L : List (Int × Int)} {All : List (Int × Int)} {N t v kd : Int}
end
end Go.Proofs.Ytgfnlhigmncdmaa

end
section
namespace Go.Proofs.Ytgfnlhigmncdmaa
set_option linter.unusedVariables false
set_option linter.unusedSimpArgs false
open Go.RowKit Go.Proofs.Ytgfnlhigmncdmaa.XMono Go.Proofs.YtgfnlhigmncdmaaW.PrintWords Go.Proofs.YtgfnlhigmncdmaaW.PrintLast Go.Proofs.YtgfnlhigmncdmaaW.PrintMore

/-- All that is held is well, and no later than the clock. -/
def AllOk (ck : Int) (bg : Bool) (L : List (Int × Int)) : Prop := (∀ y ∈ L, SmpOk ck y) ∧ R64 ck ∧ (bg = false → L = [])
theorem AllOk.at {ck t : Int} {bg : Bool} {L : List (Int × Int)} (h : AllOk ck bg L) (ht : bg = true → ck ≤ t) : ∀ y ∈ L, SmpOk t y := by
  intro y hy
  cases bg with
  | false => rw [h.2.2 rfl] at hy; cases hy
  | true =>
    have := h.1 y hy
    have h2 := ht rfl
    exact ⟨this.1, this.2.1, by have := this.2.2; omega⟩
end Go.Proofs.Ytgfnlhigmncdmaa

end
section
namespace Go.Proofs.Ytgfnlhigmncdmaa
set_option linter.unusedVariables false
set_option linter.unusedSimpArgs false
open Go.RowKit Go.Proofs.YtgfnlhigmncdmaaW.PrintWords
set_option maxRecDepth 100000
end Go.Proofs.Ytgfnlhigmncdmaa

end
section
namespace Go.Proofs.Ytgfnlhigmncdmaa
set_option linter.unusedVariables false
set_option linter.unusedSimpArgs false
open Go.RowKit Go.Proofs.YtgfnlhigmncdmaaW.PrintWords Go.Proofs.YtgfnlhigmncdmaaW.PrintLast Go.Proofs.YtgfnlhigmncdmaaW.PrintMore

end Go.Proofs.Ytgfnlhigmncdmaa

end
section
namespace Go.Proofs.Ytgfnlhigmncdmaa
set_option linter.unusedVariables false
set_option linter.unusedSimpArgs false
open Go.RowKit Go.Proofs.YtgfnlhigmncdmaaW.PrintWords Go.Proofs.YtgfnlhigmncdmaaW.PrintLast Go.Proofs.YtgfnlhigmncdmaaW.PrintMore

/-- As 'Pair'; the blocks of X are neither the window's nor the reference's. -/
structure PairX (W w : World) (X : Nat → Prop) (g gr : Nat) (B O : Value) (h : Nat) (tm ta ts tr : Int) (ck : Int) (bg : Bool) (L : List (Int × Int)) (ckr : Int) (bgr : Bool) (All : List (Int × Int)) (N : Int) : Prop where
  ex : ∃ Fa Fr : Nat → Prop, RanL w w Fa g gr B O tm ta ts tr ck bg L N ∧ RefW w h Fr tm ta ts tr ckr bgr All ∧ (∀ k, Fa k → W.heap.size ≤ k ∧ k < w.heap.size ∧ ¬ X k) ∧ ∀ k, (k = h ∨ Fr k) → W.heap.size ≤ k ∧ k < w.heap.size ∧ ¬ Fa k ∧ ¬ X k
  bel : Below W.heap.size W w
  old : ∀ k, X k → W.heap.size ≤ k ∧ k < w.heap.size
/-- Only blocks of X, and new ones, have been written. -/
def Ext (X : Nat → Prop) (w w' : World) : Prop := Kept w w' X ∧ Below 0 w w'
theorem Ext.of {X : Nat → Prop} {w w' : World} (h : Below w.heap.size w w') : Ext X w w' := ⟨Kept.of_below h _, h.mono (Nat.zero_le _)⟩
section
variable {W w w2 w' : World} {X Y : Nat → Prop} {g gr : Nat} {B O : Value} {h : Nat} {tm ta ts tr : Int} {ck : Int} {bg : Bool} {L : List (Int × Int)} {ckr : Int} {bgr : Bool} {All : List (Int × Int)} {N t x : Int}
theorem PairX.of (i : Pair W w g gr B O h tm ta ts tr ck bg L ckr bgr All N) : PairX W w (fun _ => False) g gr B O h tm ta ts tr ck bg L ckr bgr All N := by
  obtain ⟨⟨Fa, Fr, h1, h2, h3, h4⟩, h5⟩ := i
  exact ⟨⟨Fa, Fr, h1, h2, fun k hk => ⟨(h3 k hk).1, (h3 k hk).2, fun h => h⟩, fun k hk => ⟨(h4 k hk).1, (h4 k hk).2.1, (h4 k hk).2.2, fun h => h⟩⟩, h5, fun k hk => hk.elim⟩
/-- New blocks that are neither's; blocks of X may have been written. -/
theorem PairX.ext (i : PairX W w X g gr B O h tm ta ts tr ck bg L ckr bgr All N) (hb : Ext X w w') (hY : ∀ k, Y k → X k ∨ w.heap.size ≤ k ∧ k < w'.heap.size) : PairX W w' Y g gr B O h tm ta ts tr ck bg L ckr bgr All N := by
  obtain ⟨⟨Fa, Fr, h1, h2, h3, h4⟩, h5, h6⟩ := i
  have hs := hb.1.1
  have hs5 := h5.size
  refine ⟨⟨Fa, Fr, h1.other (fun k hk => (h3 k hk).2.1) hb.1 (fun k hk => (h3 k hk).2.2), h2.kept hb.1 (h4 h (.inl rfl)).2.2.2 (fun k hk => (h4 k (.inr hk)).2.2.2), fun k hk => ⟨(h3 k hk).1, by have := (h3 k hk).2.1; omega, fun hy => ?_⟩, fun k hk => ⟨(h4 k hk).1, by have := (h4 k hk).2.1; omega, (h4 k hk).2.2.1, fun hy => ?_⟩⟩, below_of_kept8 h5 hb.2 hb.1 (fun k hk hx => by have := (h6 k hx).1; omega), fun k hk => ?_⟩
  · rcases hY k hy with hx | hx
    · exact (h3 k hk).2.2 hx
    · have := (h3 k hk).2.1; omega
  · rcases hY k hy with hx | hx
    · exact (h4 k hk).2.2.2 hx
    · have := (h4 k hk).2.1; omega
  · rcases hY k hk with hx | hx
    · exact ⟨(h6 k hx).1, by have := (h6 k hx).2; omega⟩
    · exact ⟨by omega, hx.2⟩
theorem PairX.below (i : PairX W w X g gr B O h tm ta ts tr ck bg L ckr bgr All N) (hb : Below w.heap.size w w') (hY : ∀ k, Y k → X k ∨ w.heap.size ≤ k ∧ k < w'.heap.size) : PairX W w' Y g gr B O h tm ta ts tr ck bg L ckr bgr All N := i.ext (Ext.of hb) hY
theorem PairX.pair (i : PairX W w X g gr B O h tm ta ts tr ck bg L ckr bgr All N) : Pair W w g gr B O h tm ta ts tr ck bg L ckr bgr All N := by
  obtain ⟨⟨Fa, Fr, h1, h2, h3, h4⟩, h5, h6⟩ := i
  exact ⟨⟨Fa, Fr, h1, h2, fun k hk => ⟨(h3 k hk).1, (h3 k hk).2.1⟩, fun k hk => ⟨(h4 k hk).1, (h4 k hk).2.1, (h4 k hk).2.2.1⟩⟩, h5⟩
theorem PairX.more (i : PairX W w X g gr B O h tm ta ts tr ck bg L ckr bgr All N) {N2 : Int} (hN : N ≤ N2) : PairX W w X g gr B O h tm ta ts tr ck bg L ckr bgr All N2 := by
  obtain ⟨⟨Fa, Fr, h1, h2, h3, h4⟩, h5, h6⟩ := i
  exact ⟨⟨Fa, Fr, h1.more hN, h2, h3, h4⟩, h5, h6⟩
/-- What is neither's is as it was. -/
def Same (X : Nat → Prop) (w w' : World) : Prop := w.heap.size ≤ w'.heap.size ∧ ∀ k, X k → w'.heap[k]? = w.heap[k]?
end
end Go.Proofs.Ytgfnlhigmncdmaa

end
section
namespace Go.Proofs.Ytgfnlhigmncdmaa
set_option linter.unusedVariables false
set_option linter.unusedSimpArgs false
open Go.RowKit Go.Proofs.YtgfnlhigmncdmaaW.PrintWords Go.Proofs.YtgfnlhigmncdmaaW.PrintLast Go.Proofs.YtgfnlhigmncdmaaW.PrintMore

/-- A window: its blocks, its terms, what it has come to (clock, begun, samples, how many came). -/
structure Wn where
  g : Nat
  gr : Nat
  B : Value
  O : Value
  ta : Int
  tr : Int
  st : Int × Bool × List (Int × Int) × Int
abbrev Wn.R (x : Wn) (w w' : World) (F : Nat → Prop) (ts : Int) : Prop := RanL w w' F x.g x.gr x.B x.O 0 x.ta ts x.tr x.st.1 x.st.2.1 x.st.2.2.1 x.st.2.2.2
/-- Windows made since W, apart from each other and from X. -/
structure Fam (W w : World) (X : Nat → Prop) (ts : Int) (xs : List Wn) : Prop where
  ex : ∃ Fs : Nat → Nat → Prop, (∀ i (x : Wn), xs[i]? = some x → x.R w w (Fs i) ts) ∧ (∀ i k, i < xs.length → Fs i k → W.heap.size ≤ k ∧ k < w.heap.size ∧ ¬ X k) ∧ ∀ i j k, i < xs.length → j < xs.length → i ≠ j → Fs i k → ¬ Fs j k
  bel : Below W.heap.size W w
  old : ∀ k, X k → W.heap.size ≤ k ∧ k < w.heap.size
section
variable {W w w' : World} {X Y : Nat → Prop} {ts : Int} {xs : List Wn}
theorem Fam.nil (hb : Below W.heap.size W w) : Fam W w (fun _ => False) ts [] := ⟨⟨fun _ _ => False, fun i x hx => by simp at hx, fun i k hi => by simp at hi, fun i j k hi => by simp at hi⟩, hb, fun k hk => hk.elim⟩
theorem Fam.ext (h : Fam W w X ts xs) (hb : Ext X w w') (hY : ∀ k, Y k → X k ∨ w.heap.size ≤ k ∧ k < w'.heap.size) : Fam W w' Y ts xs := by
  obtain ⟨⟨Fs, h1, h2, h3⟩, h5, h6⟩ := h
  have hs := hb.1.1
  have hs5 := h5.size
  refine ⟨⟨Fs, fun i x hx => ?_, fun i k hi hk => ⟨(h2 i k hi hk).1, by have := (h2 i k hi hk).2.1; omega, fun hy => ?_⟩, h3⟩, below_of_kept8 h5 hb.2 hb.1 (fun k hk hx => by have := (h6 k hx).1; omega), fun k hk => ?_⟩
  · have hi : i < xs.length := (List.getElem?_eq_some_iff.1 hx).1
    exact Ran.other (h1 i x hx) (fun k hk => (h2 i k hi hk).2.1) hb.1 (fun k hk => (h2 i k hi hk).2.2)
  · rcases hY k hy with hx | hx
    · exact (h2 i k hi hk).2.2 hx
    · have := (h2 i k hi hk).2.1; omega
  · rcases hY k hk with hx | hx
    · exact ⟨(h6 k hx).1, by have := (h6 k hx).2; omega⟩
    · exact ⟨by omega, hx.2⟩
/-- One window's call. -/
theorem Fam.step (h : Fam W w X ts xs) {i : Nat} {x : Wn} (hx : xs[i]? = some x) : ∃ F : Nat → Prop, x.R w w F ts ∧
    ∀ (w' : World) (s : Int × Bool × List (Int × Int) × Int), Wn.R { x with st := s } w w' F ts → Same X w w' ∧ Fam W w' X ts (xs.set i { x with st := s }) := by
  obtain ⟨⟨Fs, h1, h2, h3⟩, h5, h6⟩ := h
  have hi : i < xs.length := (List.getElem?_eq_some_iff.1 hx).1
  refine ⟨Fs i, h1 i x hx, fun w' s j => ?_⟩
  have hk := Ran.kept j
  have hbel := Ran.bel j
  have ha := Ran.anew j
  have hsz := hk.1
  have hs5 := h5.size
  obtain ⟨Gs, hG1, hG2⟩ : ∃ Gs : Nat → Nat → Prop, Gs i = (fun k => (Fs i k ∨ w.heap.size ≤ k) ∧ k < w'.heap.size) ∧ ∀ m, m ≠ i → Gs m = Fs m :=
    ⟨fun m => if m = i then (fun k => (Fs i k ∨ w.heap.size ≤ k) ∧ k < w'.heap.size) else Fs m, if_pos rfl, fun m hm => if_neg hm⟩
  refine ⟨⟨hsz, fun k hx => hk.2 k (h6 k hx).2 (fun hf => (h2 i k hi hf).2.2 hx)⟩, ⟨⟨Gs, ?_, ?_, ?_⟩, below_of_kept8 h5 hbel hk (fun k hk' hf => by have := (h2 i k hi hf).1; omega), fun k hx => ⟨(h6 k hx).1, by have := (h6 k hx).2; omega⟩⟩⟩
  · intro m y hy
    by_cases hm : m = i
    · subst hm
      rw [List.getElem?_set_self hi] at hy
      injection hy with hy
      subst hy
      rw [hG1]
      exact ha
    · rw [List.getElem?_set_ne (fun h => hm h.symm)] at hy
      have hm2 : m < xs.length := (List.getElem?_eq_some_iff.1 hy).1
      rw [hG2 m hm]
      exact Ran.other (h1 m y hy) (fun k hk => (h2 m k hm2 hk).2.1) hk (fun k hkm hki => h3 m i k hm2 hi hm hkm hki)
  · intro m k hm hf
    rw [List.length_set] at hm
    by_cases hmi : m = i
    · subst hmi
      rw [hG1] at hf
      obtain ⟨hf, hl⟩ := hf
      rcases hf with hf | hf
      · exact ⟨(h2 m k hi hf).1, hl, (h2 m k hi hf).2.2⟩
      · exact ⟨by omega, hl, fun hx => by have := (h6 k hx).2; omega⟩
    · rw [hG2 m hmi] at hf
      have := h2 m k hm hf
      exact ⟨this.1, by omega, this.2.2⟩
  · intro m n k hm hn hmn hf hg
    rw [List.length_set] at hm hn
    by_cases hmi : m = i
    · have hni : n ≠ i := fun h => hmn (hmi.trans h.symm)
      rw [hmi, hG1] at hf
      rw [hG2 n hni] at hg
      rcases hf.1 with hf | hf
      · exact h3 i n k hi hn (fun h => hni h.symm) hf hg
      · have := (h2 n k hn hg).2.1; omega
    · rw [hG2 m hmi] at hf
      by_cases hni : n = i
      · rw [hni, hG1] at hg
        rcases hg.1 with hg | hg
        · exact h3 m i k hm hi hmi hf hg
        · have := (h2 m k hm hf).2.1; omega
      · rw [hG2 n hni] at hg
        exact h3 m n k hm hn hmn hf hg
/-- One window more. -/
theorem Fam.add (h : Fam W w X ts xs) {x : Wn} (r : x.R w w' (fun _ => False) ts) : Same X w w' ∧ Fam W w' X ts (xs ++ [x]) := by
  obtain ⟨⟨Fs, h1, h2, h3⟩, h5, h6⟩ := h
  have hk := Ran.kept r
  have hbel := Ran.bel r
  have ha := Ran.anew r
  have hsz := hk.1
  have hs5 := h5.size
  obtain ⟨Gs, hG1, hG2⟩ : ∃ Gs : Nat → Nat → Prop, Gs xs.length = (fun k => (False ∨ w.heap.size ≤ k) ∧ k < w'.heap.size) ∧ ∀ m, m ≠ xs.length → Gs m = Fs m :=
    ⟨fun m => if m = xs.length then (fun k => (False ∨ w.heap.size ≤ k) ∧ k < w'.heap.size) else Fs m, if_pos rfl, fun m hm => if_neg hm⟩
  have hll : (xs ++ [x]).length = xs.length + 1 := by simp
  refine ⟨⟨hsz, fun k hx => hk.2 k (h6 k hx).2 (fun hf => hf)⟩, ⟨⟨Gs, ?_, ?_, ?_⟩, below_of_kept8 h5 hbel hk (fun _ _ h => h), fun k hx => ⟨(h6 k hx).1, by have := (h6 k hx).2; omega⟩⟩⟩
  · intro m y hy
    have hm2 := (List.getElem?_eq_some_iff.1 hy).1
    by_cases hm : m = xs.length
    · subst hm
      rw [List.getElem?_append_right (Nat.le_refl _), Nat.sub_self] at hy
      injection hy with hy
      subst hy
      rw [hG1]
      exact ha
    · have hl : m < xs.length := by omega
      rw [List.getElem?_append_left hl] at hy
      rw [hG2 m hm]
      exact Ran.other (h1 m y hy) (fun k hk => (h2 m k hl hk).2.1) hk (fun _ _ h => h)
  · intro m k hm hf
    by_cases hmi : m = xs.length
    · rw [hmi, hG1] at hf
      obtain ⟨hf, hl⟩ := hf
      rcases hf with hf | hf
      · exact hf.elim
      · exact ⟨by omega, hl, fun hx => by have := (h6 k hx).2; omega⟩
    · rw [hG2 m hmi] at hf
      have := h2 m k (by omega) hf
      exact ⟨this.1, by omega, this.2.2⟩
  · intro m n k hm hn hmn hf hg
    by_cases hmi : m = xs.length
    · rw [hmi, hG1] at hf
      rw [hG2 n (by omega)] at hg
      have := (h2 n k (by omega) hg).2.1
      rcases hf.1 with h | h
      · exact h.elim
      · omega
    · rw [hG2 m hmi] at hf
      by_cases hni : n = xs.length
      · rw [hni, hG1] at hg
        have := (h2 m k (by omega) hf).2.1
        rcases hg.1 with h | h
        · exact h.elim
        · omega
      · rw [hG2 n hni] at hg
        exact h3 m n k (by omega) (by omega) hmn hf hg
end
/-- The kinds of the two rows. -/
abbrev winK : Kd Nat := Kd.scalar (fun g => .pointer (some ⟨g, 0, none⟩)) (fun _ => rfl)
abbrev resK : Kd (Int × Int) := Kd.pair (Kd.int .i64) (Kd.int .i64)
def OwnOf (v : Value) : Nat → Prop := fun k => v.ownBlock = some k
/-- A row of windows and a row of answers. -/
structure Wins (W w : World) (v : Value) (ts : Int) (xs : List Wn) (vr : Value) (rs : List (Int × Int)) : Prop where
  row : Kd.R winK 28 w 0 (OwnOf v) v (xs.map Wn.g)
  res : Kd.R resK 42 w 0 (OwnOf vr) vr rs
  apart : ∀ k, OwnOf v k → ¬ OwnOf vr k
  fam : Fam W w (fun k => OwnOf v k ∨ OwnOf vr k) ts xs
section
variable {W w w3 w' : World} {ts : Int} {xs : List Wn} {v vr v1 : Value} {rs : List (Int × Int)}
theorem Wins.nil (hb : Below W.heap.size W w) : Wins W w (.slice none 0 0) ts [] (.slice none 0 0) [] :=
  ⟨Kd.R_nil _ _ _ _ _, Kd.R_nil _ _ _ _ _, fun k hk => by simp [OwnOf, Value.ownBlock] at hk, (Fam.nil hb).ext (Ext.of (Below.refl _ _)) (fun k hk => by rcases hk with hk | hk <;> simp [OwnOf, Value.ownBlock] at hk)⟩
theorem Wins.below (h : Wins W w v ts xs vr rs) (hb : Below w.heap.size w w') : Wins W w' v ts xs vr rs :=
  ⟨Kd.R_below h.row hb, Kd.R_below h.res hb, h.apart, h.fam.ext (Ext.of hb) (fun k hk => .inl hk)⟩
theorem Wins.cell (h : Wins W w v ts xs vr rs) {A : Option Addr} {n c : Nat} (hv : v = .slice A n c) {i : Nat} {x : Wn} (hx : xs[i]? = some x) : ∃ ad, A = some ad ∧ n = xs.length ∧ w.cell? (ad.add i) = some (.pointer (some ⟨x.g, 0, none⟩)) := by
  have hi : i < xs.length := (List.getElem?_eq_some_iff.1 hx).1
  have hr := h.row
  subst hv
  have hn := (Kd.R_reads' hr).1
  rw [List.length_map] at hn
  rcases (Kd.own_of_R hr).2 with ⟨he, hnil⟩ | ⟨g, cap, cur, he, -⟩
  · injection he with _ he
    omega
  · injection he with e1 e2 e3
    subst e1
    have hc := (Kd.R_cell (cap := cap) 0 (by rw [← e2, ← e3]; exact hr) (i : Int) (by omega) (by rw [List.length_map]; omega)).1
    refine ⟨_, rfl, hn, ?_⟩
    have e : (⟨g, 0, none⟩ : Addr).add i = ⟨g, (i : Int).toNat, none⟩ := by simp [Addr.add]; omega
    rw [e, hc]
    have : rdOf 0 (xs.map Wn.g) (i : Int) = x.g := by simp [rdOf, hx]
    rw [this]
/-- One window's call. -/
theorem Wins.step (h : Wins W w v ts xs vr rs) {i : Nat} {x : Wn} (hx : xs[i]? = some x) : ∃ F : Nat → Prop, x.R w w F ts ∧
    ∀ (w' : World) (s : Int × Bool × List (Int × Int) × Int), Wn.R { x with st := s } w w' F ts → Wins W w' v ts (xs.set i { x with st := s }) vr rs := by
  obtain ⟨F, h1, h2⟩ := h.fam.step hx
  refine ⟨F, h1, fun w' s j => ?_⟩
  obtain ⟨hs, hf⟩ := h2 w' s j
  have hm : (xs.set i { x with st := s }).map Wn.g = xs.map Wn.g := by
    apply List.ext_getElem?
    intro m
    rw [List.getElem?_map, List.getElem?_map]
    by_cases hmi : m = i
    · subst hmi
      rw [List.getElem?_set_self (List.getElem?_eq_some_iff.1 hx).1, hx]
      rfl
    · rw [List.getElem?_set_ne (fun h => hmi h.symm)]
  exact ⟨by rw [hm]; exact Kd.R_move h.row (fun k hk => hs.2 k (.inl hk)), Kd.R_move h.res (fun k hk => hs.2 k (.inr hk)), h.apart, hf⟩
/-- One window more, put behind. -/
theorem Wins.push {x : Wn} {ok : Nat → Prop} (h : Wins W w v ts xs vr rs) (r : x.R w w3 (fun _ => False) ts) (ho : Kd.R winK 28 w' 0 ok v1 (xs.map Wn.g ++ [x.g])) (hb : Below 0 w3 w') (hg : w3.grownBy w' v.ownBlock)
    (hat : v1.ownBlock = v.ownBlock ∨ ∃ b, v1.ownBlock = some b ∧ w3.heap.size ≤ b) : Wins W w' v1 ts (xs ++ [x]) vr rs := by
  obtain ⟨hs, hf⟩ := h.fam.add r
  have hK : Kept w3 w' (fun k => OwnOf v k ∨ OwnOf vr k) := Kept.of_grown hg (Kept.refl w3 _) (fun k hk => .inl (.inl hk))
  have hlt : ∀ k, OwnOf v1 k → k < w'.heap.size := fun k hk => own_lt (Kd.own_of_R ho) k hk
  have hsz := hs.1
  have ho2 : ∀ k, OwnOf v1 k → OwnOf v k ∨ w3.heap.size ≤ k ∧ k < w'.heap.size := fun k hk => by
    rcases hat with e | ⟨b, e, hb2⟩
    · exact .inl (by show v.ownBlock = some k; rw [← e]; exact hk)
    · have : b = k := by have hk2 : v1.ownBlock = some k := hk; rw [e] at hk2; injection hk2
      subst this
      exact .inr ⟨hb2, hlt _ hk⟩
  refine ⟨?_, ?_, ?_, hf.ext ⟨hK, hb⟩ ?_⟩
  · rw [List.map_append]
    exact Kd.R_flat (fun h => h) ho (fun k hk _ => hk)
  · exact Kd.R_step (Kd.R_move h.res (fun k hk => hs.2 k (.inr hk))) (fun k hk hkl => hg.block k hkl (fun e => h.apart k e.symm hk))
  · intro k hk hkr
    rcases ho2 k hk with hk | hk
    · exact h.apart k hk hkr
    · have := (h.fam.old k (.inr hkr)).2
      omega
  · rintro k (hk | hk)
    · rcases ho2 k hk with hk | hk
      · exact .inl (.inl hk)
      · exact .inr hk
    · exact .inl (.inr hk)
/-- One answer more. -/
theorem Wins.told {p : Int × Int} {ok : Nat → Prop} (h : Wins W w v ts xs vr rs) (ho : Kd.R resK 42 w' 0 ok v1 (rs ++ [p])) (hb : Below 0 w w') (hg : w.grownBy w' vr.ownBlock)
    (hat : v1.ownBlock = vr.ownBlock ∨ ∃ b, v1.ownBlock = some b ∧ w.heap.size ≤ b) : Wins W w' v ts xs v1 (rs ++ [p]) := by
  have hK : Kept w w' (fun k => OwnOf v k ∨ OwnOf vr k) := Kept.of_grown hg (Kept.refl w _) (fun k hk => .inl (.inr hk))
  have hlt : ∀ k, OwnOf v1 k → k < w'.heap.size := fun k hk => by
    obtain ⟨inner, hown, -⟩ := ho.2
    exact own_lt hown k hk
  have ho2 : ∀ k, OwnOf v1 k → OwnOf vr k ∨ w.heap.size ≤ k ∧ k < w'.heap.size := fun k hk => by
    rcases hat with e | ⟨b, e, hb2⟩
    · exact .inl (by show vr.ownBlock = some k; rw [← e]; exact hk)
    · have : b = k := by have hk2 : v1.ownBlock = some k := hk; rw [e] at hk2; injection hk2
      subst this
      exact .inr ⟨hb2, hlt _ hk⟩
  refine ⟨?_, ?_, ?_, h.fam.ext ⟨hK, hb⟩ ?_⟩
  · exact Kd.R_step h.row (fun k hk hkl => hg.block k hkl (fun e => h.apart k hk e.symm))
  · exact Kd.R_flat (fun h => h) ho (fun k hk _ => hk)
  · intro k hk hkr
    rcases ho2 k hkr with hkr | hkr
    · exact h.apart k hk hkr
    · have := (h.fam.old k (.inl hk)).2
      omega
  · rintro k (hk | hk)
    · exact .inl (.inl hk)
    · rcases ho2 k hk with hk | hk
      · exact .inl (.inr hk)
      · exact .inr hk
end
end Go.Proofs.Ytgfnlhigmncdmaa

end
section
namespace Go.Proofs.Ytgfnlhigmncdmaa
set_option linter.unusedVariables false
set_option linter.unusedSimpArgs false
open Go.RowKit Go.Proofs.YtgfnlhigmncdmaaW.PrintWords Go.Proofs.YtgfnlhigmncdmaaW.PrintLast Go.Proofs.YtgfnlhigmncdmaaW.PrintMore
theorem info_winp : (Try.prog.info? 28).map (fun i => (i.zero, i.size, i.bytes)) = some (some (.pointer none), 1, 8) := by kernel_rfl
section
variable {W w w3 w' : World} {ts : Int} {xs : List Wn} {v vr v1 : Value} {rs : List (Int × Int)}
theorem Wins.rowAt {x : Wn} (h : Wins W w v ts xs vr rs) (r : x.R w w3 (fun _ => False) ts) : Kd.R winK 28 w3 0 (fun _ => True) v (xs.map Wn.g) :=
  Kd.R_mono (Kd.R_move h.row (fun k hk => (h.fam.add r).1.2 k (.inl hk))) (fun _ _ => trivial)
end
/-- What a window of the row is, before anything has come. -/
def Young (i : Nat) (x : Wn) : Prop := x.ta = (i : Int) + 1 ∧ x.tr = (if i = 5 then 100000000 else 0) ∧ x.st = (0, false, [], 0)
theorem young_mk {i g gr : Nat} {B O : Value} {ag tr : Int} (h : ag = (i : Int) + 1) (h2 : tr = (if i = 5 then 100000000 else 0)) : Young i ⟨g, gr, B, O, ag, tr, (0, false, [], 0)⟩ := ⟨h, h2, rfl⟩
theorem young_add {xs : List Wn} {x : Wn} {i : Nat} (hl : xs.length = i) (h : ∀ j y, xs[j]? = some y → Young j y) (hx : Young i x) : ∀ j y, (xs ++ [x])[j]? = some y → Young j y := by
  intro j y hy
  by_cases hj : j < xs.length
  · rw [List.getElem?_append_left hj] at hy
    exact h j y hy
  · have h2 := (List.getElem?_eq_some_iff.1 hy).1
    have h3 : (xs ++ [x]).length = xs.length + 1 := by simp
    have h4 : j = xs.length := by omega
    subst h4
    rw [List.getElem?_append_right (Nat.le_refl _), Nat.sub_self] at hy
    injection hy with hy
    subst hy
    rw [hl]
    exact hx
set_option maxHeartbeats 16000000 in
set_option maxRecDepth 100000 in
theorem made_calls {ts : Int} (hts : 1 ≤ ts ∧ ts ≤ 1000) (w : World) : Calls Try.prog 15 #[.int .i64 ts] w fun e w' =>
    ∃ ad c xs, e = .returned (.slice (some ad) 6 c) ∧ xs.length = 6 ∧ (∀ i x, xs[i]? = some x → Young i x) ∧ Wins w w' (.slice (some ad) 6 c) ts xs (.slice none 0 0) [] := by
  have HS := Lib.hid hts
  clear hts
  go_enter Try.func15, Try.ntmps15
  go_wp2
  go_loopg [3, 4] 6 (fun kq v3 v4 w' => ∃ (i : Nat) (ag : Int) (A : Option Addr) (c : Nat) (xs : List Wn), v3 = .slice A i c ∧ v4 = .int .i64 ag ∧ Aside0 (ag = (i : Int) + 1) ∧ Aside0 (i + kq = 6) ∧ Aside0 (xs.length = i) ∧ Aside0 (∀ j y, xs[j]? = some y → Young j y) ∧ Aside0 (Wins w w' (.slice A i c) ts xs (.slice none 0 0) []))
  case atStart => exact ⟨0, 1, none, 0, [], rfl, rfl, ⟨by omega⟩, ⟨by omega⟩, ⟨rfl⟩, ⟨fun j y h => by simp at h⟩, ⟨Wins.nil (Below.refl _ _)⟩⟩
  case round =>
    obtain ⟨i, ag, A, c, xs, rfl, rfl, hag, hk, hl, hsh, hT⟩ := hrel
    have HAG := Lib.hid hag.out
    have HKQ := Lib.hid hk.out
    have HL := Lib.hid hl.out
    have HSH := Lib.hid hsh.out
    have T1 := Lib.hid hT.out
    clear hag hk hl hsh hT
    by_cases hi : i < 6
    · have Hi := Lib.hid hi
      clear hi
      by_cases h5 : i = 5
      · have H5 := Lib.hid h5
        obtain rfl : ag = 6 := by have := HAG.out; omega
        clear h5
        go_upto_region 6 with fail
        obtain ⟨w3, hw3⟩ : ∃ w3, wr.alloc (.cells #[.int .i64 0, .int .i64 6, .int .i64 ts, .int .i64 0] 27) = w3 := ⟨_, rfl⟩
        obtain ⟨b7, hb7⟩ : ∃ b7, wr.heap.size = b7 := ⟨_, rfl⟩
        have b3 : Below wr.heap.size wr w3 := by subst hw3; exact below_alloc (Below.refl _ _) _
        have k3 : w3.heap[b7]? = some (.cells #[.int .i64 0, .int .i64 6, .int .i64 ts, .int .i64 0] 27 (0, 0)) := by subst hw3 hb7; exact blk_new _ _
        have f3 := blk_frozen k3 3
        have u3 := (blk_cell k3 3).trans rfl
        obtain ⟨wt, hwt⟩ : ∃ wt, w3.setCell ⟨b7, 3, none⟩ (.int .i64 100000000) = wt := ⟨_, rfl⟩
        have kt : wt.heap[b7]? = some (.cells #[.int .i64 0, .int .i64 6, .int .i64 ts, .int .i64 100000000] 27 (0, 0)) := by subst hwt; simpa using blk_set k3 3 (.int .i64 100000000)
        have T2 := Lib.hid (T1.out.below (show Below wr.heap.size wr wt by subst hwt; exact b3.setCell (p := ⟨b7, 3, none⟩) (by show wr.heap.size ≤ b7; omega) _))
        have v0 := (blk_cell kt 0).trans rfl
        have v1 := (blk_cell kt 1).trans rfl
        have v2 := (blk_cell kt 2).trans rfl
        have v3 := (blk_cell kt 3).trans rfl
        clear b3 k3 kt T1
        have hR : RightT 0 6 ts 100000000 := by have := HS.out; have := HAG.out; have := Hi.out; have := H5.out; unfold RightT; omega
        have HR := Lib.hid hR
        clear hR
        go_wp2_with fail
        refine (win_new wt HR.out).mono ?_
        rintro e w4 ⟨g, gr, B, O, rfl, s4, r4⟩
        obtain ⟨x, hx⟩ : ∃ x : Wn, x = ⟨g, gr, B, O, 6, 100000000, (0, false, [], 0)⟩ := ⟨_, rfl⟩
        have R4 := Lib.hid (show x.R wt w4 (fun _ => False) ts by subst hx; exact r4)
        have HX := Lib.hid (show x.g = g ∧ Young i x by subst hx; exact ⟨rfl, young_mk HAG.out (if_pos H5.out).symm⟩)
        have N2 := Lib.hid (T2.out.rowAt R4.out)
        have hlm : (xs.map Wn.g).length = i := by rw [List.length_map]; exact HL.out
        have HLM := Lib.hid hlm
        clear s4 r4 v0 v1 v2 v3 hx hlm
        go_wp2_with (first | ((with_reducible refine gate_builtin (b := .append) (xs := #[.tmp 23, .tmp 25]) rfl ?_); at_builtin; refine Kd.R_append winK (w0 := w4) 0 rfl (.tmp 23) (.tmp 25) 46 28 (.pointer none) 8 rfl Try.underlying46 info_winp rfl (by decide) (by decide) (.slice A i c) (xs.map Wn.g) g [.pointer (some ⟨g, 0, none⟩)] (fun _ => True) (fun _ => False) (by rfl) (by rfl) ?aP (fun _ hk => hk.elim) (fun k hk => trivial) N2.out (Below.refl 0 w4) (Nat.zero_le _) ?aL ?_; (case aP => exact rfl); (case aL => have := HLM.out; have := Hi.out; omega); intro v108 w9 ho hb9 hg9 hat; obtain ⟨A9, c9, e9⟩ := Kd.R_slice ho; have e9 : v108 = .slice A9 (i + 1) c9 := (by rw [e9, List.length_append, HLM.out]; rfl); subst e9; have P9 := Lib.hid (T2.out.push R4.out (by rw [HX.out.1]; exact ho) hb9 hg9 hat); clear ho hb9 hg9 hat))
        go_roundg (gk - 1)
        case measure => have := HKQ.out; have := Hi.out; omega
        case rel => exact ⟨i + 1, 7, A9, c9, xs ++ [x], by first | rfl | (simp; exact HL.out), by first | rfl | simp [wrap64], ⟨by have := HAG.out; omega⟩, ⟨by have := HKQ.out; have := Hi.out; omega⟩, ⟨by rw [List.length_append, HL.out]; rfl⟩, ⟨young_add HL.out HSH.out HX.out.2⟩, ⟨P9.out⟩⟩
      · have H5 := Lib.hid h5
        have n6 : (ag == 6) = false := by have := HAG.out; simp; omega
        have e1 : (ag ≤ 6) = True := eq_true (by have := HAG.out; have := Hi.out; omega)
        have hwr : wrap64 (ag + 1) = ag + 1 := by have := HAG.out; have := Hi.out; unfold wrap64; omega
        clear h5
        go_upto_region 6 with fail
        obtain ⟨w3, hw3⟩ : ∃ w3, wr.alloc (.cells #[.int .i64 0, .int .i64 ag, .int .i64 ts, .int .i64 0] 27) = w3 := ⟨_, rfl⟩
        obtain ⟨b7, hb7⟩ : ∃ b7, wr.heap.size = b7 := ⟨_, rfl⟩
        have b3 : Below wr.heap.size wr w3 := by subst hw3; exact below_alloc (Below.refl _ _) _
        have k3 : w3.heap[b7]? = some (.cells #[.int .i64 0, .int .i64 ag, .int .i64 ts, .int .i64 0] 27 (0, 0)) := by subst hw3 hb7; exact blk_new _ _
        obtain ⟨wt, hwt⟩ : ∃ wt, w3 = wt := ⟨_, rfl⟩
        subst hwt
        have kt := k3
        have T2 := Lib.hid (T1.out.below b3)
        have v0 := (blk_cell kt 0).trans rfl
        have v1 := (blk_cell kt 1).trans rfl
        have v2 := (blk_cell kt 2).trans rfl
        have v3 := (blk_cell kt 3).trans rfl
        clear b3 k3 kt T1
        have hR : RightT 0 ag ts 0 := by have := HS.out; have := HAG.out; have := Hi.out; have := H5.out; unfold RightT; omega
        have HR := Lib.hid hR
        clear hR
        go_wp2_with fail
        refine (win_new w3 HR.out).mono ?_
        rintro e w4 ⟨g, gr, B, O, rfl, s4, r4⟩
        obtain ⟨x, hx⟩ : ∃ x : Wn, x = ⟨g, gr, B, O, ag, 0, (0, false, [], 0)⟩ := ⟨_, rfl⟩
        have R4 := Lib.hid (show x.R w3 w4 (fun _ => False) ts by subst hx; exact r4)
        have HX := Lib.hid (show x.g = g ∧ Young i x by subst hx; exact ⟨rfl, young_mk HAG.out (if_neg H5.out).symm⟩)
        have N2 := Lib.hid (T2.out.rowAt R4.out)
        have hlm : (xs.map Wn.g).length = i := by rw [List.length_map]; exact HL.out
        have HLM := Lib.hid hlm
        clear s4 r4 v0 v1 v2 v3 hx hlm
        go_wp2_with (first | ((with_reducible refine gate_builtin (b := .append) (xs := #[.tmp 23, .tmp 25]) rfl ?_); at_builtin; refine Kd.R_append winK (w0 := w4) 0 rfl (.tmp 23) (.tmp 25) 46 28 (.pointer none) 8 rfl Try.underlying46 info_winp rfl (by decide) (by decide) (.slice A i c) (xs.map Wn.g) g [.pointer (some ⟨g, 0, none⟩)] (fun _ => True) (fun _ => False) (by rfl) (by rfl) ?aP (fun _ hk => hk.elim) (fun k hk => trivial) N2.out (Below.refl 0 w4) (Nat.zero_le _) ?aL ?_; (case aP => exact rfl); (case aL => have := HLM.out; have := Hi.out; omega); intro v108 w9 ho hb9 hg9 hat; obtain ⟨A9, c9, e9⟩ := Kd.R_slice ho; have e9 : v108 = .slice A9 (i + 1) c9 := (by rw [e9, List.length_append, HLM.out]; rfl); subst e9; have P9 := Lib.hid (T2.out.push R4.out (by rw [HX.out.1]; exact ho) hb9 hg9 hat); clear ho hb9 hg9 hat))
        go_roundg (gk - 1)
        case measure => have := HKQ.out; have := Hi.out; omega
        case rel => exact ⟨i + 1, ag + 1, A9, c9, xs ++ [x], by first | rfl | (simp; exact HL.out), by first | rfl | simp [hwr], ⟨by have := HAG.out; omega⟩, ⟨by have := HKQ.out; have := Hi.out; omega⟩, ⟨by rw [List.length_append, HL.out]; rfl⟩, ⟨young_add HL.out HSH.out HX.out.2⟩, ⟨P9.out⟩⟩
    · obtain rfl : ag = 7 := by have := HAG.out; have := HKQ.out; omega
      obtain rfl : i = 6 := by have := HKQ.out; omega
      obtain ⟨x0, hx0⟩ : ∃ x0, xs[0]? = some x0 := ⟨_, List.getElem?_eq_getElem (by have := HL.out; omega)⟩
      obtain ⟨ad, hA, -, -⟩ := T1.out.cell rfl hx0
      subst hA
      clear hx0 hi
      go_wp2
      go_ret
      exact ⟨ad, c, xs, by simp, HL.out, HSH.out, T1.out⟩
end Go.Proofs.Ytgfnlhigmncdmaa

end
section
namespace Go.Proofs.Ytgfnlhigmncdmaa
set_option linter.unusedVariables false
set_option linter.unusedSimpArgs false
open Go.RowKit Go.Proofs.YtgfnlhigmncdmaaW.PrintWords Go.Proofs.YtgfnlhigmncdmaaW.PrintLast Go.Proofs.YtgfnlhigmncdmaaW.PrintMore

theorem mn_or (high : Bool) (a b : Int) : mn high a b = a ∨ mn high a b = b := by
  unfold mn
  split
  · exact .inl rfl
  · exact .inr rfl
theorem mn_top (a b : Int) : a ≤ mn true a b ∧ b ≤ mn true a b := by
  simp only [mn, beatsB]
  simp
  split <;> omega
theorem mn_low (a b : Int) : mn false a b ≤ a ∧ mn false a b ≤ b := by
  simp only [mn, beatsB]
  simp
  split <;> omega
theorem hdV_mem (high : Bool) : ∀ (L : List Int) (x : Int), hdV high (x :: L) ∈ x :: L
  | [], x => by rw [hdV_one]; exact List.mem_cons_self
  | y :: L, x => by
    rw [hdV_cons]
    have h := hdV_mem high L y
    rcases mn_or high x (hdV high (y :: L)) with e | e
    · rw [e]; exact List.mem_cons_self
    · rw [e]; exact List.mem_cons_of_mem _ h
theorem hdV_top : ∀ (L : List Int) (x z : Int), z ∈ x :: L → z ≤ hdV true (x :: L)
  | [], x, z, h => by simp at h; rw [hdV_one, h]; exact Int.le_refl _
  | y :: L, x, z, h => by
    rw [hdV_cons]
    have h2 := mn_top x (hdV true (y :: L))
    rcases List.mem_cons.1 h with rfl | h
    · exact h2.1
    · exact Int.le_trans (hdV_top L y z h) h2.2
theorem hdV_low : ∀ (L : List Int) (x z : Int), z ∈ x :: L → hdV false (x :: L) ≤ z
  | [], x, z, h => by simp at h; rw [hdV_one, h]; exact Int.le_refl _
  | y :: L, x, z, h => by
    rw [hdV_cons]
    have h2 := mn_low x (hdV false (y :: L))
    rcases List.mem_cons.1 h with rfl | h
    · exact h2.1
    · exact Int.le_trans h2.2 (hdV_low L y z h)
theorem rising_end {L : List Int} (h : Rising L) (h0 : 0 < L.length) : ∀ z ∈ L, z ≤ L.getD (L.length - 1) 0 := by
  intro z hz
  obtain ⟨i, hi, rfl⟩ := List.mem_iff_getElem.1 hz
  have e : L.getD i 0 = L[i] := by rw [List.getD_eq_getElem?_getD, List.getElem?_eq_getElem hi]; rfl
  by_cases hl : i = L.length - 1
  · rw [← hl, e]; exact Int.le_refl _
  · have := h i (L.length - 1) (by omega) (by omega)
    rw [e] at this
    exact this
/-- The greatest is the rank of all. -/
theorem top_rank (x : Int) (L : List Int) : byV (srt (x :: L)) 100000000 = hdV true (x :: L) := by
  have hl : (srt (x :: L)).length = L.length + 1 := by rw [srt_len]; rfl
  have h0 : 0 < (srt (x :: L)).length := by omega
  rw [byV_yes (by decide) (by decide) h0]
  have hp : (place 100000000 (srt (x :: L)).length).toNat = (srt (x :: L)).length - 1 := by unfold place; omega
  rw [hp]
  have h1 := rising_end (srt_rising (x :: L)) h0
  have h2 := hdV_mem true L x
  have h3 : (srt (x :: L)).getD ((srt (x :: L)).length - 1) 0 ∈ srt (x :: L) := by
    rw [List.getD_eq_getElem?_getD, List.getElem?_eq_getElem (by omega)]
    exact List.getElem_mem _
  exact Int.le_antisymm (hdV_top L x _ ((srt_perm (x :: L)).mem_iff.1 h3)) (h1 _ ((srt_perm (x :: L)).mem_iff.2 h2))
theorem sum_between {lo hi : Int} : ∀ (L : List Int), (∀ z ∈ L, lo ≤ z ∧ z ≤ hi) → lo * (L.length : Int) ≤ L.sum ∧ L.sum ≤ hi * (L.length : Int)
  | [], _ => by simp
  | x :: L, h => by
    have h1 := h x List.mem_cons_self
    have h2 := sum_between L (fun z hz => h z (List.mem_cons_of_mem _ hz))
    rw [List.sum_cons, List.length_cons, Int.natCast_add, Int.mul_add, Int.mul_add]
    simp only [Int.natCast_one, Int.mul_one]
    omega
/-- The six answers, of samples that are small: (reason, number) of sum, mean, least, greatest, number, rank. -/
theorem agree_vals (V : List Int) (hV : ∀ z ∈ V, -8796093022208 ≤ z ∧ z ≤ 8796093022207) (hn : V.length ≤ 4096) :
    readV 1 0 V = (0, V.sum) ∧ readV 5 0 V = (0, (V.length : Int) * 1000000) ∧ -36028797018963968 ≤ V.sum ∧ V.sum ≤ 36028797018963968 ∧
    ((V.length = 0 ∧ V.sum = 0 ∧ readV 2 0 V = (1, 0) ∧ readV 3 0 V = (1, 0) ∧ readV 4 0 V = (1, 0) ∧ readV 6 100000000 V = (1, 0)) ∨
     (0 < V.length ∧ ∃ av lo hi : Int, readV 2 0 V = (0, av) ∧ readV 3 0 V = (0, lo) ∧ readV 4 0 V = (0, hi) ∧ readV 6 100000000 V = (0, hi) ∧ lo ≤ av ∧ av ≤ hi ∧ -8796093022208 ≤ lo ∧ hi ≤ 8796093022207 ∧
       0 ≤ V.sum - av * (V.length : Int) ∧ V.sum - av * (V.length : Int) < (V.length : Int) ∧ -40000000000000000 ≤ av * (V.length : Int) ∧ av * (V.length : Int) ≤ 40000000000000000)) := by
  have hb := sum_between V hV
  have hs : -36028797018963968 ≤ V.sum ∧ V.sum ≤ 36028797018963968 := by omega
  have hr : inR V.sum = true := inR_iff.2 (by omega)
  refine ⟨by simp [readV, hr], by simp [readV], hs.1, hs.2, ?_⟩
  cases V with
  | nil => exact .inl ⟨rfl, rfl, rfl, rfl, rfl, rfl⟩
  | cons x L =>
    refine .inr ⟨by simp, (x :: L).sum / ((x :: L).length : Int), hdV false (x :: L), hdV true (x :: L), ?_, ?_, ?_, ?_, ?_⟩
    · simp [readV]
    · simp [readV, bestV]
    · simp [readV, bestV]
    · have := top_rank x L
      simp [readV]
      exact this
    have hn2 : ((x :: L).length : Int) ≤ 4096 := by omega
    have hpos : (0 : Int) < ((x :: L).length : Int) := by simp
    have h1 := hdV_low L x
    have h2 := hdV_top L x
    have h3 := sum_between (lo := hdV false (x :: L)) (hi := hdV true (x :: L)) (x :: L) (fun z hz => ⟨h1 z hz, h2 z hz⟩)
    have h4 := hV _ (hdV_mem false L x)
    have h5 := hV _ (hdV_mem true L x)
    have h6 := Int.le_ediv_of_mul_le hpos h3.1
    have h7 := Int.ediv_le_of_le_mul hpos h3.2
    have h8 := Int.mul_ediv_add_emod (x :: L).sum ((x :: L).length : Int)
    have h9 := Int.emod_nonneg (x :: L).sum (Int.ne_of_gt hpos)
    have h10 := Int.emod_lt_of_pos (x :: L).sum hpos
    rw [Int.mul_comm] at h8
    generalize (x :: L).sum = S at *
    generalize ((x :: L).length : Int) = n at *
    generalize S / n = q at *
    generalize S % n = r at *
    generalize q * n = m at *
    refine ⟨h6, h7, h4.1, h5.2, ?_, ?_, ?_, ?_⟩ <;> omega
end Go.Proofs.Ytgfnlhigmncdmaa

end
section
namespace Go.Proofs.Ytgfnlhigmncdmaa
set_option linter.unusedVariables false
set_option linter.unusedSimpArgs false
open Go.RowKit Go.Proofs.YtgfnlhigmncdmaaW.PrintWords Go.Proofs.YtgfnlhigmncdmaaW.PrintLast Go.Proofs.YtgfnlhigmncdmaaW.PrintMore

def smCells : Int × Int → List Value := fun z => [.int .i64 z.1, .int .i64 z.2]
def smOk : World → Int × Int → Prop := fun _ z => R64 z.1 ∧ R64 z.2
theorem sm_opn : Opn Try.prog 38 smCells smOk := sample_opn
set_option maxRecDepth 100000 in
theorem sm_at {s : Sl (Int × Int)} {W : World} (hs : Sl.ok Try.prog 38 smCells smOk W s) {i : Nat} (hi : i < s.len) :
    ∃ a t v, s.at_ = some a ∧ (a.add (i * 2)).block < W.heap.size ∧ W.cell? (a.add (i * 2)) = some (.int .i64 t) ∧ W.cell? ⟨(a.add (i * 2)).block, (a.add (i * 2)).off + 1, none⟩ = some (.int .i64 v) ∧ R64 t ∧ R64 v := by
  obtain ⟨h1, h2, h3, h4, h5, h6⟩ := hs
  rcases h6 with ⟨_, h6⟩ | ⟨a, ha, hc⟩
  · omega
  have hl : i < s.all.length := by omega
  have hz := hc i _ (List.getElem?_eq_getElem hl)
  have ho := h5 _ (List.getElem_mem hl)
  have e : Try.prog.cellsOf 38 = 2 := by kernel_rfl
  rw [e] at hz
  have hb := World.cells?_block hz (by decide)
  refine ⟨a, s.all[i].1, s.all[i].2, ha, hb, ?_, ?_, ho.1, ho.2⟩
  · have := cells_get hz 0 _ rfl
    rw [Addr.add_add] at this
    exact this
  · have := cells_get hz 1 _ rfl
    rw [Addr.add_add] at this
    rw [← add_field _ _ 1 (by omega)]
    exact this
set_option maxRecDepth 100000 in
theorem sms_few {s : Sl (Int × Int)} {W : World} (hs : Sl.ok Try.prog 38 smCells smOk W s) : s.len ≤ 8796093022208 := by
  obtain ⟨h1, h2, h3, h4, h5, h6⟩ := hs
  have e : Try.prog.bytesOf 38 = 16 := by kernel_rfl
  have e2 : reachBytes = 140737488351232 := rfl
  rw [e, e2] at h4
  omega
/-- What a window holds: few, small, not behind the clock. -/
structure LOk (ck : Int) (L : List (Int × Int)) : Prop where
  few : L.length ≤ 4096
  each : ∀ y ∈ L, R64 y.1 ∧ y.1 ≤ ck ∧ -8796093022208 ≤ y.2 ∧ y.2 ≤ 8796093022207
theorem LOk.nil (ck : Int) : LOk ck [] := ⟨by simp, fun y hy => by cases hy⟩
theorem LOk.push {ck t x : Int} {L : List (Int × Int)} (h : LOk ck L) (ht : ck ≤ t) (h64 : R64 t) (h1 : -8796093022208 ≤ x) (h2 : x ≤ 8796093022207) : LOk t (pushP L (t, x)) := by
  obtain ⟨hf, he⟩ := h
  unfold pushP
  refine ⟨?_, fun y hy => ?_⟩
  · split
    · rw [List.length_append, List.length_tail]; simp; omega
    · rw [List.length_append]; simp; omega
  · rcases List.mem_append.1 hy with hy | hy
    · have hm : y ∈ L := by
        split at hy
        · exact List.mem_of_mem_tail hy
        · exact hy
      have := he y hm
      exact ⟨this.1, by omega, this.2.2⟩
    · simp at hy
      subst hy
      exact ⟨h64, Int.le_refl _, h1, h2⟩
theorem expP_sub (t span : Int) : ∀ (L : List (Int × Int)), (expP t span L).length ≤ L.length ∧ ∀ y ∈ expP t span L, y ∈ L
  | [] => by simp [expP]
  | s :: L => by
    have h := expP_sub t span L
    unfold expP
    split
    · exact ⟨Nat.le_refl _, fun y hy => hy⟩
    · exact ⟨by rw [List.length_cons]; omega, fun y hy => List.mem_cons_of_mem _ (h.2 y hy)⟩
theorem LOk.smp {ck t : Int} {L : List (Int × Int)} (h : LOk ck L) (ht : ck ≤ t) : ∀ y ∈ L, SmpOk t y := fun y hy => by
  have := h.each y hy
  refine ⟨this.1, ?_, by omega⟩
  unfold R64
  omega
theorem LOk.r64 {ck : Int} {L : List (Int × Int)} (h : LOk ck L) : ∀ y ∈ L, R64 y.2 := fun y hy => (h.smp (Int.le_refl _) y hy).2.1
/-- What is asked of it. -/
theorem LOk.vals {ck t span : Int} {L : List (Int × Int)} (h : LOk ck L) : (∀ z ∈ (expP t span L).map (·.2), -8796093022208 ≤ z ∧ z ≤ 8796093022207) ∧ ((expP t span L).map (·.2)).length ≤ 4096 := by
  have h1 := expP_sub t span L
  refine ⟨fun z hz => ?_, by rw [List.length_map]; have := h.few; omega⟩
  obtain ⟨y, hy, rfl⟩ := List.mem_map.1 hz
  exact (h.each y (h1.2 y hy)).2.2
/-- The first k windows have come to s2, the others to s. -/
def PartAt (k : Nat) (s s2 : Int × Bool × List (Int × Int) × Int) (xs : List Wn) : Prop := xs.length = 6 ∧ ∀ (j : Nat) (y : Wn), xs[j]? = some y → y.ta = (j : Int) + 1 ∧ y.tr = (if j = 5 then 100000000 else 0) ∧ y.st = (if j < k then s2 else s)
theorem part_young {xs : List Wn} (hl : xs.length = 6) (h : ∀ i x, xs[i]? = some x → Young i x) (s2 : Int × Bool × List (Int × Int) × Int) : PartAt 0 (0, false, [], 0) s2 xs :=
  ⟨hl, fun j y hy => ⟨(h j y hy).1, (h j y hy).2.1, by rw [if_neg (by omega)]; exact (h j y hy).2.2⟩⟩
theorem PartAt.next {s s2 s3 : Int × Bool × List (Int × Int) × Int} {xs : List Wn} (h : PartAt 6 s s2 xs) : PartAt 0 s2 s3 xs := by
  refine ⟨h.1, fun j y hy => ⟨(h.2 j y hy).1, (h.2 j y hy).2.1, ?_⟩⟩
  have hj := (List.getElem?_eq_some_iff.1 hy).1
  rw [if_neg (by omega)]
  have := (h.2 j y hy).2.2
  rwa [if_pos (by have := h.1; omega)] at this
theorem PartAt.step {k : Nat} {s s2 : Int × Bool × List (Int × Int) × Int} {xs : List Wn} {x : Wn} (h : PartAt k s s2 xs) (hx : xs[k]? = some x) : PartAt (k + 1) s s2 (xs.set k { x with st := s2 }) := by
  refine ⟨by rw [List.length_set]; exact h.1, fun j y hy => ?_⟩
  by_cases hj : j = k
  · subst hj
    rw [List.getElem?_set_self (List.getElem?_eq_some_iff.1 hx).1] at hy
    injection hy with hy
    subst hy
    exact ⟨(h.2 j x hx).1, (h.2 j x hx).2.1, by rw [if_pos (by omega)]⟩
  · rw [List.getElem?_set_ne (fun e => hj e.symm)] at hy
    have := h.2 j y hy
    refine ⟨this.1, this.2.1, ?_⟩
    rw [this.2.2]
    by_cases h1 : j < k
    · rw [if_pos h1, if_pos (by omega)]
    · rw [if_neg h1, if_neg (by omega)]
theorem PartAt.at {k : Nat} {s s2 : Int × Bool × List (Int × Int) × Int} {xs : List Wn} (h : PartAt k s s2 xs) (hk : k < 6) : ∃ x, xs[k]? = some x ∧ x.ta = (k : Int) + 1 ∧ x.tr = (if k = 5 then 100000000 else 0) ∧ x.st = s := by
  have hl : k < xs.length := by have := h.1; omega
  have := h.2 k _ (List.getElem?_eq_getElem hl)
  exact ⟨xs[k], List.getElem?_eq_getElem hl, this.1, this.2.1, by have h3 := this.2.2; rwa [if_neg (Nat.lt_irrefl k)] at h3⟩
theorem res_open {w : World} {x : Int × Int} {cs : List Value} (h : resK.K w x cs) : cs = [.int .i64 x.1, .int .i64 x.2] := by
  obtain ⟨c1, c2, rfl, rfl, rfl⟩ := h
  rfl
section
variable {W w w3 w' : World} {ts : Int} {xs : List Wn} {v vr v1 : Value} {rs : List (Int × Int)}
theorem Wins.ans {A : Option Addr} {n c : Nat} (h : Wins W w v ts xs (.slice A n c) rs) {j : Nat} {p : Int × Int} (hp : rs[j]? = some p) :
    ∃ ad, A = some ad ∧ n = rs.length ∧ w.cell? (ad.add (j * 2)) = some (.int .i64 p.1) ∧ w.cell? ⟨(ad.add (j * 2)).block, (ad.add (j * 2)).off + 1, none⟩ = some (.int .i64 p.2) := by
  obtain ⟨hn, -, hC⟩ := Kd.R_reads' h.res
  have hj := (List.getElem?_eq_some_iff.1 hp).1
  obtain ⟨ad, e, hc⟩ := hC.2.2 (by omega)
  obtain ⟨cs, hl, hR, hcell⟩ := hc j p hp
  obtain rfl := res_open hR
  exact ⟨ad, e, hn, hcell 0 _ rfl, by rw [← add_field _ _ 1 (by omega)]; exact hcell 1 _ rfl⟩
/-- A sample into the k-th window. -/
theorem wins_put {k : Nat} {t x ck N : Int} {bg : Bool} {L : List (Int × Int)} {s2 : Int × Bool × List (Int × Int) × Int} (h : Wins W w v ts xs vr rs) (hp : PartAt k (ck, bg, L, N) s2 xs) (hk : k < 6) (hs : s2 = (t, true, pushP L (t, x), N + 1)) (hL : LOk ck L) (hck : ck ≤ t) (hx : R64 x) (hN : N + 1 < 4611686018427387904) {g : Nat}
    (hg : ∃ y, xs[k]? = some y ∧ y.g = g) :
    Calls Try.prog 11 #[.pointer (some ⟨g, 0, none⟩), .agg #[.int .i64 t, .int .i64 x]] w fun e w' => e = .returned (.int .i64 0) ∧ ∃ xs2, PartAt (k + 1) (ck, bg, L, N) s2 xs2 ∧ Wins W w' v ts xs2 vr rs ∧ ∃ z, xs2[k]? = some z ∧ z.g = g := by
  obtain ⟨y, hy, rfl⟩ := hg
  obtain ⟨y2, hy2, -, -, hst⟩ := hp.at hk
  obtain rfl : y = y2 := by rw [hy] at hy2; injection hy2
  obtain ⟨F, hR, st⟩ := h.step hy
  have hR2 : RanL w w F y.g y.gr y.B y.O 0 y.ta ts y.tr ck bg L N := by have := hR; rw [Wn.R, hst] at this; exact this
  refine (win_put hR2 hx hL.r64 (fun _ => hck) hN).mono ?_
  rintro e w3 ⟨rfl, s3, r3⟩
  subst hs
  exact ⟨rfl, _, hp.step hy, st w3 _ r3, _, List.getElem?_set_self (List.getElem?_eq_some_iff.1 hy).1, rfl⟩
/-- The k-th window is asked. -/
theorem wins_read {k : Nat} {t ck N : Int} {bg : Bool} {L : List (Int × Int)} {s2 : Int × Bool × List (Int × Int) × Int} (h : Wins W w v ts xs vr rs) (hp : PartAt k (ck, bg, L, N) s2 xs) (hk : k < 6) (hs : s2 = (t, true, expP t ts L, N)) (hL : LOk ck L) (hck : ck ≤ t) (ht : R64 t) (hts : 1 ≤ ts ∧ ts ≤ 1000) {g : Nat}
    (hg : ∃ y, xs[k]? = some y ∧ y.g = g) {p : Int × Int} (hpv : p = readV ((k : Int) + 1) (if k = 5 then 100000000 else 0) ((expP t ts L).map (·.2))) :
    Calls Try.prog 13 #[.pointer (some ⟨g, 0, none⟩), .int .i64 t] w fun e w' => e = .returned (.tuple #[.agg #[.int .i64 p.1, .int .i64 p.2], .int .i64 0]) ∧ ∃ xs2, PartAt (k + 1) (ck, bg, L, N) s2 xs2 ∧ Wins W w' v ts xs2 vr rs := by
  obtain ⟨y, hy, rfl⟩ := hg
  obtain ⟨y2, hy2, hta, htr, hst⟩ := hp.at hk
  obtain rfl : y = y2 := by rw [hy] at hy2; injection hy2
  obtain ⟨F, hR, st⟩ := h.step hy
  have hR2 : RanL w w F y.g y.gr y.B y.O 0 y.ta ts y.tr ck bg L N := by have := hR; rw [Wn.R, hst] at this; exact this
  refine (win_read hR2 (hL.smp hck) ht hts.1 (by omega) ⟨by omega, by omega⟩ (fun h6 => by rw [htr, if_pos (by omega)]; omega) (fun _ => hck)).mono ?_
  rintro e w3 ⟨rfl, s3, r3⟩
  subst hs hpv
  rw [← hta, ← htr]
  exact ⟨rfl, _, hp.step hy, st w3 _ r3⟩
end
end Go.Proofs.Ytgfnlhigmncdmaa

end
section
namespace Go.Proofs.Ytgfnlhigmncdmaa
set_option linter.unusedVariables false
set_option linter.unusedSimpArgs false
open Go.RowKit Go.Proofs.YtgfnlhigmncdmaaW.PrintWords Go.Proofs.YtgfnlhigmncdmaaW.PrintLast Go.Proofs.YtgfnlhigmncdmaaW.PrintMore

theorem info_res : (Try.prog.info? 42).map (fun i => (i.zero, i.size, i.bytes)) = some (some (.agg #[.int .i64 0, .int .i64 0]), 2, 16) := by kernel_rfl
def rvAt (V : List Int) (k : Nat) : Int × Int := readV ((k : Int) + 1) (if k = 5 then 100000000 else 0) V
theorem six_ans (V : List Int) : ((List.range 6).map (rvAt V))[0]? = some (readV 1 0 V) ∧ ((List.range 6).map (rvAt V))[1]? = some (readV 2 0 V) ∧ ((List.range 6).map (rvAt V))[2]? = some (readV 3 0 V) ∧ ((List.range 6).map (rvAt V))[3]? = some (readV 4 0 V) ∧ ((List.range 6).map (rvAt V))[4]? = some (readV 5 0 V) ∧ ((List.range 6).map (rvAt V))[5]? = some (readV 6 100000000 V) :=
  ⟨rfl, rfl, rfl, rfl, rfl, rfl⟩
theorem shr20 {v : Int} (h : R64 v) : v.fdiv 1048576 = v / 1048576 ∧ -8796093022208 ≤ v / 1048576 ∧ v / 1048576 ≤ 8796093022207 := by
  unfold R64 at h
  exact ⟨Int.fdiv_eq_ediv_of_nonneg _ (by decide), by omega, by omega⟩
set_option maxHeartbeats 16000000 in
set_option maxRecDepth 100000 in
theorem WindowAgrees_sl (sp la : Int) (s : Sl (Int × Int)) (W : World) (hs : Sl.ok Try.prog 38 smCells smOk W s) (h1 : 0 ≤ sp ∧ sp ≤ 65535) (h2 : 0 ≤ la ∧ la ≤ 65535) :
    Calls Try.prog 4 #[.int .u16 sp, .slice s.at_ s.len s.cap, .int .u16 la] W fun e w' => e = .returned (.bool true) ∧ Below W.heap.size W w' := by
  have HP := Lib.hid fun i (hi : i < s.len) => sm_at hs hi
  have HF := Lib.hid (sms_few hs)
  clear hs
  obtain ⟨at_, len, cap, all⟩ := s
  simp only at HP HF ⊢
  obtain ⟨s0, hs0⟩ : ∃ s0, sp.tmod 1000 = s0 := ⟨_, rfl⟩
  obtain ⟨l0, hl0⟩ : ∃ l0, la.tmod 1000 = l0 := ⟨_, rfl⟩
  have HS := Lib.hid (show 0 ≤ s0 ∧ s0 < 1000 by have a := Int.tmod_nonneg 1000 h1.1; have b := Int.tmod_lt_of_pos sp (show (0 : Int) < 1000 by decide); omega)
  have HL0 := Lib.hid (show 0 ≤ l0 ∧ l0 < 1000 by have a := Int.tmod_nonneg 1000 h2.1; have b := Int.tmod_lt_of_pos la (show (0 : Int) < 1000 by decide); omega)
  obtain ⟨ts, hts⟩ : ∃ ts, s0 + 1 = ts := ⟨_, rfl⟩
  have HTS := Lib.hid (show 1 ≤ ts ∧ ts ≤ 1000 by have := HS.out; omega)
  have c1 : IntKind.i64.wrap s0 = s0 := by rw [i64_w]; have := HS.out; unfold wrap64; omega
  have c2 : IntKind.i64.wrap l0 = l0 := by rw [i64_w]; have := HL0.out; unfold wrap64; omega
  have c5 : wrap64 ts = ts := by have := HTS.out; unfold wrap64; omega
  have c3 : wrap64 (s0 + 1) = ts := by have := HS.out; unfold wrap64; omega
  have c4 : IntKind.i64.wrap (s0 + 1) = ts := by rw [i64_w]; exact c3
  have HC2 := Lib.hid (And.intro hl0 c2)
  clear h1 h2
  go_enter Try.func4, Try.ntmps4
  go_wp2_with fail
  refine (awake08 _).mono ?_
  rintro e w1 ⟨rfl, b1⟩
  have B1 := Lib.hid b1
  clear b1
  go_wp2_with fail
  refine (made_calls (ts := ts) HTS.out _).mono ?_
  rintro e w2 ⟨ad, c, xs, rfl, hl, hsh, hT⟩
  have HX := Lib.hid (And.intro hl hsh)
  have HT := Lib.hid hT
  clear hl hsh hT hs0 hl0 hts c1 c2 c3 c4 c5
  go_wp2
  go_loopg [8, 9] len (fun kq v8 v9 w' => ∃ (i : Nat) (t ck : Int) (bg : Bool) (L : List (Int × Int)) (xs : List Wn), v8 = .int .i64 t ∧ v9 = .int .i64 i ∧ Aside0 (i + kq = len) ∧ Aside0 (0 ≤ t ∧ t ≤ 100 * (i : Int) ∧ ck ≤ t) ∧ Aside0 (LOk ck L) ∧ Aside0 (∀ s2, PartAt 0 (ck, bg, L, (i : Int)) s2 xs) ∧ Aside0 (Wins w1 w' (.slice (some ad) 6 c) ts xs (.slice none 0 0) []))
  case atStart => exact ⟨0, 0, 0, false, [], xs, rfl, rfl, ⟨by omega⟩, ⟨by omega⟩, ⟨LOk.nil 0⟩, ⟨fun s2 => part_young HX.out.1 HX.out.2 s2⟩, ⟨HT.out⟩⟩
  case round =>
    clear HX HT
    obtain ⟨i, t, ck, bg, L, xs, rfl, rfl, hk, ht, hlo, hpa, hT⟩ := hrel
    have HKQ := Lib.hid hk.out
    have HTT := Lib.hid ht.out
    have HLO := Lib.hid hlo.out
    have HPA := Lib.hid hpa.out
    have T1 := Lib.hid hT.out
    clear hk ht hlo hpa hT
    obtain ⟨g1, hg1⟩ : ∃ g1, g1 = gk := ⟨_, rfl⟩
    by_cases hi : i < len
    · obtain ⟨a, tm, v, hat, hlt, r0, r1, q0, q1⟩ := HP.out i hi
      have Hi := Lib.hid hi
      have HBC := Lib.hid fun (w' : World) (hb : Below W.heap.size W w') => (show w'.cell? (a.add (i * 2)) = some (.int .i64 tm) ∧ w'.cell? ⟨(a.add (i * 2)).block, (a.add (i * 2)).off + 1, none⟩ = some (.int .i64 v) from
        ⟨(hb.cell (p := a.add (i * 2)) hlt).trans r0, (hb.cell (p := ⟨(a.add (i * 2)).block, (a.add (i * 2)).off + 1, none⟩) hlt).trans r1⟩)
      have HBW := Lib.hid fun (w' : World) (ys : List Wn) (T : Wins w1 w' (.slice (some ad) 6 c) ts ys (.slice none 0 0) []) => (B1.out.trans (T.fam.bel.mono B1.out.size))
      subst hat
      obtain ⟨hv1, hv2, hv3⟩ := shr20 q1
      obtain ⟨vv, hvv⟩ : ∃ vv, v / 1048576 = vv := ⟨_, rfl⟩
      rw [hvv] at hv1 hv2 hv3
      obtain ⟨mx, hmx⟩ : ∃ mx, max (tm.tmod 100) 0 = mx := ⟨_, rfl⟩
      have hmxr : 0 ≤ mx ∧ mx ≤ 99 := by have := Int.tmod_lt_of_pos tm (show (0 : Int) < 100 by decide); omega
      obtain ⟨t2, ht2⟩ : ∃ t2, t + mx = t2 := ⟨_, rfl⟩
      have HT2 := Lib.hid (show 0 ≤ t2 ∧ t2 ≤ 100 * ((i : Int) + 1) ∧ ck ≤ t2 ∧ t2 ≤ 1000000000000000 by have := HTT.out; have := HF.out; omega)
      have hw2 : wrap64 (t + mx) = t2 := by have := HT2.out; unfold wrap64; omega
      have hw4 : wrap64 t2 = t2 := by have := HT2.out; unfold wrap64; omega
      have hw3 : IntKind.i64.wrap (t + mx) = t2 := by rw [i64_w]; exact hw2
      have HVV := Lib.hid (And.intro hv2 hv3)
      have HV1 := Lib.hid (And.intro hv1 hvv)
      have e1 := eq_true (show (0 : Int) ≤ (i : Int) by omega)
      have e2 : ((i : Int) < (len : Int)) = True := eq_true (by omega)
      have e3 := eq_true hi
      obtain ⟨x0, -⟩ := HBC.out _ (HBW.out _ _ T1.out)
      clear hlt r0 r1 q0 q1 hv1 hv2 hv3 hvv hi ht2 hmxr
      go_wp2
      clear hmx hw2 hw3 hw4 x0
      go_loopg [10] 6 (fun kq v10 w' => ∃ (k : Nat) (ys : List Wn), v10 = .int .i64 k ∧ Aside0 (k + kq = 6) ∧ Aside0 (PartAt k (ck, bg, L, (i : Int)) (t2, true, pushP L (t2, vv), (i : Int) + 1) ys) ∧ Aside0 (Wins w1 w' (.slice (some ad) 6 c) ts ys (.slice none 0 0) []))
      case atStart => exact ⟨0, xs, rfl, ⟨by omega⟩, ⟨HPA.out _⟩, ⟨T1.out⟩⟩
      case round =>
        clear HPA T1
        obtain ⟨k, ys, rfl, hk, hpa, hT⟩ := hrel
        have HKK := Lib.hid hk.out
        have PA := Lib.hid hpa.out
        have T2 := Lib.hid hT.out
        clear hk hpa hT
        by_cases hk6 : k < 6
        · obtain ⟨y, hy, -, -, -⟩ := PA.out.at hk6
          obtain ⟨ad2, ea, -, hc⟩ := T2.out.cell rfl hy
          obtain rfl : ad = ad2 := by injection ea
          obtain ⟨g, hg⟩ : ∃ g, y.g = g := ⟨_, rfl⟩
          rw [hg] at hc
          have HY := Lib.hid (show ∃ y, ys[k]? = some y ∧ y.g = g from ⟨y, hy, hg⟩)
          have Hk := Lib.hid hk6
          have f1 := eq_true (show (0 : Int) ≤ (k : Int) by omega)
          have f2 : ((k : Int) < 6) = True := eq_true (by omega)
          have f3 := eq_true hk6
          obtain ⟨x0, x1⟩ := HBC.out _ (HBW.out _ _ T2.out)
          have hv1 := HV1.out.1
          have hvv := HV1.out.2
          have hwk : wrap64 ((k : Int) + 1) = ((k + 1 : Nat) : Int) := by have := Hk.out; unfold wrap64; omega
          clear ea hy hg hk6
          go_wp2
          go_region_held3 (fun w' => w'.cell? (ad.add k) = some (.pointer (some ⟨g, 0, none⟩)) ∧ w'.cell? ⟨(a.add (i * 2)).block, (a.add (i * 2)).off + 1, none⟩ = some (.int .i64 v)) (first | exact ⟨hc, x1⟩ | exact ⟨hc3, x3⟩ | (simp [go_sem, hc, x1]; done)) (first
            | (go_at_call 11; refine (wins_put (T2.out.below (Below.refl wr.heap.size wr).drew) PA.out Hk.out rfl HLO.out HT2.out.2.2.1 (by have := HVV.out; unfold R64; omega) (by have := HF.out; have := Hi.out; omega) HY.out).mono ?_; rintro e w7 ⟨rfl, zs, p3, t3, z, hz, hzg⟩; have P3 := Lib.hid p3; have T3 := Lib.hid t3; obtain ⟨-, x3⟩ := HBC.out _ (HBW.out _ _ t3); obtain ⟨ad3, ea3, -, hc3⟩ := t3.cell rfl hz; obtain rfl : ad = ad3 := (by injection ea3); rw [hzg] at hc3; clear p3 t3 ea3 hz hzg))
          all_goals
            go_wp2
            go_roundg (gk - 1)
            case measure => have := HKK.out; have := Hk.out; omega
            case rel => exact ⟨k + 1, zs, by first | rfl | simp [hwk], ⟨by have := HKK.out; have := Hk.out; omega⟩, ⟨P3.out⟩, ⟨T3.out⟩⟩
        · obtain rfl : k = 6 := by have := HKK.out; omega
          have hwi : wrap64 ((i : Int) + 1) = ((i + 1 : Nat) : Int) := by have := HF.out; have := Hi.out; unfold wrap64; omega
          clear hk6
          go_wp2
          go_roundg (g1 - 1)
          case measure => have := HKQ.out; have := Hi.out; omega
          case rel => exact ⟨i + 1, t2, t2, true, pushP L (t2, vv), ys, rfl, by first | rfl | simp [hwi], ⟨by have := HKQ.out; have := Hi.out; omega⟩, ⟨by have := HT2.out; omega⟩, ⟨HLO.out.push HT2.out.2.2.1 (by have := HT2.out; unfold R64; omega) HVV.out.1 HVV.out.2⟩, ⟨fun s2 => by first | exact PA.out.next | (rw [Int.natCast_add, Int.natCast_one]; exact PA.out.next)⟩, ⟨T2.out⟩⟩
    · have e1 : ((i : Int) < (len : Int)) = False := eq_false (by omega)
      have e2 := eq_false hi
      have hil : i = len := by have := HKQ.out; omega
      obtain ⟨hl0, c2⟩ := HC2.out
      obtain ⟨t2, ht2⟩ : ∃ t2, t + l0 = t2 := ⟨_, rfl⟩
      have HT2 := Lib.hid (show 0 ≤ t2 ∧ ck ≤ t2 ∧ t2 ≤ 1000000000000000 by have := HTT.out; have := HF.out; have := HL0.out; omega)
      have hw2 : wrap64 (t + l0) = t2 := by have := HT2.out; unfold wrap64; omega
      have hw4 : wrap64 t2 = t2 := by have := HT2.out; unfold wrap64; omega
      have hw3 : IntKind.i64.wrap (t + l0) = t2 := by rw [i64_w]; exact hw2
      obtain ⟨V, hV⟩ : ∃ V, (expP t2 ts L).map (·.2) = V := ⟨_, rfl⟩
      have HVD := Lib.hid (show (∀ z ∈ V, -8796093022208 ≤ z ∧ z ≤ 8796093022207) ∧ V.length ≤ 4096 by rw [← hV]; exact HLO.out.vals)
      have HV := Lib.hid hV
      clear hi hil ht2 hV
      go_wp2
      go_loopg [11, 12] 6 (fun kq v11 v12 w' => ∃ (k : Nat) (A : Option Addr) (cr : Nat) (ys : List Wn), v11 = .slice A k cr ∧ v12 = .int .i64 k ∧ Aside0 (k + kq = 6) ∧ Aside0 (PartAt k (ck, bg, L, (i : Int)) (t2, true, expP t2 ts L, (i : Int)) ys) ∧ Aside0 (Wins w1 w' (.slice (some ad) 6 c) ts ys (.slice A k cr) ((List.range k).map (rvAt V))))
      case atStart => exact ⟨0, none, 0, xs, rfl, rfl, ⟨by omega⟩, ⟨HPA.out _⟩, ⟨T1.out⟩⟩
      case round =>
        clear HPA T1
        obtain ⟨k, A, cr, ys, rfl, rfl, hk, hpa, hT⟩ := hrel
        have HKK := Lib.hid hk.out
        have PA := Lib.hid hpa.out
        have T2 := Lib.hid hT.out
        clear hk hpa hT
        by_cases hk6 : k < 6
        · obtain ⟨y, hy, -, -, -⟩ := PA.out.at hk6
          obtain ⟨ad2, ea, -, hc⟩ := T2.out.cell rfl hy
          obtain rfl : ad = ad2 := by injection ea
          obtain ⟨g, hg⟩ : ∃ g, y.g = g := ⟨_, rfl⟩
          rw [hg] at hc
          have HY := Lib.hid (show ∃ y, ys[k]? = some y ∧ y.g = g from ⟨y, hy, hg⟩)
          have Hk := Lib.hid hk6
          have f1 := eq_true (show (0 : Int) ≤ (k : Int) by omega)
          have f2 : ((k : Int) < 6) = True := eq_true (by omega)
          have f3 := eq_true hk6
          have hwk : wrap64 ((k : Int) + 1) = ((k + 1 : Nat) : Int) := by have := Hk.out; unfold wrap64; omega
          obtain ⟨p, hp⟩ : ∃ p, rvAt V k = p := ⟨_, rfl⟩
          have HPP := Lib.hid hp
          clear ea hy hg hk6 hp
          go_wp2_with fail
          refine (wins_read T2.out PA.out Hk.out rfl HLO.out HT2.out.2.1 (by have := HT2.out; unfold R64; omega) HTS.out HY.out (p := p) (by rw [← HPP.out, HV.out]; rfl)).mono ?_
          rintro e w7 ⟨rfl, zs, p3, t3⟩
          obtain ⟨r0, r1⟩ := p
          obtain ⟨w8, hw8⟩ : ∃ w8, w7.alloc (.cells #[.int .i64 r0, .int .i64 r1] 42) = w8 := ⟨_, rfl⟩
          obtain ⟨b13, hb13⟩ : ∃ b13, w7.heap.size = b13 := ⟨_, rfl⟩
          have b8 : Below w7.heap.size w7 w8 := by subst hw8; exact below_alloc (Below.refl _ _) _
          have k8 : w8.heap[b13]? = some (.cells #[.int .i64 r0, .int .i64 r1] 42 (0, 0)) := by subst hw8 hb13; exact blk_new _ _
          have x0 := (blk_cell k8 0).trans rfl
          have x1 := (blk_cell k8 1).trans rfl
          have P3 := Lib.hid p3
          have T3 := Lib.hid (t3.below b8)
          have HR := Lib.hid (Kd.R_mono (ok' := fun _ => True) T3.out.res (fun _ _ => trivial))
          have HLN := Lib.hid (show ((List.range k).map (rvAt V)).length = k by rw [List.length_map, List.length_range])
          clear p3 t3 hc b8 k8
          go_wp2_with (first | ((with_reducible refine gate_builtin (b := .append) (xs := #[.tmp 87, .tmp 89]) rfl ?_); at_builtin; refine Kd.R_append resK (w0 := w8) 0 rfl (.tmp 87) (.tmp 89) 49 42 (.agg #[.int .i64 0, .int .i64 0]) 16 rfl Try.underlying49 info_res rfl (by decide) (by decide) (.slice A k cr) ((List.range k).map (rvAt V)) (r0, r1) [.int .i64 r0, .int .i64 r1] (fun _ => True) (fun _ => False) (by rfl) (by rfl) ?aP (fun _ hk => hk.elim) (fun k hk => trivial) HR.out (Below.refl 0 w8) (Nat.zero_le _) ?aL ?_; (case aP => exact ⟨[.int .i64 r0], [.int .i64 r1], rfl, rfl, rfl⟩); (case aL => have := HLN.out; have := Hk.out; omega); intro v108 w9 ho hb9 hg9 hat; obtain ⟨A9, c9, e9⟩ := Kd.R_slice ho; have e9 : v108 = .slice A9 (k + 1) c9 := (by rw [e9, List.length_append, HLN.out]; rfl); subst e9; have P9 := Lib.hid (T3.out.told ho hb9 hg9 hat); clear ho hb9 hg9 hat))
          go_roundg (gk - 1)
          case measure => have := HKK.out; have := Hk.out; omega
          case rel => exact ⟨k + 1, A9, c9, zs, by first | rfl | simp, by first | rfl | simp [hwk], ⟨by have := HKK.out; have := Hk.out; omega⟩, ⟨P3.out⟩, ⟨by rw [List.range_succ, List.map_append, List.map_cons, List.map_nil, HPP.out]; exact P9.out⟩⟩
        · obtain rfl : k = 6 := by have := HKK.out; omega
          obtain ⟨s1, s2, s3, s4, s5, s6⟩ := six_ans V
          obtain ⟨v1, v5, hS1, hS2, hor⟩ := agree_vals V HVD.out.1 HVD.out.2
          obtain ⟨ar, hA, -, y0, y1⟩ := T2.out.ans s1
          obtain ⟨ar2, ha2, -, y2, y3⟩ := T2.out.ans s2
          obtain ⟨ar3, ha3, -, y4, y5⟩ := T2.out.ans s3
          obtain ⟨ar4, ha4, -, y6, y7⟩ := T2.out.ans s4
          obtain ⟨ar5, ha5, -, y8, y9⟩ := T2.out.ans s5
          obtain ⟨ar6, ha6, -, y10, y11⟩ := T2.out.ans s6
          subst hA
          obtain rfl : ar = ar2 := by injection ha2
          obtain rfl : ar = ar3 := by injection ha3
          obtain rfl : ar = ar4 := by injection ha4
          obtain rfl : ar = ar5 := by injection ha5
          obtain rfl : ar = ar6 := by injection ha6
          clear ha2 ha3 ha4 ha5 ha6 s1 s2 s3 s4 s5 s6 hk6
          have BW := Lib.hid (B1.out.trans (T2.out.fam.bel.mono B1.out.size))
          go_wp2_with fail
          have hall : (wr.cell? ar = some (.int .i64 (readV 1 0 V).1) ∧ wr.cell? ⟨ar.block, ar.off + 1, none⟩ = some (.int .i64 (readV 1 0 V).2) ∧ wr.cell? ⟨ar.block, ar.off + 2, none⟩ = some (.int .i64 (readV 2 0 V).1) ∧ wr.cell? ⟨ar.block, ar.off + 2 + 1, none⟩ = some (.int .i64 (readV 2 0 V).2) ∧ wr.cell? ⟨ar.block, ar.off + 4, none⟩ = some (.int .i64 (readV 3 0 V).1) ∧ wr.cell? ⟨ar.block, ar.off + 4 + 1, none⟩ = some (.int .i64 (readV 3 0 V).2) ∧ wr.cell? ⟨ar.block, ar.off + 6, none⟩ = some (.int .i64 (readV 4 0 V).1) ∧ wr.cell? ⟨ar.block, ar.off + 6 + 1, none⟩ = some (.int .i64 (readV 4 0 V).2) ∧ wr.cell? ⟨ar.block, ar.off + 8, none⟩ = some (.int .i64 (readV 5 0 V).1) ∧ wr.cell? ⟨ar.block, ar.off + 8 + 1, none⟩ = some (.int .i64 (readV 5 0 V).2) ∧ wr.cell? ⟨ar.block, ar.off + 10, none⟩ = some (.int .i64 (readV 6 100000000 V).1) ∧ wr.cell? ⟨ar.block, ar.off + 10 + 1, none⟩ = some (.int .i64 (readV 6 100000000 V).2)) := ⟨y0, y1, y2, y3, y4, y5, y6, y7, y8, y9, y10, y11⟩
          obtain ⟨z0, z1, z2, z3, z4, z5, z6, z7, z8, z9, z10, z11⟩ := hall
          clear y0 y1 y2 y3 y4 y5 y6 y7 y8 y9 y10 y11
          have hlt : ar.block < wr.heap.size := World.block_lt_of_cell? wr ar z0
          have HB12 := Lib.hid fun (w' : World) (hb : Below wr.heap.size wr w') => (show w'.cell? ar = some (.int .i64 (readV 1 0 V).1) ∧ w'.cell? ⟨ar.block, ar.off + 1, none⟩ = some (.int .i64 (readV 1 0 V).2) ∧ w'.cell? ⟨ar.block, ar.off + 2, none⟩ = some (.int .i64 (readV 2 0 V).1) ∧ w'.cell? ⟨ar.block, ar.off + 2 + 1, none⟩ = some (.int .i64 (readV 2 0 V).2) ∧ w'.cell? ⟨ar.block, ar.off + 4, none⟩ = some (.int .i64 (readV 3 0 V).1) ∧ w'.cell? ⟨ar.block, ar.off + 4 + 1, none⟩ = some (.int .i64 (readV 3 0 V).2) ∧ w'.cell? ⟨ar.block, ar.off + 6, none⟩ = some (.int .i64 (readV 4 0 V).1) ∧ w'.cell? ⟨ar.block, ar.off + 6 + 1, none⟩ = some (.int .i64 (readV 4 0 V).2) ∧ w'.cell? ⟨ar.block, ar.off + 8, none⟩ = some (.int .i64 (readV 5 0 V).1) ∧ w'.cell? ⟨ar.block, ar.off + 8 + 1, none⟩ = some (.int .i64 (readV 5 0 V).2) ∧ w'.cell? ⟨ar.block, ar.off + 10, none⟩ = some (.int .i64 (readV 6 100000000 V).1) ∧ w'.cell? ⟨ar.block, ar.off + 10 + 1, none⟩ = some (.int .i64 (readV 6 100000000 V).2) from ⟨(hb.cell (p := ar) hlt).trans z0, (hb.cell (p := ⟨ar.block, ar.off + 1, none⟩) hlt).trans z1, (hb.cell (p := ⟨ar.block, ar.off + 2, none⟩) hlt).trans z2, (hb.cell (p := ⟨ar.block, ar.off + 2 + 1, none⟩) hlt).trans z3, (hb.cell (p := ⟨ar.block, ar.off + 4, none⟩) hlt).trans z4, (hb.cell (p := ⟨ar.block, ar.off + 4 + 1, none⟩) hlt).trans z5, (hb.cell (p := ⟨ar.block, ar.off + 6, none⟩) hlt).trans z6, (hb.cell (p := ⟨ar.block, ar.off + 6 + 1, none⟩) hlt).trans z7, (hb.cell (p := ⟨ar.block, ar.off + 8, none⟩) hlt).trans z8, (hb.cell (p := ⟨ar.block, ar.off + 8 + 1, none⟩) hlt).trans z9, (hb.cell (p := ⟨ar.block, ar.off + 10, none⟩) hlt).trans z10, (hb.cell (p := ⟨ar.block, ar.off + 10 + 1, none⟩) hlt).trans z11⟩)
          clear z0 z1 z2 z3 z4 z5 z6 z7 z8 z9 z10 z11
          refine wp_region_held_drew (S := fun w' => Aside0 (Below wr.heap.size wr w')) (by kernel_rfl) ?_ (fun hHeld => ?_)
          · exact ⟨(Below.refl _ _).drew⟩
          refine' wpAnyH_take (i := 0) (oi := ?oi_q0) (v := ?vv_q0) ?hi_q0 ?hs_q0 ?hf_q0 ?hr_q0 ?hq_q0 ?hy_q0 ?hS_q0 ?hZ_q0
          case hi_q0 => (simp only [List.getElem?_toArray, List.getElem?_cons_succ, List.getElem?_cons_zero]; rfl)
          case hq_q0 => exact fun _ _ _ h => h
          case hs_q0 => kernel_rfl
          case hS_q0 => assumption
          case hf_q0 => kernel_rfl
          case hr_q0 => kernel_rfl
          case hy_q0 => (refine Or.inl ⟨by rfl, ?_⟩; intro w hSw; obtain ⟨z0, z1, z2, z3, z4, z5, z6, z7, z8, z9, z10, z11⟩ := HB12.out w hSw.out; go_simp; (try with_reducible rfl))
          try simp only [Act.put, List.setIfInBounds_toArray, List.set_cons_zero, List.set_cons_succ]
          refine' wpAnyH_take (i := 1) (oi := ?oi_q1) (v := ?vv_q1) ?hi_q1 ?hs_q1 ?hf_q1 ?hr_q1 ?hq_q1 ?hy_q1 ?hS_q1 ?hZ_q1
          case hi_q1 => (simp only [List.getElem?_toArray, List.getElem?_cons_succ, List.getElem?_cons_zero]; rfl)
          case hq_q1 => exact fun _ _ _ h => h
          case hs_q1 => kernel_rfl
          case hS_q1 => assumption
          case hf_q1 => kernel_rfl
          case hr_q1 => kernel_rfl
          case hy_q1 => (refine Or.inl ⟨by rfl, ?_⟩; intro w hSw; obtain ⟨z0, z1, z2, z3, z4, z5, z6, z7, z8, z9, z10, z11⟩ := HB12.out w hSw.out; go_simp; (try with_reducible rfl))
          try simp only [Act.put, List.setIfInBounds_toArray, List.set_cons_zero, List.set_cons_succ]
          refine' wpAnyH_take (i := 2) (oi := ?oi_q2) (v := ?vv_q2) ?hi_q2 ?hs_q2 ?hf_q2 ?hr_q2 ?hq_q2 ?hy_q2 ?hS_q2 ?hZ_q2
          case hi_q2 => (simp only [List.getElem?_toArray, List.getElem?_cons_succ, List.getElem?_cons_zero]; rfl)
          case hq_q2 => exact fun _ _ _ h => h
          case hs_q2 => kernel_rfl
          case hS_q2 => assumption
          case hf_q2 => kernel_rfl
          case hr_q2 => kernel_rfl
          case hy_q2 => (refine Or.inl ⟨by rfl, ?_⟩; intro w hSw; obtain ⟨z0, z1, z2, z3, z4, z5, z6, z7, z8, z9, z10, z11⟩ := HB12.out w hSw.out; go_simp; (try with_reducible rfl))
          try simp only [Act.put, List.setIfInBounds_toArray, List.set_cons_zero, List.set_cons_succ]
          refine' wpAnyH_take (i := 3) (oi := ?oi_q3) (v := ?vv_q3) ?hi_q3 ?hs_q3 ?hf_q3 ?hr_q3 ?hq_q3 ?hy_q3 ?hS_q3 ?hZ_q3
          case hi_q3 => (simp only [List.getElem?_toArray, List.getElem?_cons_succ, List.getElem?_cons_zero]; rfl)
          case hq_q3 => exact fun _ _ _ h => h
          case hs_q3 => kernel_rfl
          case hS_q3 => assumption
          case hf_q3 => kernel_rfl
          case hr_q3 => kernel_rfl
          case hy_q3 => (refine Or.inl ⟨by rfl, ?_⟩; intro w hSw; obtain ⟨z0, z1, z2, z3, z4, z5, z6, z7, z8, z9, z10, z11⟩ := HB12.out w hSw.out; go_simp; (try with_reducible rfl))
          try simp only [Act.put, List.setIfInBounds_toArray, List.set_cons_zero, List.set_cons_succ]
          refine' wpAnyH_take (i := 4) (oi := ?oi_q4) (v := ?vv_q4) ?hi_q4 ?hs_q4 ?hf_q4 ?hr_q4 ?hq_q4 ?hy_q4 ?hS_q4 ?hZ_q4
          case hi_q4 => (simp only [List.getElem?_toArray, List.getElem?_cons_succ, List.getElem?_cons_zero]; rfl)
          case hq_q4 => exact fun _ _ _ h => h
          case hs_q4 => kernel_rfl
          case hS_q4 => assumption
          case hf_q4 => kernel_rfl
          case hr_q4 => kernel_rfl
          case hy_q4 => (refine Or.inl ⟨by rfl, ?_⟩; intro w hSw; obtain ⟨z0, z1, z2, z3, z4, z5, z6, z7, z8, z9, z10, z11⟩ := HB12.out w hSw.out; go_simp; (try with_reducible rfl))
          try simp only [Act.put, List.setIfInBounds_toArray, List.set_cons_zero, List.set_cons_succ]
          refine' wpAnyH_take (i := 5) (oi := ?oi_q5) (v := ?vv_q5) ?hi_q5 ?hs_q5 ?hf_q5 ?hr_q5 ?hq_q5 ?hy_q5 ?hS_q5 ?hZ_q5
          case hi_q5 => (simp only [List.getElem?_toArray, List.getElem?_cons_succ, List.getElem?_cons_zero]; rfl)
          case hq_q5 => exact fun _ _ _ h => h
          case hs_q5 => kernel_rfl
          case hS_q5 => assumption
          case hf_q5 => kernel_rfl
          case hr_q5 => kernel_rfl
          case hy_q5 => (refine Or.inl ⟨by rfl, ?_⟩; intro w hSw; obtain ⟨z0, z1, z2, z3, z4, z5, z6, z7, z8, z9, z10, z11⟩ := HB12.out w hSw.out; go_simp; (try with_reducible rfl))
          try simp only [Act.put, List.setIfInBounds_toArray, List.set_cons_zero, List.set_cons_succ]
          refine' wpAnyH_take (i := 6) (oi := ?oi_q6) (v := ?vv_q6) ?hi_q6 ?hs_q6 ?hf_q6 ?hr_q6 ?hq_q6 ?hy_q6 ?hS_q6 ?hZ_q6
          case hi_q6 => (simp only [List.getElem?_toArray, List.getElem?_cons_succ, List.getElem?_cons_zero]; rfl)
          case hq_q6 => exact fun _ _ _ h => h
          case hs_q6 => kernel_rfl
          case hS_q6 => assumption
          case hf_q6 => kernel_rfl
          case hr_q6 => kernel_rfl
          case hy_q6 => (refine Or.inl ⟨by rfl, ?_⟩; intro w hSw; obtain ⟨z0, z1, z2, z3, z4, z5, z6, z7, z8, z9, z10, z11⟩ := HB12.out w hSw.out; go_simp; (try with_reducible rfl))
          try simp only [Act.put, List.setIfInBounds_toArray, List.set_cons_zero, List.set_cons_succ]
          refine' wpAnyH_take (i := 7) (oi := ?oi_q7) (v := ?vv_q7) ?hi_q7 ?hs_q7 ?hf_q7 ?hr_q7 ?hq_q7 ?hy_q7 ?hS_q7 ?hZ_q7
          case hi_q7 => (simp only [List.getElem?_toArray, List.getElem?_cons_succ, List.getElem?_cons_zero]; rfl)
          case hq_q7 => exact fun _ _ _ h => h
          case hs_q7 => kernel_rfl
          case hS_q7 => assumption
          case hf_q7 => kernel_rfl
          case hr_q7 => kernel_rfl
          case hy_q7 => (refine Or.inl ⟨by rfl, ?_⟩; intro w hSw; obtain ⟨z0, z1, z2, z3, z4, z5, z6, z7, z8, z9, z10, z11⟩ := HB12.out w hSw.out; go_simp; (try with_reducible rfl))
          try simp only [Act.put, List.setIfInBounds_toArray, List.set_cons_zero, List.set_cons_succ]
          refine' wpAnyH_take (i := 8) (oi := ?oi_q8) (v := ?vv_q8) ?hi_q8 ?hs_q8 ?hf_q8 ?hr_q8 ?hq_q8 ?hy_q8 ?hS_q8 ?hZ_q8
          case hi_q8 => (simp only [List.getElem?_toArray, List.getElem?_cons_succ, List.getElem?_cons_zero]; rfl)
          case hq_q8 => exact fun _ _ _ h => h
          case hs_q8 => kernel_rfl
          case hS_q8 => assumption
          case hf_q8 => kernel_rfl
          case hr_q8 => kernel_rfl
          case hy_q8 => (refine Or.inl ⟨by rfl, ?_⟩; intro w hSw; obtain ⟨z0, z1, z2, z3, z4, z5, z6, z7, z8, z9, z10, z11⟩ := HB12.out w hSw.out; go_simp; (try with_reducible rfl))
          try simp only [Act.put, List.setIfInBounds_toArray, List.set_cons_zero, List.set_cons_succ]
          refine' wpAnyH_take (i := 9) (oi := ?oi_q9) (v := ?vv_q9) ?hi_q9 ?hs_q9 ?hf_q9 ?hr_q9 ?hq_q9 ?hy_q9 ?hS_q9 ?hZ_q9
          case hi_q9 => (simp only [List.getElem?_toArray, List.getElem?_cons_succ, List.getElem?_cons_zero]; rfl)
          case hq_q9 => exact fun _ _ _ h => h
          case hs_q9 => kernel_rfl
          case hS_q9 => assumption
          case hf_q9 => kernel_rfl
          case hr_q9 => kernel_rfl
          case hy_q9 => (refine Or.inl ⟨by rfl, ?_⟩; intro w hSw; obtain ⟨z0, z1, z2, z3, z4, z5, z6, z7, z8, z9, z10, z11⟩ := HB12.out w hSw.out; go_simp; (try with_reducible rfl))
          try simp only [Act.put, List.setIfInBounds_toArray, List.set_cons_zero, List.set_cons_succ]
          refine' wpAnyH_take (i := 10) (oi := ?oi_q10) (v := ?vv_q10) ?hi_q10 ?hs_q10 ?hf_q10 ?hr_q10 ?hq_q10 ?hy_q10 ?hS_q10 ?hZ_q10
          case hi_q10 => (simp only [List.getElem?_toArray, List.getElem?_cons_succ, List.getElem?_cons_zero]; rfl)
          case hq_q10 => exact fun _ _ _ h => h
          case hs_q10 => kernel_rfl
          case hS_q10 => assumption
          case hf_q10 => kernel_rfl
          case hr_q10 => kernel_rfl
          case hy_q10 => (refine Or.inl ⟨by rfl, ?_⟩; intro w hSw; obtain ⟨z0, z1, z2, z3, z4, z5, z6, z7, z8, z9, z10, z11⟩ := HB12.out w hSw.out; go_simp; (try with_reducible rfl))
          try simp only [Act.put, List.setIfInBounds_toArray, List.set_cons_zero, List.set_cons_succ]
          refine' wpAnyH_take (i := 11) (oi := ?oi_q11) (v := ?vv_q11) ?hi_q11 ?hs_q11 ?hf_q11 ?hr_q11 ?hq_q11 ?hy_q11 ?hS_q11 ?hZ_q11
          case hi_q11 => (simp only [List.getElem?_toArray, List.getElem?_cons_succ, List.getElem?_cons_zero]; rfl)
          case hq_q11 => exact fun _ _ _ h => h
          case hs_q11 => kernel_rfl
          case hS_q11 => assumption
          case hf_q11 => kernel_rfl
          case hr_q11 => kernel_rfl
          case hy_q11 => (refine Or.inl ⟨by rfl, ?_⟩; intro w hSw; obtain ⟨z0, z1, z2, z3, z4, z5, z6, z7, z8, z9, z10, z11⟩ := HB12.out w hSw.out; go_simp; (try with_reducible rfl))
          try simp only [Act.put, List.setIfInBounds_toArray, List.set_cons_zero, List.set_cons_succ]
          refine' wpAnyH_take (i := 12) (oi := ?oi_q12) (v := ?vv_q12) ?hi_q12 ?hs_q12 ?hf_q12 ?hr_q12 ?hq_q12 ?hy_q12 ?hS_q12 ?hZ_q12
          case hi_q12 => (simp only [List.getElem?_toArray, List.getElem?_cons_succ, List.getElem?_cons_zero]; rfl)
          case hq_q12 => exact fun _ _ _ h => h
          case hs_q12 => kernel_rfl
          case hS_q12 => assumption
          case hf_q12 => kernel_rfl
          case hr_q12 => kernel_rfl
          case hy_q12 => (refine Or.inl ⟨by rfl, ?_⟩; intro w hSw; obtain ⟨z0, z1, z2, z3, z4, z5, z6, z7, z8, z9, z10, z11⟩ := HB12.out w hSw.out; go_simp; (try with_reducible rfl))
          try simp only [Act.put, List.setIfInBounds_toArray, List.set_cons_zero, List.set_cons_succ]
          refine' wpAnyH_take (i := 13) (oi := ?oi_q13) (v := ?vv_q13) ?hi_q13 ?hs_q13 ?hf_q13 ?hr_q13 ?hq_q13 ?hy_q13 ?hS_q13 ?hZ_q13
          case hi_q13 => (simp only [List.getElem?_toArray, List.getElem?_cons_succ, List.getElem?_cons_zero]; rfl)
          case hq_q13 => exact fun _ _ _ h => h
          case hs_q13 => kernel_rfl
          case hS_q13 => assumption
          case hf_q13 => kernel_rfl
          case hr_q13 => kernel_rfl
          case hy_q13 => (refine Or.inl ⟨by rfl, ?_⟩; intro w hSw; obtain ⟨z0, z1, z2, z3, z4, z5, z6, z7, z8, z9, z10, z11⟩ := HB12.out w hSw.out; go_simp; (try with_reducible rfl))
          try simp only [Act.put, List.setIfInBounds_toArray, List.set_cons_zero, List.set_cons_succ]
          refine' wpAnyH_take (i := 14) (oi := ?oi_q14) (v := ?vv_q14) ?hi_q14 ?hs_q14 ?hf_q14 ?hr_q14 ?hq_q14 ?hy_q14 ?hS_q14 ?hZ_q14
          case hi_q14 => (simp only [List.getElem?_toArray, List.getElem?_cons_succ, List.getElem?_cons_zero]; rfl)
          case hq_q14 => exact fun _ _ _ h => h
          case hs_q14 => kernel_rfl
          case hS_q14 => assumption
          case hf_q14 => kernel_rfl
          case hr_q14 => kernel_rfl
          case hy_q14 => (refine Or.inl ⟨by rfl, ?_⟩; intro w hSw; obtain ⟨z0, z1, z2, z3, z4, z5, z6, z7, z8, z9, z10, z11⟩ := HB12.out w hSw.out; go_simp; (try with_reducible rfl))
          try simp only [Act.put, List.setIfInBounds_toArray, List.set_cons_zero, List.set_cons_succ]
          refine' wpAnyH_take (i := 15) (oi := ?oi_q15) (v := ?vv_q15) ?hi_q15 ?hs_q15 ?hf_q15 ?hr_q15 ?hq_q15 ?hy_q15 ?hS_q15 ?hZ_q15
          case hi_q15 => (simp only [List.getElem?_toArray, List.getElem?_cons_succ, List.getElem?_cons_zero]; rfl)
          case hq_q15 => exact fun _ _ _ h => h
          case hs_q15 => kernel_rfl
          case hS_q15 => assumption
          case hf_q15 => kernel_rfl
          case hr_q15 => kernel_rfl
          case hy_q15 => (refine Or.inl ⟨by rfl, ?_⟩; intro w hSw; obtain ⟨z0, z1, z2, z3, z4, z5, z6, z7, z8, z9, z10, z11⟩ := HB12.out w hSw.out; go_simp; (try with_reducible rfl))
          try simp only [Act.put, List.setIfInBounds_toArray, List.set_cons_zero, List.set_cons_succ]
          refine' wpAnyH_take (i := 16) (oi := ?oi_q16) (v := ?vv_q16) ?hi_q16 ?hs_q16 ?hf_q16 ?hr_q16 ?hq_q16 ?hy_q16 ?hS_q16 ?hZ_q16
          case hi_q16 => (simp only [List.getElem?_toArray, List.getElem?_cons_succ, List.getElem?_cons_zero]; rfl)
          case hq_q16 => exact fun _ _ _ h => h
          case hs_q16 => kernel_rfl
          case hS_q16 => assumption
          case hf_q16 => kernel_rfl
          case hr_q16 => kernel_rfl
          case hy_q16 => (refine Or.inl ⟨by rfl, ?_⟩; intro w hSw; obtain ⟨z0, z1, z2, z3, z4, z5, z6, z7, z8, z9, z10, z11⟩ := HB12.out w hSw.out; go_simp; (try with_reducible rfl))
          try simp only [Act.put, List.setIfInBounds_toArray, List.set_cons_zero, List.set_cons_succ]
          refine' wpAnyH_take (i := 17) (oi := ?oi_q17) (v := ?vv_q17) ?hi_q17 ?hs_q17 ?hf_q17 ?hr_q17 ?hq_q17 ?hy_q17 ?hS_q17 ?hZ_q17
          case hi_q17 => (simp only [List.getElem?_toArray, List.getElem?_cons_succ, List.getElem?_cons_zero]; rfl)
          case hq_q17 => exact fun _ _ _ h => h
          case hs_q17 => kernel_rfl
          case hS_q17 => assumption
          case hf_q17 => kernel_rfl
          case hr_q17 => kernel_rfl
          case hy_q17 => (refine Or.inl ⟨by rfl, ?_⟩; intro w hSw; obtain ⟨z0, z1, z2, z3, z4, z5, z6, z7, z8, z9, z10, z11⟩ := HB12.out w hSw.out; go_simp; (try with_reducible rfl))
          try simp only [Act.put, List.setIfInBounds_toArray, List.set_cons_zero, List.set_cons_succ]
          refine allocs_act wr 18 6 6 15 (.cells #[.int .i64 0, .int .i64 0] 42) 6 ?hl ?hsz ?hb (fun w hb => ⟨hb⟩) ?hops ?hready ?hend
          case hl => kernel_rfl
          case hsz => (show (15 + 6 : Nat) ≤ List.length _; simp)
          case hb => exact (Below.refl _ _).drew
          case hops =>
            intro i hi
            rcases i with _ | _ | _ | _ | _ | _ | i
            all_goals first | (exfalso; omega) | (refine ⟨_, rfl, rfl, fun _ => rfl, fun ev w => ?_⟩; go_simp)
          case hready =>
            intro m
            obtain ⟨b0, hb0⟩ : ∃ b, m 0 = b := ⟨_, rfl⟩
            obtain ⟨b1, hb1⟩ : ∃ b, m 1 = b := ⟨_, rfl⟩
            obtain ⟨b2, hb2⟩ : ∃ b, m 2 = b := ⟨_, rfl⟩
            obtain ⟨b3, hb3⟩ : ∃ b, m 3 = b := ⟨_, rfl⟩
            obtain ⟨b4, hb4⟩ : ∃ b, m 4 = b := ⟨_, rfl⟩
            obtain ⟨b5, hb5⟩ : ∃ b, m 5 = b := ⟨_, rfl⟩
            have e : List.range 6 = [0, 1, 2, 3, 4, 5] := rfl
            simp only [lstM, leftM, e, List.map_cons, List.map_nil, List.filter_cons, List.filter_nil, hb0, hb1, hb2, hb3, hb4, hb5]
            clear hb0 hb1 hb2 hb3 hb4 hb5 e
            cases b0 <;> cases b1 <;> cases b2 <;> cases b3 <;> cases b4 <;> cases b5 <;> first | (intro h; exact absurd rfl h) | (intro _; kernel_rfl)
          case hend =>
            intro vs w1 hm
            obtain ⟨g0, g1, g2, g3, g4, g5, rfl, ⟨p0, p1, p2, p3, p4, p5⟩, ⟨k0, k1, k2, k3, k4, k5⟩, hnd⟩ := hm.six
            simp only [List.nodup_cons, List.mem_cons, List.not_mem_nil, or_false, not_or, List.nodup_nil, not_false_eq_true, and_true] at hnd
            obtain ⟨⟨n01, n02, n03, n04, n05⟩, ⟨n12, n13, n14, n15⟩, ⟨n23, n24, n25⟩, ⟨n34, n35⟩, n45⟩ := hnd
            simp only [actM, List.take_succ_cons, List.take_zero, List.drop_succ_cons, List.drop_zero, List.cons_append, List.nil_append, List.append_nil]
            have hb1 := hm.bel
            have xa := (blk_cell k0 0).trans rfl
            have xb := (blk_cell k0 1).trans rfl
            have fa := blk_frozen k0 0
            have fb := blk_frozen k0 1
            refine wpAnyH_ready (rs := [24]) (by kernel_rfl) (by simp) ?_
            refine AllReadyH.cons (o := ?oi_r24) ?hi_r24 (fun K hK => ?kk_r24) AllReadyH.nil
            case hi_r24 => (simp only [List.getElem?_toArray, List.getElem?_cons_succ, List.getElem?_cons_zero]; rfl)
            go_simp
            have hb2 := (hb1.setCell (p := ⟨g0, 0, none⟩) p0 (.int .i64 0)).setCell (p := ⟨g0, 1, none⟩) p0 (.int .i64 V.sum)
            have k0 := blk_put (blk_put k0 0 (.int .i64 0) rfl) 1 (.int .i64 V.sum) rfl
            have k1 := blk_far (blk_far k1 (p := ⟨g0, 0, none⟩) (Ne.symm n01) (.int .i64 0)) (p := ⟨g0, 1, none⟩) (Ne.symm n01) (.int .i64 V.sum)
            have k2 := blk_far (blk_far k2 (p := ⟨g0, 0, none⟩) (Ne.symm n02) (.int .i64 0)) (p := ⟨g0, 1, none⟩) (Ne.symm n02) (.int .i64 V.sum)
            have k3 := blk_far (blk_far k3 (p := ⟨g0, 0, none⟩) (Ne.symm n03) (.int .i64 0)) (p := ⟨g0, 1, none⟩) (Ne.symm n03) (.int .i64 V.sum)
            have k4 := blk_far (blk_far k4 (p := ⟨g0, 0, none⟩) (Ne.symm n04) (.int .i64 0)) (p := ⟨g0, 1, none⟩) (Ne.symm n04) (.int .i64 V.sum)
            have k5 := blk_far (blk_far k5 (p := ⟨g0, 0, none⟩) (Ne.symm n05) (.int .i64 0)) (p := ⟨g0, 1, none⟩) (Ne.symm n05) (.int .i64 V.sum)
            generalize hw2 : (World.setCell (World.setCell w1 ⟨g0, 0, none⟩ (.int .i64 0)) ⟨g0, 1, none⟩ (.int .i64 V.sum)) = w2 at *
            refine hK.out _ _ ⟨hb2⟩ (fun _ => ?_)
            clear hK K xa xb fa fb
            try simp only [Act.put, List.setIfInBounds_toArray, List.set_cons_zero, List.set_cons_succ]
            have xa := (blk_cell k1 0).trans rfl
            have xb := (blk_cell k1 1).trans rfl
            have fa := blk_frozen k1 0
            have fb := blk_frozen k1 1
            refine wpAnyH_ready (rs := [25]) (by kernel_rfl) (by simp) ?_
            refine AllReadyH.cons (o := ?oi_r25) ?hi_r25 (fun K hK => ?kk_r25) AllReadyH.nil
            case hi_r25 => (simp only [List.getElem?_toArray, List.getElem?_cons_succ, List.getElem?_cons_zero]; rfl)
            go_simp
            have hb3 := (hb2.setCell (p := ⟨g1, 0, none⟩) p1 (.int .i64 (readV 2 0 V).1)).setCell (p := ⟨g1, 1, none⟩) p1 (.int .i64 (readV 2 0 V).2)
            have k0 := blk_far (blk_far k0 (p := ⟨g1, 0, none⟩) n01 (.int .i64 (readV 2 0 V).1)) (p := ⟨g1, 1, none⟩) n01 (.int .i64 (readV 2 0 V).2)
            have k1 := blk_put (blk_put k1 0 (.int .i64 (readV 2 0 V).1) rfl) 1 (.int .i64 (readV 2 0 V).2) rfl
            have k2 := blk_far (blk_far k2 (p := ⟨g1, 0, none⟩) (Ne.symm n12) (.int .i64 (readV 2 0 V).1)) (p := ⟨g1, 1, none⟩) (Ne.symm n12) (.int .i64 (readV 2 0 V).2)
            have k3 := blk_far (blk_far k3 (p := ⟨g1, 0, none⟩) (Ne.symm n13) (.int .i64 (readV 2 0 V).1)) (p := ⟨g1, 1, none⟩) (Ne.symm n13) (.int .i64 (readV 2 0 V).2)
            have k4 := blk_far (blk_far k4 (p := ⟨g1, 0, none⟩) (Ne.symm n14) (.int .i64 (readV 2 0 V).1)) (p := ⟨g1, 1, none⟩) (Ne.symm n14) (.int .i64 (readV 2 0 V).2)
            have k5 := blk_far (blk_far k5 (p := ⟨g1, 0, none⟩) (Ne.symm n15) (.int .i64 (readV 2 0 V).1)) (p := ⟨g1, 1, none⟩) (Ne.symm n15) (.int .i64 (readV 2 0 V).2)
            generalize hw3 : (World.setCell (World.setCell w2 ⟨g1, 0, none⟩ (.int .i64 (readV 2 0 V).1)) ⟨g1, 1, none⟩ (.int .i64 (readV 2 0 V).2)) = w3 at *
            refine hK.out _ _ ⟨hb3⟩ (fun _ => ?_)
            clear hK K xa xb fa fb
            try simp only [Act.put, List.setIfInBounds_toArray, List.set_cons_zero, List.set_cons_succ]
            have xa := (blk_cell k2 0).trans rfl
            have xb := (blk_cell k2 1).trans rfl
            have fa := blk_frozen k2 0
            have fb := blk_frozen k2 1
            refine wpAnyH_ready (rs := [26]) (by kernel_rfl) (by simp) ?_
            refine AllReadyH.cons (o := ?oi_r26) ?hi_r26 (fun K hK => ?kk_r26) AllReadyH.nil
            case hi_r26 => (simp only [List.getElem?_toArray, List.getElem?_cons_succ, List.getElem?_cons_zero]; rfl)
            go_simp
            have hb4 := (hb3.setCell (p := ⟨g2, 0, none⟩) p2 (.int .i64 (readV 3 0 V).1)).setCell (p := ⟨g2, 1, none⟩) p2 (.int .i64 (readV 3 0 V).2)
            have k0 := blk_far (blk_far k0 (p := ⟨g2, 0, none⟩) n02 (.int .i64 (readV 3 0 V).1)) (p := ⟨g2, 1, none⟩) n02 (.int .i64 (readV 3 0 V).2)
            have k1 := blk_far (blk_far k1 (p := ⟨g2, 0, none⟩) n12 (.int .i64 (readV 3 0 V).1)) (p := ⟨g2, 1, none⟩) n12 (.int .i64 (readV 3 0 V).2)
            have k2 := blk_put (blk_put k2 0 (.int .i64 (readV 3 0 V).1) rfl) 1 (.int .i64 (readV 3 0 V).2) rfl
            have k3 := blk_far (blk_far k3 (p := ⟨g2, 0, none⟩) (Ne.symm n23) (.int .i64 (readV 3 0 V).1)) (p := ⟨g2, 1, none⟩) (Ne.symm n23) (.int .i64 (readV 3 0 V).2)
            have k4 := blk_far (blk_far k4 (p := ⟨g2, 0, none⟩) (Ne.symm n24) (.int .i64 (readV 3 0 V).1)) (p := ⟨g2, 1, none⟩) (Ne.symm n24) (.int .i64 (readV 3 0 V).2)
            have k5 := blk_far (blk_far k5 (p := ⟨g2, 0, none⟩) (Ne.symm n25) (.int .i64 (readV 3 0 V).1)) (p := ⟨g2, 1, none⟩) (Ne.symm n25) (.int .i64 (readV 3 0 V).2)
            generalize hw4 : (World.setCell (World.setCell w3 ⟨g2, 0, none⟩ (.int .i64 (readV 3 0 V).1)) ⟨g2, 1, none⟩ (.int .i64 (readV 3 0 V).2)) = w4 at *
            refine hK.out _ _ ⟨hb4⟩ (fun _ => ?_)
            clear hK K xa xb fa fb
            try simp only [Act.put, List.setIfInBounds_toArray, List.set_cons_zero, List.set_cons_succ]
            have xa := (blk_cell k3 0).trans rfl
            have xb := (blk_cell k3 1).trans rfl
            have fa := blk_frozen k3 0
            have fb := blk_frozen k3 1
            refine wpAnyH_ready (rs := [27]) (by kernel_rfl) (by simp) ?_
            refine AllReadyH.cons (o := ?oi_r27) ?hi_r27 (fun K hK => ?kk_r27) AllReadyH.nil
            case hi_r27 => (simp only [List.getElem?_toArray, List.getElem?_cons_succ, List.getElem?_cons_zero]; rfl)
            go_simp
            have hb5 := (hb4.setCell (p := ⟨g3, 0, none⟩) p3 (.int .i64 (readV 4 0 V).1)).setCell (p := ⟨g3, 1, none⟩) p3 (.int .i64 (readV 4 0 V).2)
            have k0 := blk_far (blk_far k0 (p := ⟨g3, 0, none⟩) n03 (.int .i64 (readV 4 0 V).1)) (p := ⟨g3, 1, none⟩) n03 (.int .i64 (readV 4 0 V).2)
            have k1 := blk_far (blk_far k1 (p := ⟨g3, 0, none⟩) n13 (.int .i64 (readV 4 0 V).1)) (p := ⟨g3, 1, none⟩) n13 (.int .i64 (readV 4 0 V).2)
            have k2 := blk_far (blk_far k2 (p := ⟨g3, 0, none⟩) n23 (.int .i64 (readV 4 0 V).1)) (p := ⟨g3, 1, none⟩) n23 (.int .i64 (readV 4 0 V).2)
            have k3 := blk_put (blk_put k3 0 (.int .i64 (readV 4 0 V).1) rfl) 1 (.int .i64 (readV 4 0 V).2) rfl
            have k4 := blk_far (blk_far k4 (p := ⟨g3, 0, none⟩) (Ne.symm n34) (.int .i64 (readV 4 0 V).1)) (p := ⟨g3, 1, none⟩) (Ne.symm n34) (.int .i64 (readV 4 0 V).2)
            have k5 := blk_far (blk_far k5 (p := ⟨g3, 0, none⟩) (Ne.symm n35) (.int .i64 (readV 4 0 V).1)) (p := ⟨g3, 1, none⟩) (Ne.symm n35) (.int .i64 (readV 4 0 V).2)
            generalize hw5 : (World.setCell (World.setCell w4 ⟨g3, 0, none⟩ (.int .i64 (readV 4 0 V).1)) ⟨g3, 1, none⟩ (.int .i64 (readV 4 0 V).2)) = w5 at *
            refine hK.out _ _ ⟨hb5⟩ (fun _ => ?_)
            clear hK K xa xb fa fb
            try simp only [Act.put, List.setIfInBounds_toArray, List.set_cons_zero, List.set_cons_succ]
            have xa := (blk_cell k4 0).trans rfl
            have xb := (blk_cell k4 1).trans rfl
            have fa := blk_frozen k4 0
            have fb := blk_frozen k4 1
            refine wpAnyH_ready (rs := [28]) (by kernel_rfl) (by simp) ?_
            refine AllReadyH.cons (o := ?oi_r28) ?hi_r28 (fun K hK => ?kk_r28) AllReadyH.nil
            case hi_r28 => (simp only [List.getElem?_toArray, List.getElem?_cons_succ, List.getElem?_cons_zero]; rfl)
            go_simp
            have hb6 := (hb5.setCell (p := ⟨g4, 0, none⟩) p4 (.int .i64 0)).setCell (p := ⟨g4, 1, none⟩) p4 (.int .i64 ((V.length : Int) * 1000000))
            have k0 := blk_far (blk_far k0 (p := ⟨g4, 0, none⟩) n04 (.int .i64 0)) (p := ⟨g4, 1, none⟩) n04 (.int .i64 ((V.length : Int) * 1000000))
            have k1 := blk_far (blk_far k1 (p := ⟨g4, 0, none⟩) n14 (.int .i64 0)) (p := ⟨g4, 1, none⟩) n14 (.int .i64 ((V.length : Int) * 1000000))
            have k2 := blk_far (blk_far k2 (p := ⟨g4, 0, none⟩) n24 (.int .i64 0)) (p := ⟨g4, 1, none⟩) n24 (.int .i64 ((V.length : Int) * 1000000))
            have k3 := blk_far (blk_far k3 (p := ⟨g4, 0, none⟩) n34 (.int .i64 0)) (p := ⟨g4, 1, none⟩) n34 (.int .i64 ((V.length : Int) * 1000000))
            have k4 := blk_put (blk_put k4 0 (.int .i64 0) rfl) 1 (.int .i64 ((V.length : Int) * 1000000)) rfl
            have k5 := blk_far (blk_far k5 (p := ⟨g4, 0, none⟩) (Ne.symm n45) (.int .i64 0)) (p := ⟨g4, 1, none⟩) (Ne.symm n45) (.int .i64 ((V.length : Int) * 1000000))
            generalize hw6 : (World.setCell (World.setCell w5 ⟨g4, 0, none⟩ (.int .i64 0)) ⟨g4, 1, none⟩ (.int .i64 ((V.length : Int) * 1000000))) = w6 at *
            refine hK.out _ _ ⟨hb6⟩ (fun _ => ?_)
            clear hK K xa xb fa fb
            try simp only [Act.put, List.setIfInBounds_toArray, List.set_cons_zero, List.set_cons_succ]
            have xa := (blk_cell k5 0).trans rfl
            have xb := (blk_cell k5 1).trans rfl
            have fa := blk_frozen k5 0
            have fb := blk_frozen k5 1
            refine wpAnyH_ready (rs := [29]) (by kernel_rfl) (by simp) ?_
            refine AllReadyH.cons (o := ?oi_r29) ?hi_r29 (fun K hK => ?kk_r29) AllReadyH.nil
            case hi_r29 => (simp only [List.getElem?_toArray, List.getElem?_cons_succ, List.getElem?_cons_zero]; rfl)
            go_simp
            have hb7 := (hb6.setCell (p := ⟨g5, 0, none⟩) p5 (.int .i64 (readV 6 100000000 V).1)).setCell (p := ⟨g5, 1, none⟩) p5 (.int .i64 (readV 6 100000000 V).2)
            have k0 := blk_far (blk_far k0 (p := ⟨g5, 0, none⟩) n05 (.int .i64 (readV 6 100000000 V).1)) (p := ⟨g5, 1, none⟩) n05 (.int .i64 (readV 6 100000000 V).2)
            have k1 := blk_far (blk_far k1 (p := ⟨g5, 0, none⟩) n15 (.int .i64 (readV 6 100000000 V).1)) (p := ⟨g5, 1, none⟩) n15 (.int .i64 (readV 6 100000000 V).2)
            have k2 := blk_far (blk_far k2 (p := ⟨g5, 0, none⟩) n25 (.int .i64 (readV 6 100000000 V).1)) (p := ⟨g5, 1, none⟩) n25 (.int .i64 (readV 6 100000000 V).2)
            have k3 := blk_far (blk_far k3 (p := ⟨g5, 0, none⟩) n35 (.int .i64 (readV 6 100000000 V).1)) (p := ⟨g5, 1, none⟩) n35 (.int .i64 (readV 6 100000000 V).2)
            have k4 := blk_far (blk_far k4 (p := ⟨g5, 0, none⟩) n45 (.int .i64 (readV 6 100000000 V).1)) (p := ⟨g5, 1, none⟩) n45 (.int .i64 (readV 6 100000000 V).2)
            have k5 := blk_put (blk_put k5 0 (.int .i64 (readV 6 100000000 V).1) rfl) 1 (.int .i64 (readV 6 100000000 V).2) rfl
            generalize hw7 : (World.setCell (World.setCell w6 ⟨g5, 0, none⟩ (.int .i64 (readV 6 100000000 V).1)) ⟨g5, 1, none⟩ (.int .i64 (readV 6 100000000 V).2)) = w7 at *
            refine hK.out _ _ ⟨hb7⟩ (fun _ => ?_)
            clear hK K xa xb fa fb
            try simp only [Act.put, List.setIfInBounds_toArray, List.set_cons_zero, List.set_cons_succ]
            refine wpAnyH_done (by kernel_rfl) ?_ _
            have HB7 := Lib.hid hb7
            have hlt := hlt
            rcases hor with ⟨hl, hsum, e2, e3, e4, e6⟩ | ⟨hpos, av, lo, hi, e2, e3, e4, e6, q1, q2, q3, q4, q5, q6, q7, q8⟩
            · rw [e2] at k1
              rw [e3] at k2
              rw [e4] at k3
              rw [e6] at k5
              rw [hsum] at k0
              rw [show ((V.length : Int) * 1000000) = 0 by omega] at k4
              have c0a := (blk_cell k0 0).trans rfl
              have c0b := (blk_cell k0 1).trans rfl
              have c1a := (blk_cell k1 0).trans rfl
              have c1b := (blk_cell k1 1).trans rfl
              have c2a := (blk_cell k2 0).trans rfl
              have c2b := (blk_cell k2 1).trans rfl
              have c3a := (blk_cell k3 0).trans rfl
              have c3b := (blk_cell k3 1).trans rfl
              have c4a := (blk_cell k4 0).trans rfl
              have c4b := (blk_cell k4 1).trans rfl
              have c5a := (blk_cell k5 0).trans rfl
              have c5b := (blk_cell k5 1).trans rfl
              clear k0 k1 k2 k3 k4 k5 e2 e3 e4 e6
              go_wp2
              go_ret
              exact ⟨rfl, BW.out.trans (hb7.mono BW.out.size)⟩
            · rw [e2] at k1
              rw [e3] at k2
              rw [e4] at k3
              rw [e6] at k5
              obtain ⟨sm, hsm⟩ : ∃ x, V.sum = x := ⟨_, rfl⟩
              obtain ⟨nn, hnn⟩ : ∃ x : Int, (V.length : Int) = x := ⟨_, rfl⟩
              have hnr : 0 < nn ∧ nn ≤ 4096 := by have := HVD.out.2; omega
              have hsr := sum_between V HVD.out.1
              have hln := HVD.out.2
              rw [hsm, hnn] at q5 q6
              rw [hnn] at q7 q8 k4
              rw [hsm] at k0
              obtain ⟨cn, hcn⟩ : ∃ x : Int, nn * 1000000 = x := ⟨_, rfl⟩
              obtain ⟨pv, hpv⟩ : ∃ x : Int, av * nn = x := ⟨_, rfl⟩
              obtain ⟨rs, hrs⟩ : ∃ x : Int, sm - pv = x := ⟨_, rfl⟩
              rw [hpv] at q5 q6 q7 q8
              rw [hrs] at q5 q6
              rw [hcn] at k4
              have d1 : cn.tmod 1000000 = 0 := by rw [← hcn]; exact Int.mul_tmod_left _ _
              have d2 : cn.tdiv 1000000 = nn := by rw [← hcn]; exact Int.mul_tdiv_cancel _ (by decide)
              have w1f : wrap64 nn = nn := by unfold wrap64; omega
              have w2f : IntKind.i64.wrap nn = nn := by rw [i64_w]; exact w1f
              have w3f : wrap64 (av * nn) = pv := by rw [hpv]; unfold wrap64; omega
              have w4f : IntKind.i64.wrap (av * nn) = pv := by rw [i64_w]; exact w3f
              have w5f : wrap64 (sm - pv) = rs := by rw [hrs]; unfold wrap64; omega
              have w6f : IntKind.i64.wrap (sm - pv) = rs := by rw [i64_w]; exact w5f
              have z1 : ¬ nn = 0 := by omega
              have c0a := (blk_cell k0 0).trans rfl
              have c0b := (blk_cell k0 1).trans rfl
              have c1a := (blk_cell k1 0).trans rfl
              have c1b := (blk_cell k1 1).trans rfl
              have c2a := (blk_cell k2 0).trans rfl
              have c2b := (blk_cell k2 1).trans rfl
              have c3a := (blk_cell k3 0).trans rfl
              have c3b := (blk_cell k3 1).trans rfl
              have c4a := (blk_cell k4 0).trans rfl
              have c4b := (blk_cell k4 1).trans rfl
              have c5a := (blk_cell k5 0).trans rfl
              have c5b := (blk_cell k5 1).trans rfl
              clear k0 k1 k2 k3 k4 k5 e2 e3 e4 e6 hsm hnn hcn hpv hrs hsr hln hpos
              go_wp2
              go_ret
              exact ⟨rfl, BW.out.trans (hb7.mono BW.out.size)⟩
set_option maxRecDepth 100000
theorem wf_u16 {n : Int} (h : (Lit.int .u16 n).wf = true) : 0 ≤ n ∧ n ≤ 65535 := by
  have h2 : IntKind.u16.min ≤ n ∧ n ≤ IntKind.u16.max := by simpa [Lit.wf] using h
  have e : IntKind.u16.min = 0 := by decide
  have e2 : IntKind.u16.max = 65535 := by decide
  omega
theorem sms_arg {H : Type} {enc : TypeId × Value → H} {base : Nat} {d : DataW H} {p : List MemPlace} {v : Value} {W : World} (hval : Value.okWide Try.prog W .any base 34 v)
    (h : DataW.Trod enc Try.prog W 0 (fun _ => true) true 34 v d p) (y : ∀ n ∈ DataW.weights Try.prog 34 d, n ≤ reachBytes) :
    ∃ s : Sl (Int × Int), v = .slice s.at_ s.len s.cap ∧ Sl.ok Try.prog 38 smCells smOk W s := by
  obtain ⟨a, len, cap, rfl⟩ := WideShapes.okWide_slice Try.underlying34 hval
  obtain ⟨fuel, hf⟩ := h
  obtain ⟨s, hs, hok⟩ := opn_slice Try.underlying34 sm_opn hf y
  simp [Value.cells] at hs
  obtain ⟨rfl, rfl, rfl⟩ := hs
  exact ⟨s, rfl, hok⟩
theorem WindowAgrees_row {H : Type} {enc : TypeId × Value → H} {base : Nat} {d : DataW H} {p : List MemPlace} (sp : Int) (v : Value) (la : Int) (W : World) (wf1 : (Lit.int .u16 sp).wf = true) (hval : Value.okWide Try.prog W .any base 34 v)
    (h : DataW.Trod enc Try.prog W 0 (fun _ => true) true 34 v d p) (y : ∀ n ∈ DataW.weights Try.prog 34 d, n ≤ reachBytes) (wf2 : (Lit.int .u16 la).wf = true) :
    Calls Try.prog 4 #[.int .u16 sp, v, .int .u16 la] W fun e w' => e = .returned (.bool true) ∧ Below W.heap.size W w' := by
  obtain ⟨s, rfl, hs⟩ := sms_arg hval h y
  exact WindowAgrees_sl sp la s W hs (wf_u16 wf1) (wf_u16 wf2)
end Go.Proofs.Ytgfnlhigmncdmaa

end
