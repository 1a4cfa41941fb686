/-
  Texts of this seat, joined, less what WindowFloods does not lean on: WinNilLaw, WinArgs, WinOps, WinPair, WinStep, WinStep2, WinStep3, WinStaleLaw, WinStaleRow, WinPlaysLaw, WinPairX, WinFloodsLaw.
-/
import Derived.Test.YtgfnlhigmncdmaaQWindowFloods21
import Derived.Test.YtgfnlhigmncdmaaQWindowFloods5
section
namespace Go.Proofs.Ytgfnlhigmncdmaa
set_option linter.unusedVariables false
set_option linter.unusedSimpArgs false
open Go.RowKit Go.Proofs.Ytgfnlhigmncdmaa.XMono Go.Proofs.YtgfnlhigmncdmaaW.PrintWords Go.Proofs.YtgfnlhigmncdmaaW.PrintLast Go.Proofs.YtgfnlhigmncdmaaW.PrintMore

end Go.Proofs.Ytgfnlhigmncdmaa

end
section
namespace Go.Proofs.Ytgfnlhigmncdmaa
set_option linter.unusedVariables false
set_option linter.unusedSimpArgs false
open Go.RowKit Go.Proofs.YtgfnlhigmncdmaaW.PrintWords
set_option maxRecDepth 100000
theorem wf_r64 {n : Int} (h : (Lit.int .i64 n).wf = true) : R64 n := by
  have h2 : IntKind.i64.min ≤ n ∧ n ≤ 9223372036854775807 := by simpa [Lit.wf] using h
  have e : IntKind.i64.min = -9223372036854775808 := by decide
  unfold R64
  omega
/-- A struct's value is the cells that are read. -/
theorem struct_arg {P : Program} {H : Type} {enc : TypeId × Value → H} {base : Nat} {d : DataW H} {p : List MemPlace} {v : Value} {W : World} {t : TypeId} {fs : Array Field} {α : Type} {c : α → List Value} {ok : World → α → Prop} (hu : P.underlying t = some (.struct fs)) (ho : Opn P t c ok) (hval : Value.okWide P W .any base t v)
    (h : DataW.Trod enc P W 0 (fun _ => true) true t v d p) (y : ∀ n ∈ DataW.weights P t d, n ≤ reachBytes) : ∃ a : α, v = .agg (c a).toArray ∧ ok W a := by
  obtain ⟨cs, rfl, hsz⟩ := WideShapes.okWide_struct hu hval
  obtain ⟨fuel, hf⟩ := h
  obtain ⟨a, ha, hok⟩ := ho hf y
  have hs' : cs.toList = c a := by simpa [Value.cells] using ha
  refine ⟨a, ?_, hok⟩
  have : cs = (c a).toArray := by rw [← hs']
  rw [this]
end Go.Proofs.Ytgfnlhigmncdmaa

end
section
namespace Go.Proofs.Ytgfnlhigmncdmaa
set_option linter.unusedVariables false
set_option linter.unusedSimpArgs false
open Go.RowKit Go.Proofs.Ytgfnlhigmncdmaa.XMono Go.Proofs.YtgfnlhigmncdmaaW.PrintWords Go.Proofs.YtgfnlhigmncdmaaW.PrintLast Go.Proofs.YtgfnlhigmncdmaaW.PrintMore
section
variable {w0 w w' : World} {g gr : Nat} {B O : Value} {ok Fr Fb Fo F S : Nat → Prop} {tm ta ts tr ck : Int} {bg : Bool} {Lr : List (Int × Int)} {s : Int} {Lb Lo : List Int} {N : Int}
/-- What is written elsewhere leaves a window as it is. -/
theorem Ran.other (h : Ran w w F g gr B O tm ta ts tr ck bg Lr s Lb Lo N) (hF : ∀ k, F k → k < w.heap.size) (k : Kept w w' S) (dis : ∀ k, F k → ¬ S k) : Ran w' w' F g gr B O tm ta ts tr ck bg Lr s Lb Lo N := by
  obtain ⟨⟨Fr, Fb, Fo, h1, h2⟩, -, -⟩ := h
  have hk : ∀ i, (i = g ∨ Fr i ∨ Fb i ∨ Fo i) → F i := fun i hi => by
    rcases h2 i hi with h3 | h3
    · exact h3
    · rcases hi with rfl | hi
      · have := h1.lt; omega
      · have := (h1.old i hi).1; omega
  exact ⟨⟨Fr, Fb, Fo, h1.far k (fun i hi hS => dis i (hk i hi) hS), fun i hi => .inl (hk i hi)⟩, Kept.refl _ _, Below.refl _ _⟩
end
theorem below_of_kept8 {W w w' : World} {S : Nat → Prop} (h1 : Below W.heap.size W w) (h2 : Below 0 w w') (hk : Kept w w' S) (hS : ∀ k, k < W.heap.size → ¬ S k) : Below W.heap.size W w' :=
  ⟨h2.os.trans h1.os, h2.tape.trans h1.tape, h2.output.trans h1.output, Nat.le_trans h1.size h2.size, fun k hk' => (hk.2 k (Nat.lt_of_lt_of_le hk' h1.size) (hS k hk')).trans (h1.block k hk')⟩
/-- Two windows of one kind, made since W, that share no memory. -/
structure Two (W w : World) (ga gra : Nat) (Ba Oa : Value) (gb grb : Nat) (Bb Ob : Value) (tm ta ts tr : Int) (cka : Int) (bga : Bool) (La : List (Int × Int)) (ckb : Int) (bgb : Bool) (Lb : List (Int × Int)) (N : Int) : Prop where
  ex : ∃ Fa Fb : Nat → Prop, RanL w w Fa ga gra Ba Oa tm ta ts tr cka bga La N ∧ RanL w w Fb gb grb Bb Ob tm ta ts tr ckb bgb Lb N ∧ (∀ k, Fa k ∨ Fb k → W.heap.size ≤ k ∧ k < w.heap.size) ∧ ∀ k, Fa k → ¬ Fb k
  bel : Below W.heap.size W w
section
variable {W w w' : World} {ga gra : Nat} {Ba Oa : Value} {gb grb : Nat} {Bb Ob : Value} {tm ta ts tr : Int} {cka : Int} {bga : Bool} {La : List (Int × Int)} {ckb : Int} {bgb : Bool} {Lb : List (Int × Int)} {N : Int}
theorem Two.below (h : Two W w ga gra Ba Oa gb grb Bb Ob tm ta ts tr cka bga La ckb bgb Lb N) (hb : Below w.heap.size w w') : Two W w' ga gra Ba Oa gb grb Bb Ob tm ta ts tr cka bga La ckb bgb Lb N := by
  obtain ⟨⟨Fa, Fb, h1, h2, h3, h4⟩, h5⟩ := h
  exact ⟨⟨Fa, Fb, h1.other (fun k hk => (h3 k (.inl hk)).2) (kept_any hb) (fun _ _ h => h), h2.other (fun k hk => (h3 k (.inr hk)).2) (kept_any hb) (fun _ _ h => h), fun k hk => ⟨(h3 k hk).1, Nat.lt_of_lt_of_le (h3 k hk).2 hb.size⟩, h4⟩, h5.trans (hb.mono h5.size)⟩
theorem Two.more (h : Two W w ga gra Ba Oa gb grb Bb Ob tm ta ts tr cka bga La ckb bgb Lb N) {N2 : Int} (hN : N ≤ N2) : Two W w ga gra Ba Oa gb grb Bb Ob tm ta ts tr cka bga La ckb bgb Lb N2 := by
  obtain ⟨⟨Fa, Fb, h1, h2, h3, h4⟩, h5⟩ := h
  exact ⟨⟨Fa, Fb, h1.more hN, h2.more hN, h3, h4⟩, h5⟩
end
theorem eqRes_in (h t h2 t2 : Int) (d : Nat) (w : World) : (Op.equalIn (d + 2) 42 (.agg #[.int .i64 h, .int .i64 t]) (.agg #[.int .i64 h2, .int .i64 t2])).run Try.prog w = .ok ((h == h2) && (t == t2)) w := by
  refine eqA_of Try.underlying42 (by kernel_rfl) ?_
  refine eqf_cons (by rfl) (by go_simp; rfl) (by go_simp; rfl) (by go_simp) ?_
  exact eqf_last (by rfl) (by go_simp; rfl) (by go_simp; rfl) (by go_simp)
/-- One result is itself. -/
theorem sameRes (h t : Int) (w : World) : (binOp .eql 42 (.agg #[.int .i64 h, .int .i64 t]) (.agg #[.int .i64 h, .int .i64 t])).run Try.prog w = .ok (.bool true) w := by
  simp only [binOp]
  simp [Op.equal, Op.maxDepth, eqRes_in h t h t 9998 w]
theorem sameResN (h t : Int) (w : World) : (binOp .neq 42 (.agg #[.int .i64 h, .int .i64 t]) (.agg #[.int .i64 h, .int .i64 t])).run Try.prog w = .ok (.bool false) w := by
  simp only [binOp]
  simp [Op.equal, Op.maxDepth, eqRes_in h t h t 9998 w]
end Go.Proofs.Ytgfnlhigmncdmaa

end
section
namespace Go.Proofs.Ytgfnlhigmncdmaa
set_option linter.unusedVariables false
set_option linter.unusedSimpArgs false
open Go.RowKit Go.Proofs.YtgfnlhigmncdmaaW.PrintWords Go.Proofs.YtgfnlhigmncdmaaW.PrintLast Go.Proofs.YtgfnlhigmncdmaaW.PrintMore

/-- A window and the reference's, made since W, that share no memory. -/
structure Pair (W w : World) (g gr : Nat) (B O : Value) (h : Nat) (tm ta ts tr : Int) (ck : Int) (bg : Bool) (L : List (Int × Int)) (ckr : Int) (bgr : Bool) (All : List (Int × Int)) (N : Int) : Prop where
  ex : ∃ Fa Fr : Nat → Prop, RanL w w Fa g gr B O tm ta ts tr ck bg L N ∧ RefW w h Fr tm ta ts tr ckr bgr All ∧ (∀ k, Fa k → W.heap.size ≤ k ∧ k < w.heap.size) ∧ ∀ k, (k = h ∨ Fr k) → W.heap.size ≤ k ∧ k < w.heap.size ∧ ¬ Fa k
  bel : Below W.heap.size W w
section
variable {W w w2 w' : World} {g gr : Nat} {B O : Value} {h : Nat} {tm ta ts tr : Int} {ck : Int} {bg : Bool} {L : List (Int × Int)} {ckr : Int} {bgr : Bool} {All : List (Int × Int)} {N : Int}
theorem Pair.below (i : Pair W w g gr B O h tm ta ts tr ck bg L ckr bgr All N) (hb : Below w.heap.size w w') : Pair W w' g gr B O h tm ta ts tr ck bg L ckr bgr All N := by
  obtain ⟨⟨Fa, Fr, h1, h2, h3, h4⟩, h5⟩ := i
  exact ⟨⟨Fa, Fr, h1.other (fun k hk => (h3 k hk).2) (kept_any hb) (fun _ _ h => h), h2.below hb, fun k hk => ⟨(h3 k hk).1, Nat.lt_of_lt_of_le (h3 k hk).2 hb.size⟩, fun k hk => ⟨(h4 k hk).1, Nat.lt_of_lt_of_le (h4 k hk).2.1 hb.size, (h4 k hk).2.2⟩⟩, h5.trans (hb.mono h5.size)⟩
theorem Pair.more (i : Pair W w g gr B O h tm ta ts tr ck bg L ckr bgr All N) {N2 : Int} (hN : N ≤ N2) : Pair W w g gr B O h tm ta ts tr ck bg L ckr bgr All N2 := by
  obtain ⟨⟨Fa, Fr, h1, h2, h3, h4⟩, h5⟩ := i
  exact ⟨⟨Fa, Fr, h1.more hN, h2, h3, h4⟩, h5⟩
theorem pairW {Fa Fr : Nat → Prop} (h1 : RanL w w Fa g gr B O tm ta ts tr ck bg L N) (h2 : RefW w h Fr tm ta ts tr ckr bgr All) (h3 : ∀ k, Fa k → W.heap.size ≤ k ∧ k < w.heap.size) (h4 : ∀ k, (k = h ∨ Fr k) → W.heap.size ≤ k ∧ k < w.heap.size ∧ ¬ Fa k) (h5 : Below W.heap.size W w)
    {ck2 : Int} {bg2 : Bool} {L2 : List (Int × Int)} {N2 : Int} (j : RanL w w' Fa g gr B O tm ta ts tr ck2 bg2 L2 N2) :
    ∃ Fa2 : Nat → Prop, RanL w' w' Fa2 g gr B O tm ta ts tr ck2 bg2 L2 N2 ∧ RefW w' h Fr tm ta ts tr ckr bgr All ∧ (∀ k, Fa2 k → W.heap.size ≤ k ∧ k < w'.heap.size) ∧ (∀ k, (k = h ∨ Fr k) → W.heap.size ≤ k ∧ k < w'.heap.size ∧ ¬ Fa2 k) ∧ Below W.heap.size W w' := by
  have hs5 := h5.size
  refine ⟨_, j.anew, h2.kept j.kept (h4 h (.inl rfl)).2.2 (fun k hk => (h4 k (.inr hk)).2.2), ?_, ?_, below_of_kept8 h5 j.bel j.kept (fun k hk ha => by have := (h3 k ha).1; omega)⟩
  · rintro k ⟨hk, hl⟩
    refine ⟨?_, hl⟩
    rcases hk with hk | hk
    · exact (h3 k hk).1
    · omega
  · intro k hk
    have := h4 k hk
    have hs := j.kept.1
    refine ⟨this.1, by omega, ?_⟩
    rintro ⟨hk2, -⟩
    rcases hk2 with hk2 | hk2
    · exact this.2.2 hk2
    · omega
theorem pairR {Fa Fr : Nat → Prop} (h1 : RanL w w Fa g gr B O tm ta ts tr ck bg L N) (h2 : RefW w h Fr tm ta ts tr ckr bgr All) (h3 : ∀ k, Fa k → W.heap.size ≤ k ∧ k < w.heap.size) (h4 : ∀ k, (k = h ∨ Fr k) → W.heap.size ≤ k ∧ k < w.heap.size ∧ ¬ Fa k) (h5 : Below W.heap.size W w)
    {ck2 : Int} {bg2 : Bool} {All2 : List (Int × Int)} (j : RefW w' h (fun k => Fr k ∨ w.heap.size ≤ k) tm ta ts tr ck2 bg2 All2) (jk : Kept w w' (fun k => k = h ∨ Fr k)) (jb : Below 0 w w') : Pair W w' g gr B O h tm ta ts tr ck bg L ck2 bg2 All2 N := by
  have hs5 := h5.size
  have hs := jk.1
  refine ⟨⟨Fa, _, h1.other (fun k hk => (h3 k hk).2) jk (fun k hk hr => (h4 k hr).2.2 hk), j.tight, ?_, ?_⟩, below_of_kept8 h5 jb jk (fun k hk ha => by have := (h4 k ha).1; omega)⟩
  · intro k hk
    exact ⟨(h3 k hk).1, by have := (h3 k hk).2; omega⟩
  · rintro k (rfl | ⟨hk, hl⟩)
    · have := h4 k (.inl rfl)
      exact ⟨this.1, by omega, this.2.2⟩
    · rcases hk with hk | hk
      · have := h4 k (.inr hk)
        exact ⟨this.1, hl, this.2.2⟩
      · exact ⟨by omega, hl, fun ha => by have := (h3 k ha).2; omega⟩
/-- A call of the window and one of the reference's, behind new blocks that are not theirs. -/
theorem Pair.both (i : Pair W w g gr B O h tm ta ts tr ck bg L ckr bgr All N) (hb : Below w.heap.size w w2) : ∃ Fa Fr : Nat → Prop, RanL w2 w2 Fa g gr B O tm ta ts tr ck bg L N ∧ (∀ k, Fa k → k < w.heap.size) ∧ (∀ k, (k = h ∨ Fr k) → k < w.heap.size) ∧
    ∀ (w3 : World) (ck2 : Int) (bg2 : Bool) (L2 : List (Int × Int)) (N2 : Int), RanL w2 w3 Fa g gr B O tm ta ts tr ck2 bg2 L2 N2 →
      ∀ w4, Below w3.heap.size w3 w4 → RefW w4 h Fr tm ta ts tr ckr bgr All ∧ Pair W w4 g gr B O h tm ta ts tr ck2 bg2 L2 ckr bgr All N2 ∧
      ∀ (w5 : World) (ck3 : Int) (bg3 : Bool) (All3 : List (Int × Int)), RefW w5 h (fun k => Fr k ∨ w4.heap.size ≤ k) tm ta ts tr ck3 bg3 All3 → Kept w4 w5 (fun k => k = h ∨ Fr k) → Below 0 w4 w5 → Pair W w5 g gr B O h tm ta ts tr ck2 bg2 L2 ck3 bg3 All3 N2 := by
  obtain ⟨⟨Fa, Fr, h1, h2, h3, h4⟩, h5⟩ := i
  have k1 := h1.other (fun k hk => (h3 k hk).2) (kept_any hb) (fun _ _ h => h)
  have hsz := hb.size
  have hs5 := h5.size
  refine ⟨Fa, Fr, k1, fun k hk => (h3 k hk).2, fun k hk => (h4 k hk).2.1, fun w3 ck2 bg2 L2 N2 j w4 b4 => ?_⟩
  obtain ⟨Fa2, e1, e2, e3, e4, e5⟩ := pairW k1 (h2.below hb) (fun k hk => ⟨(h3 k hk).1, Nat.lt_of_lt_of_le (h3 k hk).2 hsz⟩) (fun k hk => ⟨(h4 k hk).1, Nat.lt_of_lt_of_le (h4 k hk).2.1 hsz, (h4 k hk).2.2⟩) (h5.trans (hb.mono hs5)) j
  have e1' := e1.other (fun k hk => (e3 k hk).2) (kept_any b4) (fun _ _ h => h)
  have e3' : ∀ k, Fa2 k → W.heap.size ≤ k ∧ k < w4.heap.size := fun k hk => ⟨(e3 k hk).1, Nat.lt_of_lt_of_le (e3 k hk).2 b4.size⟩
  have e4' : ∀ k, (k = h ∨ Fr k) → W.heap.size ≤ k ∧ k < w4.heap.size ∧ ¬ Fa2 k := fun k hk => ⟨(e4 k hk).1, Nat.lt_of_lt_of_le (e4 k hk).2.1 b4.size, (e4 k hk).2.2⟩
  have e5' := e5.trans (b4.mono e5.size)
  exact ⟨e2.below b4, ⟨⟨Fa2, Fr, e1', e2.below b4, e3', e4'⟩, e5'⟩, fun w5 ck3 bg3 All3 r k b => pairR e1' (e2.below b4) e3' e4' e5' r k b⟩
theorem RefW.mono {ok ok2 : Nat → Prop} (i : RefW w h ok tm ta ts tr ck bg All) (hm : ∀ k, ok k → ok2 k) (ha : ∀ k, ok2 k → k ≠ h) : RefW w h ok2 tm ta ts tr ck bg All := by
  obtain ⟨⟨A, c, h1, h2⟩, h3, h4⟩ := i
  exact ⟨⟨A, c, h1, Kd.Q_mono h2 hm⟩, ha, h4⟩
end
/-- The window holds what the definition asks for. -/
structure PInv (ts ck : Int) (bg : Bool) (L All : List (Int × Int)) (N : Int) : Prop where
  inv : WinInv All L ck ts
  all : ∀ y ∈ All, SmpOk ck y
  clock : R64 ck
  fresh : bg = false → All = []
  few : (All.length : Int) ≤ N
theorem PInv.sub {ts ck N : Int} {bg : Bool} {L All : List (Int × Int)} (h : PInv ts ck bg L All N) : ∀ y ∈ L, y ∈ All := by
  intro y hy
  obtain ⟨D, h1, -⟩ := h.inv.ex
  rw [h1]
  exact List.mem_append_right _ hy
theorem PInv.at {ts ck N t : Int} {bg : Bool} {L All : List (Int × Int)} (h : PInv ts ck bg L All N) (ht : bg = true → ck ≤ t) : (∀ y ∈ All, SmpOk t y) ∧ WinInv All L t ts := by
  cases bg with
  | false =>
    have h1 := h.fresh rfl
    subst h1
    have h2 : L = [] := by
      rcases L with _ | ⟨y, L⟩
      · rfl
      · exact absurd (h.sub y List.mem_cons_self) (by simp)
    subst h2
    exact ⟨fun y hy => (by cases hy), WinInv.nil _ _⟩
  | true =>
    have h2 := ht rfl
    exact ⟨fun y hy => ⟨(h.all y hy).1, (h.all y hy).2.1, by have := (h.all y hy).2.2; omega⟩, h.inv.clock h2⟩
theorem PInv.put {ts ck N t x : Int} {bg : Bool} {L All : List (Int × Int)} (h : PInv ts ck bg L All N) (ht : bg = true → ck ≤ t) (h64 : R64 t) (hx : R64 x) : PInv ts t true (pushP L (t, x)) (All ++ [(t, x)]) (N + 1) := by
  obtain ⟨h1, h2⟩ := h.at ht
  refine ⟨WinInv.push (s := (t, x)) h2, ?_, h64, fun h => (by cases h), ?_⟩
  · intro y hy
    rcases List.mem_append.1 hy with hy | hy
    · exact h1 y hy
    · simp at hy; subst hy; exact ⟨h64, hx, Int.le_refl _⟩
  · rw [List.length_append]
    have := h.few
    simp
    omega
theorem PInv.read {ts ck N t : Int} {bg : Bool} {L All : List (Int × Int)} (h : PInv ts ck bg L All N) (ht : bg = true → ck ≤ t) (h64 : R64 t) : PInv ts t true (expP t ts L) All N ∧ heldP All t ts = expP t ts L := by
  obtain ⟨h1, h2⟩ := h.at ht
  obtain ⟨h3, h4⟩ := h2.expire
  exact ⟨⟨h3, h1, h64, fun h => (by cases h), h.few⟩, h4⟩
end Go.Proofs.Ytgfnlhigmncdmaa

end
section
namespace Go.Proofs.Ytgfnlhigmncdmaa
set_option linter.unusedVariables false
set_option linter.unusedSimpArgs false
open Go.RowKit Go.Proofs.YtgfnlhigmncdmaaW.PrintWords Go.Proofs.YtgfnlhigmncdmaaW.PrintLast Go.Proofs.YtgfnlhigmncdmaaW.PrintMore

section
variable {W w : World} {g gr : Nat} {B O : Value} {h : Nat} {tm ta ts tr : Int} {ck : Int} {bg : Bool} {L : List (Int × Int)} {All : List (Int × Int)} {N t v kd : Int}
theorem PInv.more {ts ck N N2 : Int} {bg : Bool} {L All : List (Int × Int)} (p : PInv ts ck bg L All N) (hn : N ≤ N2) : PInv ts ck bg L All N2 := ⟨p.inv, p.all, p.clock, p.fresh, by have := p.few; omega⟩
end
end Go.Proofs.Ytgfnlhigmncdmaa

end
section
namespace Go.Proofs.Ytgfnlhigmncdmaa
set_option linter.unusedVariables false
set_option linter.unusedSimpArgs false
open Go.RowKit Go.Proofs.YtgfnlhigmncdmaaW.PrintWords Go.Proofs.YtgfnlhigmncdmaaW.PrintLast Go.Proofs.YtgfnlhigmncdmaaW.PrintMore

section
variable {W w : World} {g gr : Nat} {B O : Value} {h : Nat} {tm ta ts tr : Int} {ck : Int} {bg : Bool} {L : List (Int × Int)} {All : List (Int × Int)} {N t v kd : Int}
end
end Go.Proofs.Ytgfnlhigmncdmaa

end
section
namespace Go.Proofs.Ytgfnlhigmncdmaa
set_option linter.unusedVariables false
set_option linter.unusedSimpArgs false
open Go.RowKit Go.Proofs.YtgfnlhigmncdmaaW.PrintWords Go.Proofs.YtgfnlhigmncdmaaW.PrintLast Go.Proofs.YtgfnlhigmncdmaaW.PrintMore

section
variable {W w : World} {g gr : Nat} {B O : Value} {h : Nat} {tm ta ts tr : Int} {ck : Int} {bg : Bool} {L : List (Int × Int)} {All : List (Int × Int)} {N t v kd : Int}
end
end Go.Proofs.Ytgfnlhigmncdmaa

end
section
namespace Go.Proofs.Ytgfnlhigmncdmaa
set_option linter.unusedVariables false
set_option linter.unusedSimpArgs false
open Go.RowKit Go.Proofs.Ytgfnlhigmncdmaa.XMono Go.Proofs.YtgfnlhigmncdmaaW.PrintWords Go.Proofs.YtgfnlhigmncdmaaW.PrintLast Go.Proofs.YtgfnlhigmncdmaaW.PrintMore

/-- All that is held is well, and no later than the clock. -/
def AllOk (ck : Int) (bg : Bool) (L : List (Int × Int)) : Prop := (∀ y ∈ L, SmpOk ck y) ∧ R64 ck ∧ (bg = false → L = [])
theorem AllOk.at {ck t : Int} {bg : Bool} {L : List (Int × Int)} (h : AllOk ck bg L) (ht : bg = true → ck ≤ t) : ∀ y ∈ L, SmpOk t y := by
  intro y hy
  cases bg with
  | false => rw [h.2.2 rfl] at hy; cases hy
  | true =>
    have := h.1 y hy
    have h2 := ht rfl
    exact ⟨this.1, this.2.1, by have := this.2.2; omega⟩
end Go.Proofs.Ytgfnlhigmncdmaa

end
section
namespace Go.Proofs.Ytgfnlhigmncdmaa
set_option linter.unusedVariables false
set_option linter.unusedSimpArgs false
open Go.RowKit Go.Proofs.YtgfnlhigmncdmaaW.PrintWords
set_option maxRecDepth 100000
end Go.Proofs.Ytgfnlhigmncdmaa

end
section
namespace Go.Proofs.Ytgfnlhigmncdmaa
set_option linter.unusedVariables false
set_option linter.unusedSimpArgs false
open Go.RowKit Go.Proofs.YtgfnlhigmncdmaaW.PrintWords Go.Proofs.YtgfnlhigmncdmaaW.PrintLast Go.Proofs.YtgfnlhigmncdmaaW.PrintMore

/-- A window and a reference's window have just been made. -/
theorem pair_made {W w2 w3 w4 : World} {g gr : Nat} {B O : Value} {tm ta ts tr : Int} (h2 : Below W.heap.size W w2) (r : RanL w2 w3 (fun _ => False) g gr B O tm ta ts tr 0 false [] 0) (h3 : w2.heap.size ≤ w3.heap.size)
    (h4 : w3.alloc (.cells #[.int .i64 tm, .int .i64 ta, .int .i64 ts, .int .i64 tr, .slice none 0 0, .int .i64 0, .bool false] 36) = w4) : Pair W w4 g gr B O w3.heap.size tm ta ts tr 0 false [] 0 false [] 0 := by
  have b4 : Below w3.heap.size w3 w4 := by rw [← h4]; exact below_alloc (Below.refl _ _) _
  have b3 := r.bel0
  have k4 : w4.heap[w3.heap.size]? = some (.cells #[.int .i64 tm, .int .i64 ta, .int .i64 ts, .int .i64 tr, .slice none 0 0, .int .i64 0, .bool false] 36 (0, 0)) := by rw [← h4]; exact blk_new _ _
  have hA := r.anew
  have s2 := h2.size
  have s4 := b4.size
  refine ⟨⟨_, fun _ => False, hA.other (fun k hk => hk.2) (kept_any b4) (fun _ _ h => h), ⟨⟨none, 0, k4, Kd.Q_nil _ _ _ _ _⟩, fun _ hk => hk.elim, blk_lt k4⟩, ?_, ?_⟩, (h2.trans (b3.mono s2)).trans (b4.mono (by omega))⟩
  · rintro k ⟨hk, hl⟩
    rcases hk with hk | hk
    · exact hk.elim
    · omega
  · rintro k (rfl | hk)
    · refine ⟨by omega, blk_lt k4, ?_⟩
      rintro ⟨-, hl⟩
      omega
    · exact hk.elim
end Go.Proofs.Ytgfnlhigmncdmaa

end
section
namespace Go.Proofs.Ytgfnlhigmncdmaa
set_option linter.unusedVariables false
set_option linter.unusedSimpArgs false
open Go.RowKit Go.Proofs.YtgfnlhigmncdmaaW.PrintWords Go.Proofs.YtgfnlhigmncdmaaW.PrintLast Go.Proofs.YtgfnlhigmncdmaaW.PrintMore

/-- As 'Pair'; the blocks of X are neither the window's nor the reference's. -/
structure PairX (W w : World) (X : Nat → Prop) (g gr : Nat) (B O : Value) (h : Nat) (tm ta ts tr : Int) (ck : Int) (bg : Bool) (L : List (Int × Int)) (ckr : Int) (bgr : Bool) (All : List (Int × Int)) (N : Int) : Prop where
  ex : ∃ Fa Fr : Nat → Prop, RanL w w Fa g gr B O tm ta ts tr ck bg L N ∧ RefW w h Fr tm ta ts tr ckr bgr All ∧ (∀ k, Fa k → W.heap.size ≤ k ∧ k < w.heap.size ∧ ¬ X k) ∧ ∀ k, (k = h ∨ Fr k) → W.heap.size ≤ k ∧ k < w.heap.size ∧ ¬ Fa k ∧ ¬ X k
  bel : Below W.heap.size W w
  old : ∀ k, X k → W.heap.size ≤ k ∧ k < w.heap.size
/-- Only blocks of X, and new ones, have been written. -/
def Ext (X : Nat → Prop) (w w' : World) : Prop := Kept w w' X ∧ Below 0 w w'
theorem Ext.of {X : Nat → Prop} {w w' : World} (h : Below w.heap.size w w') : Ext X w w' := ⟨Kept.of_below h _, h.mono (Nat.zero_le _)⟩
section
variable {W w w2 w' : World} {X Y : Nat → Prop} {g gr : Nat} {B O : Value} {h : Nat} {tm ta ts tr : Int} {ck : Int} {bg : Bool} {L : List (Int × Int)} {ckr : Int} {bgr : Bool} {All : List (Int × Int)} {N t x : Int}
theorem PairX.of (i : Pair W w g gr B O h tm ta ts tr ck bg L ckr bgr All N) : PairX W w (fun _ => False) g gr B O h tm ta ts tr ck bg L ckr bgr All N := by
  obtain ⟨⟨Fa, Fr, h1, h2, h3, h4⟩, h5⟩ := i
  exact ⟨⟨Fa, Fr, h1, h2, fun k hk => ⟨(h3 k hk).1, (h3 k hk).2, fun h => h⟩, fun k hk => ⟨(h4 k hk).1, (h4 k hk).2.1, (h4 k hk).2.2, fun h => h⟩⟩, h5, fun k hk => hk.elim⟩
/-- New blocks that are neither's; blocks of X may have been written. -/
theorem PairX.ext (i : PairX W w X g gr B O h tm ta ts tr ck bg L ckr bgr All N) (hb : Ext X w w') (hY : ∀ k, Y k → X k ∨ w.heap.size ≤ k ∧ k < w'.heap.size) : PairX W w' Y g gr B O h tm ta ts tr ck bg L ckr bgr All N := by
  obtain ⟨⟨Fa, Fr, h1, h2, h3, h4⟩, h5, h6⟩ := i
  have hs := hb.1.1
  have hs5 := h5.size
  refine ⟨⟨Fa, Fr, h1.other (fun k hk => (h3 k hk).2.1) hb.1 (fun k hk => (h3 k hk).2.2), h2.kept hb.1 (h4 h (.inl rfl)).2.2.2 (fun k hk => (h4 k (.inr hk)).2.2.2), fun k hk => ⟨(h3 k hk).1, by have := (h3 k hk).2.1; omega, fun hy => ?_⟩, fun k hk => ⟨(h4 k hk).1, by have := (h4 k hk).2.1; omega, (h4 k hk).2.2.1, fun hy => ?_⟩⟩, below_of_kept8 h5 hb.2 hb.1 (fun k hk hx => by have := (h6 k hx).1; omega), fun k hk => ?_⟩
  · rcases hY k hy with hx | hx
    · exact (h3 k hk).2.2 hx
    · have := (h3 k hk).2.1; omega
  · rcases hY k hy with hx | hx
    · exact (h4 k hk).2.2.2 hx
    · have := (h4 k hk).2.1; omega
  · rcases hY k hk with hx | hx
    · exact ⟨(h6 k hx).1, by have := (h6 k hx).2; omega⟩
    · exact ⟨by omega, hx.2⟩
theorem PairX.below (i : PairX W w X g gr B O h tm ta ts tr ck bg L ckr bgr All N) (hb : Below w.heap.size w w') (hY : ∀ k, Y k → X k ∨ w.heap.size ≤ k ∧ k < w'.heap.size) : PairX W w' Y g gr B O h tm ta ts tr ck bg L ckr bgr All N := i.ext (Ext.of hb) hY
theorem PairX.pair (i : PairX W w X g gr B O h tm ta ts tr ck bg L ckr bgr All N) : Pair W w g gr B O h tm ta ts tr ck bg L ckr bgr All N := by
  obtain ⟨⟨Fa, Fr, h1, h2, h3, h4⟩, h5, h6⟩ := i
  exact ⟨⟨Fa, Fr, h1, h2, fun k hk => ⟨(h3 k hk).1, (h3 k hk).2.1⟩, fun k hk => ⟨(h4 k hk).1, (h4 k hk).2.1, (h4 k hk).2.2.1⟩⟩, h5⟩
theorem PairX.more (i : PairX W w X g gr B O h tm ta ts tr ck bg L ckr bgr All N) {N2 : Int} (hN : N ≤ N2) : PairX W w X g gr B O h tm ta ts tr ck bg L ckr bgr All N2 := by
  obtain ⟨⟨Fa, Fr, h1, h2, h3, h4⟩, h5, h6⟩ := i
  exact ⟨⟨Fa, Fr, h1.more hN, h2, h3, h4⟩, h5, h6⟩
/-- What is neither's is as it was. -/
def Same (X : Nat → Prop) (w w' : World) : Prop := w.heap.size ≤ w'.heap.size ∧ ∀ k, X k → w'.heap[k]? = w.heap[k]?
theorem PairX.stepW (i : PairX W w X g gr B O h tm ta ts tr ck bg L ckr bgr All N) : ∃ Fa : Nat → Prop, RanL w w Fa g gr B O tm ta ts tr ck bg L N ∧
    ∀ (w' : World) (ck2 : Int) (bg2 : Bool) (L2 : List (Int × Int)) (N2 : Int), RanL w w' Fa g gr B O tm ta ts tr ck2 bg2 L2 N2 → Same X w w' ∧ PairX W w' X g gr B O h tm ta ts tr ck2 bg2 L2 ckr bgr All N2 := by
  obtain ⟨⟨Fa, Fr, h1, h2, h3, h4⟩, h5, h6⟩ := i
  refine ⟨Fa, h1, fun w' ck2 bg2 L2 N2 j => ⟨⟨j.kept.1, fun k hk => j.kept.2 k (h6 k hk).2 (fun hf => (h3 k hf).2.2 hk)⟩, ?_⟩⟩
  obtain ⟨Fa2, e1, e2, e3, e4, e5⟩ := pairW h1 h2 (fun k hk => ⟨(h3 k hk).1, (h3 k hk).2.1⟩) (fun k hk => ⟨(h4 k hk).1, (h4 k hk).2.1, (h4 k hk).2.2.1⟩) h5 j
  have hs := j.kept.1
  have ha := j.anew
  refine ⟨⟨_, Fr, ha, e2, ?_, ?_⟩, e5, fun k hk => ⟨(h6 k hk).1, by have := (h6 k hk).2; omega⟩⟩
  · rintro k ⟨hk, hl⟩
    rcases hk with hk | hk
    · exact ⟨(h3 k hk).1, hl, (h3 k hk).2.2⟩
    · exact ⟨by have := h5.size; omega, hl, fun hx => by have := (h6 k hx).2; omega⟩
  · intro k hk
    have := h4 k hk
    refine ⟨this.1, by omega, ?_, this.2.2.2⟩
    rintro ⟨hk2, -⟩
    rcases hk2 with hk2 | hk2
    · exact this.2.2.1 hk2
    · omega
theorem PairX.stepR (i : PairX W w X g gr B O h tm ta ts tr ck bg L ckr bgr All N) : ∃ Fr : Nat → Prop, RefW w h Fr tm ta ts tr ckr bgr All ∧
    ∀ (w' : World) (ck2 : Int) (bg2 : Bool) (All2 : List (Int × Int)), RefW w' h (fun k => Fr k ∨ w.heap.size ≤ k) tm ta ts tr ck2 bg2 All2 → Kept w w' (fun k => k = h ∨ Fr k) → Below 0 w w' → Same X w w' ∧ PairX W w' X g gr B O h tm ta ts tr ck bg L ck2 bg2 All2 N := by
  obtain ⟨⟨Fa, Fr, h1, h2, h3, h4⟩, h5, h6⟩ := i
  refine ⟨Fr, h2, fun w' ck2 bg2 All2 j jk jb => ⟨⟨jk.1, fun k hk => jk.2 k (h6 k hk).2 (fun hf => (h4 k hf).2.2.2 hk)⟩, ?_⟩⟩
  have hs := jk.1
  have hs5 := h5.size
  refine ⟨⟨Fa, _, h1.other (fun k hk => (h3 k hk).2.1) jk (fun k hk hr => (h4 k hr).2.2.1 hk), j.tight, ?_, ?_⟩, below_of_kept8 h5 jb jk (fun k hk ha => by have := (h4 k ha).1; omega), fun k hk => ⟨(h6 k hk).1, by have := (h6 k hk).2; omega⟩⟩
  · intro k hk
    exact ⟨(h3 k hk).1, by have := (h3 k hk).2.1; omega, (h3 k hk).2.2⟩
  · rintro k (rfl | ⟨hk, hl⟩)
    · have := h4 k (.inl rfl)
      exact ⟨this.1, by omega, this.2.2⟩
    · rcases hk with hk | hk
      · have := h4 k (.inr hk)
        exact ⟨this.1, hl, this.2.2⟩
      · exact ⟨by omega, hl, fun ha => by have := (h3 k ha).2.1; omega, fun hx => by have := (h6 k hx).2; omega⟩
/-- A question to both: they answer the same, whether it is stale or not. -/
theorem pairX_reads (i : PairX W w X g gr B O h tm ta ts tr ck bg L ck bg All N) (p : PInv ts ck bg L All N) (hR : RightT tm ta ts tr) (ht : R64 t) (hN : N ≤ 8796093022200) :
    ∃ (r0 r1 en : Int), Calls Try.prog 13 #[.pointer (some ⟨g, 0, none⟩), .int .i64 t] w fun e w3 => e = .returned (.tuple #[.agg #[.int .i64 r0, .int .i64 r1], .int .i64 en]) ∧ Same X w w3 ∧
      ∀ (w4 : World) (Y : Nat → Prop), Ext X w3 w4 → (∀ k, Y k → X k ∨ w3.heap.size ≤ k ∧ k < w4.heap.size) → Calls Try.prog 14 #[.pointer (some ⟨h, 0, none⟩), .int .i64 t] w4 fun e w5 => e = .returned (.tuple #[.agg #[.int .i64 r0, .int .i64 r1], .int .i64 en]) ∧ Same Y w4 w5 ∧
        ∃ (ck2 : Int) (bg2 : Bool) (L2 : List (Int × Int)), PairX W w5 Y g gr B O h tm ta ts tr ck2 bg2 L2 ck2 bg2 All N ∧ PInv ts ck2 bg2 L2 All N := by
  by_cases hs : bg = true ∧ t < ck
  · obtain ⟨rfl, hs⟩ := hs
    refine ⟨0, 0, 32, ?_⟩
    obtain ⟨Fa, hA, -⟩ := i.stepW
    refine (win_read_stale hA hs).mono ?_
    rintro e w3 ⟨rfl, b3⟩
    refine ⟨rfl, ⟨b3.size, fun k hk => b3.block k (i.old k hk).2⟩, fun w4 Y b4 hY => ?_⟩
    have i3 : PairX W w3 X g gr B O h tm ta ts tr ck true L ck true All N := i.below b3 (fun k hk => .inl hk)
    have i4 := i3.ext b4 hY
    obtain ⟨Fr, hr, -⟩ := i4.stepR
    refine (ref_wread_stale hr hs).mono ?_
    rintro e w5 ⟨rfl, b5⟩
    exact ⟨rfl, ⟨b5.size, fun k hk => b5.block k (i4.old k hk).2⟩, ck, true, L, i4.below b5 (fun k hk => .inl hk), p⟩
  · have hg : bg = true → ck ≤ t := fun h => by
      by_cases h2 : t < ck
      · exact absurd ⟨h, h2⟩ hs
      · omega
    obtain ⟨hp1, hp2⟩ := p.read hg ht
    refine ⟨(readV ta tr ((expP t ts L).map (·.2))).1, (readV ta tr ((expP t ts L).map (·.2))).2, 0, ?_⟩
    obtain ⟨Fa, hA, st⟩ := i.stepW
    refine (win_read hA (fun y hy => (p.at hg).1 y (p.sub y hy)) ht hR.2.2.2.1 hR.2.2.2.2.1 ⟨hR.2.1, hR.2.2.1⟩ hR.2.2.2.2.2.1 hg).mono ?_
    rintro e w3 ⟨rfl, s3, r3⟩
    obtain ⟨m3, i3⟩ := st _ _ _ _ _ r3
    refine ⟨rfl, m3, fun w4 Y b4 hY => ?_⟩
    have i4 := i3.ext b4 hY
    obtain ⟨Fr, hr, sr⟩ := i4.stepR
    refine (ref_wread hr hR ht (p.at hg).1 (by have := p.few; omega) hg).mono ?_
    rintro e w5 ⟨rfl, r5, k5, b5⟩
    have hlt := hr.lt
    obtain ⟨m5, i5⟩ := sr w5 _ _ _ (r5.mono (fun k hk => .inl hk) (fun k hk => by rcases hk with hk | hk; exact r5.away k hk; omega)) (k5.mono (fun k hk => .inl hk)) b5
    exact ⟨by rw [hp2], m5, t, true, _, i5, hp1⟩
/-- A sample put into both, not stale. -/
theorem pairX_puts (i : PairX W w X g gr B O h tm ta ts tr ck bg L ck bg All N) (p : PInv ts ck bg L All N) (hR : RightT tm ta ts tr) (ht : R64 t) (hx : R64 x) (hN : N + 1 ≤ 8796093022200) (hg : bg = true → ck ≤ t) :
    Calls Try.prog 11 #[.pointer (some ⟨g, 0, none⟩), .agg #[.int .i64 t, .int .i64 x]] w fun e w3 => e = .returned (.int .i64 0) ∧ Same X w w3 ∧
      ∀ (w4 : World) (Y : Nat → Prop), Ext X w3 w4 → (∀ k, Y k → X k ∨ w3.heap.size ≤ k ∧ k < w4.heap.size) → Calls Try.prog 12 #[.pointer (some ⟨h, 0, none⟩), .agg #[.int .i64 t, .int .i64 x]] w4 fun e w5 => e = .returned (.int .i64 0) ∧ Same Y w4 w5 ∧
        PairX W w5 Y g gr B O h tm ta ts tr t true (pushP L (t, x)) t true (All ++ [(t, x)]) (N + 1) ∧ PInv ts t true (pushP L (t, x)) (All ++ [(t, x)]) (N + 1) := by
  obtain ⟨Fa, hA, st⟩ := i.stepW
  refine (win_put hA hx (fun y hy => ((p.at hg).1 y (p.sub y hy)).2.1) hg (by omega)).mono ?_
  rintro e w3 ⟨rfl, s3, r3⟩
  obtain ⟨m3, i3⟩ := st _ _ _ _ _ r3
  refine ⟨rfl, m3, fun w4 Y b4 hY => ?_⟩
  have i4 := i3.ext b4 hY
  obtain ⟨Fr, hr, sr⟩ := i4.stepR
  refine (ref_put hr hg (by have := p.few; omega)).mono ?_
  rintro e w5 ⟨rfl, r5, k5, b5⟩
  obtain ⟨m5, i5⟩ := sr w5 _ _ _ r5 k5 b5
  exact ⟨rfl, m5, i5, p.put hg ht hx⟩
end
end Go.Proofs.Ytgfnlhigmncdmaa

end
section
namespace Go.Proofs.Ytgfnlhigmncdmaa
set_option linter.unusedVariables false
set_option linter.unusedSimpArgs false
open Go.RowKit Go.Proofs.YtgfnlhigmncdmaaW.PrintWords Go.Proofs.YtgfnlhigmncdmaaW.PrintLast Go.Proofs.YtgfnlhigmncdmaaW.PrintMore

theorem tmod_lim (a : Int) {n : Int} (hn : 0 < n) : -n < a.tmod n ∧ a.tmod n < n := by
  have h1 := Int.lt_tmod_of_pos a hn
  have h2 := Int.tmod_lt_of_pos a hn
  omega
/-- What the law draws from its numbers. -/
theorem flood_vals {from0 step0 wide0 low nn fr gp wd lw : Int} {m : Nat} (hfr : from0.tmod 1000000000 = fr) (hgp : max (step0.tmod 5) 0 = gp) (hwd : 1 + max (wide0.tmod 1000) 0 = wd) (hlw : low.tmod 1000000000000 = lw) (hm : nn.tmod 9000 = (m : Int)) (h0 : 0 ≤ nn) :
    -1000000000 < fr ∧ fr < 1000000000 ∧ 0 ≤ gp ∧ gp ≤ 4 ∧ 1 ≤ wd ∧ wd ≤ 1000 ∧ -1000000000000 < lw ∧ lw < 1000000000000 ∧ m < 9000 := by
  have h1 := tmod_lim from0 (n := 1000000000) (by decide)
  have h2 := tmod_lim step0 (n := 5) (by decide)
  have h3 := tmod_lim wide0 (n := 1000) (by decide)
  have h4 := tmod_lim low (n := 1000000000000) (by decide)
  have h5 := tmod_lim nn (n := 9000) (by decide)
  rw [hfr] at h1
  rw [hlw] at h4
  rw [hm] at h5
  generalize step0.tmod 5 = s at *
  generalize wide0.tmod 1000 = q at *
  omega
/-- A sample's time and value. -/
theorem flood_smp {fr gp wd lw : Int} {i : Nat} (h : -1000000000 < fr ∧ fr < 1000000000 ∧ 0 ≤ gp ∧ gp ≤ 4 ∧ 1 ≤ wd ∧ wd ≤ 1000 ∧ -1000000000000 < lw ∧ lw < 1000000000000) (hi : i < 9000) :
    ∃ pg tt rm vv : Int, wrap64 ((i : Int) * gp) = pg ∧ wrap64 (fr + pg) = tt ∧ (i : Int).tmod wd = rm ∧ wrap64 (lw + rm) = vv ∧ tt = fr + (i : Int) * gp ∧ R64 tt ∧ R64 vv := by
  have h1 : 0 ≤ (i : Int) * gp := Int.mul_nonneg (by omega) (by omega)
  have h2 : (i : Int) * gp ≤ (i : Int) * 4 := Int.mul_le_mul_of_nonneg_left (by omega) (by omega)
  have h3 := tmod_lim (i : Int) (n := wd) (by omega)
  refine ⟨(i : Int) * gp, fr + (i : Int) * gp, (i : Int).tmod wd, lw + (i : Int).tmod wd, ?_, ?_, rfl, ?_, rfl, ?_, ?_⟩
  all_goals
    generalize (i : Int) * gp = a at *
    generalize (i : Int).tmod wd = b at *
    first | (unfold wrap64; omega) | (unfold R64; omega)
theorem flood_next {fr gp : Int} {i : Nat} (h : 0 ≤ gp) : fr + (i : Int) * gp ≤ fr + ((i + 1 : Nat) : Int) * gp := by
  have : ((i + 1 : Nat) : Int) * gp = (i : Int) * gp + gp := by rw [Int.natCast_add, Int.add_mul]; simp
  omega
set_option maxHeartbeats 16000000 in
set_option maxRecDepth 100000 in
theorem floods_six {nn span from0 step0 low wide0 fst snd : Int} (W : World) (h1 : 0 ≤ nn ∧ nn ≤ 65535) (hf : R64 from0) (hs : R64 step0) (hl : R64 low) (hw : R64 wide0) (ht1 : R64 fst) (ht2 : R64 snd) :
    Calls Try.prog 3 #[.agg #[.int .u16 nn, .int .i64 6, .int .i64 span, .int .i64 from0, .int .i64 step0, .int .i64 low, .int .i64 wide0], .int .i64 fst, .int .i64 snd] W fun e w' => e = .returned (.bool true) ∧ Below W.heap.size W w' := by
  obtain ⟨w1, hw1⟩ : ∃ w1, W.alloc (.cells #[.int .u16 nn, .int .i64 6, .int .i64 span, .int .i64 from0, .int .i64 step0, .int .i64 low, .int .i64 wide0] 24) = w1 := ⟨_, rfl⟩
  obtain ⟨b, hbdef⟩ : ∃ b, W.heap.size = b := ⟨_, rfl⟩
  have hbel : Below W.heap.size W w1 := by subst hw1; exact below_alloc (Below.refl _ _) _
  have hblk : w1.heap[b]? = some (.cells #[.int .u16 nn, .int .i64 6, .int .i64 span, .int .i64 from0, .int .i64 step0, .int .i64 low, .int .i64 wide0] 24 (0, 0)) := by subst hw1 hbdef; exact blk_new _ _
  have HB := Lib.hid hbel
  have HK := Lib.hid hblk
  have H1 := Lib.hid h1
  have HT := Lib.hid (And.intro ht1 ht2)
  obtain ⟨fr, hfr⟩ : ∃ fr, from0.tmod 1000000000 = fr := ⟨_, rfl⟩
  obtain ⟨gp, hgp⟩ : ∃ gp, max (step0.tmod 5) 0 = gp := ⟨_, rfl⟩
  obtain ⟨wd, hwd⟩ : ∃ wd, 1 + max (wide0.tmod 1000) 0 = wd := ⟨_, rfl⟩
  obtain ⟨lw, hlw⟩ : ∃ lw, low.tmod 1000000000000 = lw := ⟨_, rfl⟩
  obtain ⟨m, hm⟩ : ∃ m : Nat, nn.tmod 9000 = (m : Int) := ⟨(nn.tmod 9000).toNat, by rw [Int.toNat_of_nonneg (Int.tmod_nonneg _ h1.1)]⟩
  have HLW := Lib.hid hlw
  have HV := Lib.hid (flood_vals hfr hgp hwd hlw hm h1.1)
  have hww : wrap64 wd = wd := by have := HV.out; unfold wrap64; omega
  clear hbel hblk h1 ht1 ht2 hf hs hl hw
  go_enter Try.func3, Try.ntmps3
  go_wp2_with fail
  refine (awake08 _).mono ?_
  rintro e w2 ⟨rfl, b2⟩
  have k2 := blk_below HK.out b2
  have c1 := (blk_cell k2 1).trans rfl
  have c2 := (blk_cell k2 2).trans rfl
  have K2 := Lib.hid k2
  have B2 := Lib.hid (HB.out.trans (b2.mono HB.out.size))
  clear k2 b2
  go_upto_region 4 with fail
  obtain ⟨w3, hw3⟩ : ∃ w3, w2.alloc (.cells #[.int .i64 0, .int .i64 6, .int .i64 span, .int .i64 0] 27) = w3 := ⟨_, rfl⟩
  obtain ⟨b7, hb7⟩ : ∃ b7, w2.heap.size = b7 := ⟨_, rfl⟩
  have b3 : Below w2.heap.size w2 w3 := by subst hw3; exact below_alloc (Below.refl _ _) _
  have k3 : w3.heap[b7]? = some (.cells #[.int .i64 0, .int .i64 6, .int .i64 span, .int .i64 0] 27 (0, 0)) := by subst hw3 hb7; exact blk_new _ _
  have kb3 := blk_below K2.out b3
  have x1 := (blk_cell kb3 1).trans rfl
  have f3 := blk_frozen k3 3
  have u3 := (blk_cell k3 3).trans rfl
  obtain ⟨wt, hwt⟩ : ∃ wt, w3.setCell ⟨b7, 3, none⟩ (.int .i64 50000000) = wt := ⟨_, rfl⟩
  have kt : wt.heap[b7]? = some (.cells #[.int .i64 0, .int .i64 6, .int .i64 span, .int .i64 50000000] 27 (0, 0)) := by subst hwt; simpa using blk_set k3 3 (.int .i64 50000000)
  have kbt : wt.heap[b]? = some (.cells #[.int .u16 nn, .int .i64 6, .int .i64 span, .int .i64 from0, .int .i64 step0, .int .i64 low, .int .i64 wide0] 24 (0, 0)) := by subst hwt; exact blk_far kb3 (by show b ≠ b7; have := blk_lt K2.out; omega) _
  have bt : Below W.heap.size W wt := by subst hwt; exact (B2.out.trans (b3.mono B2.out.size)).setCell (p := ⟨b7, 3, none⟩) (by show _ ≤ b7; have := B2.out.size; omega) _
  have KB := Lib.hid kbt
  have BT := Lib.hid bt
  have v0 := (blk_cell kt 0).trans rfl
  have v1 := (blk_cell kt 1).trans rfl
  have v2 := (blk_cell kt 2).trans rfl
  have v3 := (blk_cell kt 3).trans rfl
  have KT := Lib.hid kt
  clear b3 k3 kb3 kbt bt kt
  by_cases hR : RightT 0 6 span 50000000
  · have HR := Lib.hid hR
    clear hR
    go_wp2_with fail
    refine (win_new wt HR.out).mono ?_
    rintro e w4 ⟨g, gr, B, O, rfl, s4, r4⟩
    have b4 := r4.bel0
    have k4 := blk_below KT.out b4
    have v0 := (blk_cell k4 0).trans rfl
    have v1 := (blk_cell k4 1).trans rfl
    have v2 := (blk_cell k4 2).trans rfl
    have v3 := (blk_cell k4 3).trans rfl
    have K4 := Lib.hid k4
    have R4 := Lib.hid r4
    clear s4 r4 b4 k4
    go_wp2_with fail
    refine (XWinA.capstanref08_Right.calls 1 0 6 span 50000000 true _ (by rw [right_ref, decide_eq_true HR.out])).mono ?_
    rintro e w5 ⟨rfl, b5⟩
    have k5 := blk_below K4.out b5
    have v0 := (blk_cell k5 0).trans rfl
    have v1 := (blk_cell k5 1).trans rfl
    have v2 := (blk_cell k5 2).trans rfl
    have v3 := (blk_cell k5 3).trans rfl
    have R5 := Lib.hid (R4.out.below b5)
    obtain ⟨w6, hw6⟩ : ∃ w6, w5.alloc (.cells #[.int .i64 0, .int .i64 6, .int .i64 span, .int .i64 50000000, .slice none 0 0, .int .i64 0, .bool false] 36) = w6 := ⟨_, rfl⟩
    have HI := Lib.hid (pair_made (Below.refl wt.heap.size wt) R5.out R5.out.kept.1 hw6)
    obtain ⟨h, hh⟩ : ∃ h, w5.heap.size = h := ⟨_, rfl⟩
    rw [hh] at HI
    have kb6 := blk_below KB.out HI.out.bel
    have z3 := (blk_cell kb6 3).trans rfl
    have z4 := (blk_cell kb6 4).trans rfl
    have z6 := (blk_cell kb6 6).trans rfl
    clear k5 b5 kb6
    have HWW := Lib.hid hww
    have HMM := Lib.hid hm
    have c16 : IntKind.i64.wrap (m : Int) = (m : Int) := by rw [i64_w]; have := HV.out; unfold wrap64; omega
    have c17 : IntKind.u16.wrap (m : Int) = (m : Int) := by have := HV.out; show (m : Int) % 65536 = m; omega
    go_wp2
    rw [hww]
    clear hfr hgp hwd hlw
    go_loopg [14] m (fun kq v14 w' => ∃ (i : Nat) (ck : Int) (bg : Bool) (L All : List (Int × Int)), v14 = .int .i64 i ∧ Aside0 (i + kq = m) ∧ Aside0 (PInv span ck bg L All i) ∧ Aside0 (Pair wt w' g gr B O h 0 6 span 50000000 ck bg L ck bg All i) ∧ Aside0 (bg = true → ck ≤ fr + (i : Int) * gp))
    case atStart => exact ⟨0, 0, false, [], [], rfl, ⟨by omega⟩, ⟨⟨WinInv.nil _ _, fun y hy => (by cases hy), (by decide), fun _ => rfl, (by simp)⟩⟩, ⟨HI.out⟩, ⟨fun h => (by cases h)⟩⟩
    case round =>
      obtain ⟨i, ck, bg, L, All, rfl, hk, ho, hT, hg⟩ := hrel
      have HKQ := Lib.hid hk.out
      have HO := Lib.hid ho.out
      have T1 := Lib.hid hT.out
      have HGE := Lib.hid hg.out
      clear hk ho hT hg HI z3 z4 z6 v0 v1 v2 v3
      have kbr := blk_below KB.out T1.out.bel
      have z0 := (blk_cell kbr 0).trans rfl
      have z5 := (blk_cell kbr 5).trans rfl
      have zn5 := World.new_ne wr _ z5
      have KBR := Lib.hid kbr
      clear kbr
      by_cases hi : i < m
      · have e1 : ((i : Int) < (m : Int)) = True := eq_true (by omega)
        have e2 := eq_true hi
        have Hi := Lib.hid hi
        obtain ⟨pg, tt, rm, vv, s1, s2, s3, s4, s5, s6, s7⟩ := flood_smp (fr := fr) (gp := gp) (wd := wd) (lw := lw) (i := i) ⟨HV.out.1, HV.out.2.1, HV.out.2.2.1, HV.out.2.2.2.1, HV.out.2.2.2.2.1, HV.out.2.2.2.2.2.1, HV.out.2.2.2.2.2.2.1, HV.out.2.2.2.2.2.2.2.1⟩ (by have := HV.out.2.2.2.2.2.2.2.2; omega)
        have HTV := Lib.hid (And.intro s6 s7)
        have HTT := Lib.hid s5
        have q1 : IntKind.i64.wrap ((i : Int) * gp) = pg := by rw [i64_w, s1]
        have q2 : IntKind.i64.wrap (fr + pg) = tt := by rw [i64_w, s2]
        have q4 : IntKind.i64.wrap (lw + rm) = vv := by rw [i64_w, s4]
        have hw0 : ¬ wd = 0 := by have := HV.out; omega
        have hw1 : wd ≠ 0 := hw0
        have hw2 : (wd = 0) = False := eq_false hw0
        have hw3 : (wd == 0) = false := by simpa using hw0
        have hw4 : ¬ (0 = wd) := fun h => hw0 h.symm
        have hlw := HLW.out
        clear hi s5 s6 s7
        go_upto_region 18 with fail
        go_cut [15] (fun v15 wx => ∃ b15 : Nat, v15 = .pointer (some ⟨b15, 0, none⟩) ∧ Aside0 (wr.heap.size ≤ b15 ∧ b15 < wx.heap.size) ∧ Aside0 (wx.heap[b15]? = some (.cells #[.int .i64 tt, .int .i64 vv] 38 (0, 0))) ∧ Aside0 (Below wr.heap.size wr wx))
        case first =>
          go_region_held3 (fun w' => w'.cell? ⟨b, 5, none⟩ = some (.int .i64 low)) (first | exact z5 | (simp [go_sem, z5]; done) | go_keep) (fail)
          all_goals
            go_wp2_with fail
            go_meet
            exact ⟨wr.heap.size, rfl, ⟨Nat.le_refl _, by show wr.heap.size < (wr.alloc _).heap.size; simp only [World.size_alloc]; omega⟩, ⟨by first | exact blk_new wr _ | (simp only [q1, q2, q4]; exact blk_new wr _)⟩, ⟨by first | exact (below_alloc (Below.refl wr.heap.size wr) _) | exact (below_alloc (Below.refl wr.heap.size wr) _).drew | exact below_alloc (Below.refl wr.heap.size wr).drew _⟩⟩
        case rest =>
          obtain ⟨b15, rfl, hb15, k15, bel15⟩ := hcut
          have y0 := (blk_cell k15.out 0).trans rfl
          have y1 := (blk_cell k15.out 1).trans rfl
          have K15 := Lib.hid k15.out
          have IX := Lib.hid ((PairX.of T1.out).below (Y := fun k => k = b15) (bel15.out.trans ((Below.refl wc.heap.size wc).drew.mono bel15.out.size)) (fun k hk => .inr (by subst hk; exact hb15.out)))
          have HGT := Lib.hid (show bg = true → ck ≤ tt from fun h => by rw [HTT.out]; exact HGE.out h)
          clear hb15 k15 bel15 z0 z5 zn5 s1 s2 s3 s4 q1 q2 q4
          go_wp2
          go_region_held3 (fun w' => w'.cell? ⟨b15, 0, none⟩ = some (.int .i64 tt) ∧ w'.cell? ⟨b15, 1, none⟩ = some (.int .i64 vv)) (first | exact ⟨y0, y1⟩ | exact ⟨p0, p1⟩ | exact ⟨q0, q1⟩ | (simp [go_sem, y0, y1]; done)) (first
            | (go_at_call 11; refine (pairX_puts IX.out HO.out HR.out HTV.out.1 HTV.out.2 (by have := HV.out; have := Hi.out; omega) HGT.out).mono ?_; rintro e w7 ⟨rfl, m7, nx⟩; have k7 := (m7.2 b15 rfl).trans K15.out; have p0 := (blk_cell k7 0).trans rfl; have p1 := (blk_cell k7 1).trans rfl; have K7 := Lib.hid k7; have NX := Lib.hid nx; clear m7 nx k7)
            | (go_at_call 12; refine (NX.out w7 (fun k => k = b15) (Ext.of (Below.refl _ _)) (fun k hk => .inl hk)).mono ?_; rintro e w8 ⟨rfl, m8, i8, p8⟩; have k8 := (m8.2 b15 rfl).trans K7.out; have q0 := (blk_cell k8 0).trans rfl; have q1 := (blk_cell k8 1).trans rfl; have I8 := Lib.hid i8.pair; have P8 := Lib.hid p8; clear m8 k8 i8 p8))
          have hwi : wrap64 ((i : Int) + 1) = ((i + 1 : Nat) : Int) := by have := HV.out; have := Hi.out; unfold wrap64; omega
          all_goals
            go_wp2
            go_roundg (gk - 1)
            case measure => have := HKQ.out; have := Hi.out; omega
            case rel => exact ⟨i + 1, tt, true, pushP L (tt, vv), All ++ [(tt, vv)], by first | rfl | simp [hwi], ⟨by have := HKQ.out; have := Hi.out; omega⟩, ⟨P8.out⟩, ⟨I8.out⟩, ⟨fun _ => by rw [HTT.out]; exact flood_next HV.out.2.2.1⟩⟩
      · have e1 : ((i : Int) < (m : Int)) = False := eq_false (by omega)
        have e2 := eq_false hi
        have hi9 : (i : Int) ≤ 9000 := by have := HKQ.out; have := HV.out; omega
        obtain ⟨r0, r1, en, hc⟩ := pairX_reads (PairX.of T1.out) HO.out HR.out HT.out.1 (by omega)
        have HC := Lib.hid hc
        clear hc hi z5 zn5
        go_wp2_with fail
        refine HC.out.mono ?_
        rintro e w7 ⟨rfl, m7, nx⟩
        obtain ⟨w8, hw8⟩ : ∃ w8, w7.alloc (.cells #[.int .i64 r0, .int .i64 r1] 42) = w8 := ⟨_, rfl⟩
        obtain ⟨b16, hb16⟩ : ∃ b16, w7.heap.size = b16 := ⟨_, rfl⟩
        have b8 : Below w7.heap.size w7 w8 := by subst hw8; exact below_alloc (Below.refl _ _) _
        have k8 : w8.heap[b16]? = some (.cells #[.int .i64 r0, .int .i64 r1] 42 (0, 0)) := by subst hw8 hb16; exact blk_new _ _
        have NX := Lib.hid (nx w8 (fun k => k = b16) (Ext.of b8) (fun k hk => .inr (by subst hk; exact ⟨by omega, blk_lt k8⟩)))
        have K8 := Lib.hid k8
        clear m7 nx b8 k8
        go_wp2_with fail
        refine NX.out.mono ?_
        rintro e w9 ⟨rfl, m9, ck2, bg2, L2, i9, p9⟩
        have k9 := (m9.2 b16 rfl).trans K8.out
        obtain ⟨w10, hw10⟩ : ∃ w10, w9.alloc (.cells #[.int .i64 r0, .int .i64 r1] 42) = w10 := ⟨_, rfl⟩
        obtain ⟨b18, hb18⟩ : ∃ b18, w9.heap.size = b18 := ⟨_, rfl⟩
        have b10 : Below w9.heap.size w9 w10 := by subst hw10; exact below_alloc (Below.refl _ _) _
        have k10 : w10.heap[b18]? = some (.cells #[.int .i64 r0, .int .i64 r1] 42 (0, 0)) := by subst hw10 hb18; exact blk_new _ _
        have j10 := blk_below k9 b10
        have hne : b16 ≠ b18 := by have := blk_lt k9; omega
        have i10 : PairX wt w10 (fun k => k = b16 ∨ k = b18) g gr B O h 0 6 span 50000000 ck2 bg2 L2 ck2 bg2 All i := i9.below b10 (fun k hk => by rcases hk with hk | hk; exact .inl hk; exact .inr (by subst hk; exact ⟨by omega, blk_lt k10⟩))
        obtain ⟨t0, t1, en2, hc2⟩ := pairX_reads i10 p9 HR.out HT.out.2 (by omega)
        have HC2 := Lib.hid hc2
        have u0 := (blk_cell j10 0).trans rfl
        have u1 := (blk_cell j10 1).trans rfl
        have u2 := (blk_cell k10 0).trans rfl
        have u3 := (blk_cell k10 1).trans rfl
        have J10 := Lib.hid j10
        have K10 := Lib.hid k10
        have HNE := Lib.hid hne
        have EQ := fun w => sameResN r0 r1 w
        clear m9 i9 p9 k9 b10 k10 j10 i10 hc2
        go_wp2_with fail
        refine HC2.out.mono ?_
        rintro e w11 ⟨rfl, m11, nx⟩
        have j11 := (m11.2 b16 (.inl rfl)).trans J10.out
        have k11 := (m11.2 b18 (.inr rfl)).trans K10.out
        have a0 := (blk_cell j11 0).trans rfl
        have a1 := (blk_cell j11 1).trans rfl
        have a2 := blk_frozen j11 0
        have a3 := blk_frozen j11 1
        obtain ⟨w12, hw12⟩ : ∃ w12, (w11.setCell ⟨b16, 0, none⟩ (.int .i64 t0)).setCell ⟨b16, 1, none⟩ (.int .i64 t1) = w12 := ⟨_, rfl⟩
        have j12 : w12.heap[b16]? = some (.cells #[.int .i64 t0, .int .i64 t1] 42 (0, 0)) := by subst hw12; exact two_set j11 _ _
        have x12 : Ext (fun k => k = b16 ∨ k = b18) w11 w12 := by
          subst hw12
          exact ⟨((Kept.refl w11 (fun k => k = b16 ∨ k = b18)).setCell (p := ⟨b16, 0, none⟩) (.inl (.inl rfl)) _).setCell (p := ⟨b16, 1, none⟩) (.inl (.inl rfl)) _, ((Below.refl 0 w11).setCell (p := ⟨b16, 0, none⟩) (Nat.zero_le _) _).setCell (p := ⟨b16, 1, none⟩) (Nat.zero_le _) _⟩
        have k12 : w12.heap[b18]? = some (.cells #[.int .i64 r0, .int .i64 r1] 42 (0, 0)) := by subst hw12; exact blk_far (blk_far k11 (by show b18 ≠ b16; exact fun e => HNE.out e.symm) _) (by show b18 ≠ b16; exact fun e => HNE.out e.symm) _
        have NX2 := Lib.hid (nx w12 (fun k => k = b16 ∨ k = b18) x12 (fun k hk => .inl hk))
        have J12 := Lib.hid j12
        have K12 := Lib.hid k12
        clear m11 nx j11 k11 j12 k12 x12 u0 u1 u2 u3 EQ
        go_wp2_with fail
        refine NX2.out.mono ?_
        rintro e w13 ⟨rfl, m13, ck3, bg3, L3, i13, p13⟩
        have j13 := (m13.2 b16 (.inl rfl)).trans J12.out
        have k13 := (m13.2 b18 (.inr rfl)).trans K12.out
        have c0 := (blk_cell k13 0).trans rfl
        have c1 := (blk_cell k13 1).trans rfl
        have c2 := blk_frozen k13 0
        have c3 := blk_frozen k13 1
        obtain ⟨w14, hw14⟩ : ∃ w14, (w13.setCell ⟨b18, 0, none⟩ (.int .i64 t0)).setCell ⟨b18, 1, none⟩ (.int .i64 t1) = w14 := ⟨_, rfl⟩
        have k14 : w14.heap[b18]? = some (.cells #[.int .i64 t0, .int .i64 t1] 42 (0, 0)) := by subst hw14; exact two_set k13 _ _
        have j14 : w14.heap[b16]? = some (.cells #[.int .i64 t0, .int .i64 t1] 42 (0, 0)) := by subst hw14; exact blk_far (blk_far j13 (by show b16 ≠ b18; exact HNE.out) _) (by show b16 ≠ b18; exact HNE.out) _
        have x14 : Ext (fun k => k = b16 ∨ k = b18) w13 w14 := by
          subst hw14
          exact ⟨((Kept.refl w13 (fun k => k = b16 ∨ k = b18)).setCell (p := ⟨b18, 0, none⟩) (.inl (.inr rfl)) _).setCell (p := ⟨b18, 1, none⟩) (.inl (.inr rfl)) _, ((Below.refl 0 w13).setCell (p := ⟨b18, 0, none⟩) (Nat.zero_le _) _).setCell (p := ⟨b18, 1, none⟩) (Nat.zero_le _) _⟩
        have I14 := Lib.hid (i13.ext (Y := fun _ => False) x14 (fun k hk => hk.elim))
        have d0 := (blk_cell j14 0).trans rfl
        have d1 := (blk_cell j14 1).trans rfl
        have d2 := (blk_cell k14 0).trans rfl
        have d3 := (blk_cell k14 1).trans rfl
        have EQ := fun w => sameRes t0 t1 w
        clear m13 i13 p13 j13 k13 k14 j14 x14
        go_wp2
        go_ret
        exact ⟨by simp, BT.out.trans (I14.out.bel.mono BT.out.size)⟩
  · have HR := Lib.hid hR
    clear hR
    go_wp2_with fail
    refine (win_new_no wt HR.out).mono ?_
    rintro e w4 ⟨rfl, b4⟩
    have k4 := blk_below KT.out b4
    have v0 := (blk_cell k4 0).trans rfl
    have v1 := (blk_cell k4 1).trans rfl
    have v2 := (blk_cell k4 2).trans rfl
    have v3 := (blk_cell k4 3).trans rfl
    have B4 := Lib.hid (BT.out.trans (b4.mono BT.out.size))
    clear k4 b4
    go_wp2_with fail
    refine (XWinA.capstanref08_Right.calls 1 0 6 span 50000000 false _ (by rw [right_ref, decide_eq_false HR.out])).mono ?_
    rintro e w5 ⟨rfl, b5⟩
    have B5 := Lib.hid (B4.out.trans (b5.mono B4.out.size))
    clear b5
    go_wp2
    go_ret
    exact ⟨by simp, B5.out⟩
set_option maxHeartbeats 16000000 in
set_option maxRecDepth 100000 in
theorem floods_else {nn agg span from0 step0 low wide0 fst snd : Int} (W : World) (h1 : 0 ≤ nn ∧ nn ≤ 65535) (hf : R64 from0) (hs : R64 step0) (hl : R64 low) (hw : R64 wide0) (ht1 : R64 fst) (ht2 : R64 snd) (h6 : ¬ agg = 6) :
    Calls Try.prog 3 #[.agg #[.int .u16 nn, .int .i64 agg, .int .i64 span, .int .i64 from0, .int .i64 step0, .int .i64 low, .int .i64 wide0], .int .i64 fst, .int .i64 snd] W fun e w' => e = .returned (.bool true) ∧ Below W.heap.size W w' := by
  have n6 : (agg == 6) = false := by simpa using h6
  clear h6
  obtain ⟨w1, hw1⟩ : ∃ w1, W.alloc (.cells #[.int .u16 nn, .int .i64 agg, .int .i64 span, .int .i64 from0, .int .i64 step0, .int .i64 low, .int .i64 wide0] 24) = w1 := ⟨_, rfl⟩
  obtain ⟨b, hbdef⟩ : ∃ b, W.heap.size = b := ⟨_, rfl⟩
  have hbel : Below W.heap.size W w1 := by subst hw1; exact below_alloc (Below.refl _ _) _
  have hblk : w1.heap[b]? = some (.cells #[.int .u16 nn, .int .i64 agg, .int .i64 span, .int .i64 from0, .int .i64 step0, .int .i64 low, .int .i64 wide0] 24 (0, 0)) := by subst hw1 hbdef; exact blk_new _ _
  have HB := Lib.hid hbel
  have HK := Lib.hid hblk
  have H1 := Lib.hid h1
  have HT := Lib.hid (And.intro ht1 ht2)
  obtain ⟨fr, hfr⟩ : ∃ fr, from0.tmod 1000000000 = fr := ⟨_, rfl⟩
  obtain ⟨gp, hgp⟩ : ∃ gp, max (step0.tmod 5) 0 = gp := ⟨_, rfl⟩
  obtain ⟨wd, hwd⟩ : ∃ wd, 1 + max (wide0.tmod 1000) 0 = wd := ⟨_, rfl⟩
  obtain ⟨lw, hlw⟩ : ∃ lw, low.tmod 1000000000000 = lw := ⟨_, rfl⟩
  obtain ⟨m, hm⟩ : ∃ m : Nat, nn.tmod 9000 = (m : Int) := ⟨(nn.tmod 9000).toNat, by rw [Int.toNat_of_nonneg (Int.tmod_nonneg _ h1.1)]⟩
  have HLW := Lib.hid hlw
  have HV := Lib.hid (flood_vals hfr hgp hwd hlw hm h1.1)
  have hww : wrap64 wd = wd := by have := HV.out; unfold wrap64; omega
  clear hbel hblk h1 ht1 ht2 hf hs hl hw
  go_enter Try.func3, Try.ntmps3
  go_wp2_with fail
  refine (awake08 _).mono ?_
  rintro e w2 ⟨rfl, b2⟩
  have k2 := blk_below HK.out b2
  have c1 := (blk_cell k2 1).trans rfl
  have c2 := (blk_cell k2 2).trans rfl
  have K2 := Lib.hid k2
  have B2 := Lib.hid (HB.out.trans (b2.mono HB.out.size))
  clear k2 b2
  go_upto_region 4 with fail
  obtain ⟨w3, hw3⟩ : ∃ w3, w2.alloc (.cells #[.int .i64 0, .int .i64 agg, .int .i64 span, .int .i64 0] 27) = w3 := ⟨_, rfl⟩
  obtain ⟨b7, hb7⟩ : ∃ b7, w2.heap.size = b7 := ⟨_, rfl⟩
  have b3 : Below w2.heap.size w2 w3 := by subst hw3; exact below_alloc (Below.refl _ _) _
  have k3 : w3.heap[b7]? = some (.cells #[.int .i64 0, .int .i64 agg, .int .i64 span, .int .i64 0] 27 (0, 0)) := by subst hw3 hb7; exact blk_new _ _
  have kb3 := blk_below K2.out b3
  have x1 := (blk_cell kb3 1).trans rfl
  have kt := k3
  have kbt := kb3
  have bt := B2.out.trans (b3.mono B2.out.size)
  have KB := Lib.hid kbt
  have BT := Lib.hid bt
  have v0 := (blk_cell kt 0).trans rfl
  have v1 := (blk_cell kt 1).trans rfl
  have v2 := (blk_cell kt 2).trans rfl
  have v3 := (blk_cell kt 3).trans rfl
  have KT := Lib.hid kt
  clear b3 k3 kb3 kbt bt kt
  by_cases hR : RightT 0 agg span 0
  · have HR := Lib.hid hR
    clear hR
    go_wp2_with fail
    refine (win_new w3 HR.out).mono ?_
    rintro e w4 ⟨g, gr, B, O, rfl, s4, r4⟩
    have b4 := r4.bel0
    have k4 := blk_below KT.out b4
    have v0 := (blk_cell k4 0).trans rfl
    have v1 := (blk_cell k4 1).trans rfl
    have v2 := (blk_cell k4 2).trans rfl
    have v3 := (blk_cell k4 3).trans rfl
    have K4 := Lib.hid k4
    have R4 := Lib.hid r4
    clear s4 r4 b4 k4
    go_wp2_with fail
    refine (XWinA.capstanref08_Right.calls 1 0 agg span 0 true _ (by rw [right_ref, decide_eq_true HR.out])).mono ?_
    rintro e w5 ⟨rfl, b5⟩
    have k5 := blk_below K4.out b5
    have v0 := (blk_cell k5 0).trans rfl
    have v1 := (blk_cell k5 1).trans rfl
    have v2 := (blk_cell k5 2).trans rfl
    have v3 := (blk_cell k5 3).trans rfl
    have R5 := Lib.hid (R4.out.below b5)
    obtain ⟨w6, hw6⟩ : ∃ w6, w5.alloc (.cells #[.int .i64 0, .int .i64 agg, .int .i64 span, .int .i64 0, .slice none 0 0, .int .i64 0, .bool false] 36) = w6 := ⟨_, rfl⟩
    have HI := Lib.hid (pair_made (Below.refl w3.heap.size w3) R5.out R5.out.kept.1 hw6)
    obtain ⟨h, hh⟩ : ∃ h, w5.heap.size = h := ⟨_, rfl⟩
    rw [hh] at HI
    have kb6 := blk_below KB.out HI.out.bel
    have z3 := (blk_cell kb6 3).trans rfl
    have z4 := (blk_cell kb6 4).trans rfl
    have z6 := (blk_cell kb6 6).trans rfl
    clear k5 b5 kb6
    have HWW := Lib.hid hww
    have HMM := Lib.hid hm
    have c16 : IntKind.i64.wrap (m : Int) = (m : Int) := by rw [i64_w]; have := HV.out; unfold wrap64; omega
    have c17 : IntKind.u16.wrap (m : Int) = (m : Int) := by have := HV.out; show (m : Int) % 65536 = m; omega
    go_wp2
    rw [hww]
    clear hfr hgp hwd hlw
    go_loopg [14] m (fun kq v14 w' => ∃ (i : Nat) (ck : Int) (bg : Bool) (L All : List (Int × Int)), v14 = .int .i64 i ∧ Aside0 (i + kq = m) ∧ Aside0 (PInv span ck bg L All i) ∧ Aside0 (Pair w3 w' g gr B O h 0 agg span 0 ck bg L ck bg All i) ∧ Aside0 (bg = true → ck ≤ fr + (i : Int) * gp))
    case atStart => exact ⟨0, 0, false, [], [], rfl, ⟨by omega⟩, ⟨⟨WinInv.nil _ _, fun y hy => (by cases hy), (by decide), fun _ => rfl, (by simp)⟩⟩, ⟨HI.out⟩, ⟨fun h => (by cases h)⟩⟩
    case round =>
      obtain ⟨i, ck, bg, L, All, rfl, hk, ho, hT, hg⟩ := hrel
      have HKQ := Lib.hid hk.out
      have HO := Lib.hid ho.out
      have T1 := Lib.hid hT.out
      have HGE := Lib.hid hg.out
      clear hk ho hT hg HI z3 z4 z6 v0 v1 v2 v3
      have kbr := blk_below KB.out T1.out.bel
      have z0 := (blk_cell kbr 0).trans rfl
      have z5 := (blk_cell kbr 5).trans rfl
      have zn5 := World.new_ne wr _ z5
      have KBR := Lib.hid kbr
      clear kbr
      by_cases hi : i < m
      · have e1 : ((i : Int) < (m : Int)) = True := eq_true (by omega)
        have e2 := eq_true hi
        have Hi := Lib.hid hi
        obtain ⟨pg, tt, rm, vv, s1, s2, s3, s4, s5, s6, s7⟩ := flood_smp (fr := fr) (gp := gp) (wd := wd) (lw := lw) (i := i) ⟨HV.out.1, HV.out.2.1, HV.out.2.2.1, HV.out.2.2.2.1, HV.out.2.2.2.2.1, HV.out.2.2.2.2.2.1, HV.out.2.2.2.2.2.2.1, HV.out.2.2.2.2.2.2.2.1⟩ (by have := HV.out.2.2.2.2.2.2.2.2; omega)
        have HTV := Lib.hid (And.intro s6 s7)
        have HTT := Lib.hid s5
        have q1 : IntKind.i64.wrap ((i : Int) * gp) = pg := by rw [i64_w, s1]
        have q2 : IntKind.i64.wrap (fr + pg) = tt := by rw [i64_w, s2]
        have q4 : IntKind.i64.wrap (lw + rm) = vv := by rw [i64_w, s4]
        have hw0 : ¬ wd = 0 := by have := HV.out; omega
        have hw1 : wd ≠ 0 := hw0
        have hw2 : (wd = 0) = False := eq_false hw0
        have hw3 : (wd == 0) = false := by simpa using hw0
        have hw4 : ¬ (0 = wd) := fun h => hw0 h.symm
        have hlw := HLW.out
        clear hi s5 s6 s7
        go_upto_region 18 with fail
        go_cut [15] (fun v15 wx => ∃ b15 : Nat, v15 = .pointer (some ⟨b15, 0, none⟩) ∧ Aside0 (wr.heap.size ≤ b15 ∧ b15 < wx.heap.size) ∧ Aside0 (wx.heap[b15]? = some (.cells #[.int .i64 tt, .int .i64 vv] 38 (0, 0))) ∧ Aside0 (Below wr.heap.size wr wx))
        case first =>
          go_region_held3 (fun w' => w'.cell? ⟨b, 5, none⟩ = some (.int .i64 low)) (first | exact z5 | (simp [go_sem, z5]; done) | go_keep) (fail)
          all_goals
            go_wp2_with fail
            go_meet
            exact ⟨wr.heap.size, rfl, ⟨Nat.le_refl _, by show wr.heap.size < (wr.alloc _).heap.size; simp only [World.size_alloc]; omega⟩, ⟨by first | exact blk_new wr _ | (simp only [q1, q2, q4]; exact blk_new wr _)⟩, ⟨by first | exact (below_alloc (Below.refl wr.heap.size wr) _) | exact (below_alloc (Below.refl wr.heap.size wr) _).drew | exact below_alloc (Below.refl wr.heap.size wr).drew _⟩⟩
        case rest =>
          obtain ⟨b15, rfl, hb15, k15, bel15⟩ := hcut
          have y0 := (blk_cell k15.out 0).trans rfl
          have y1 := (blk_cell k15.out 1).trans rfl
          have K15 := Lib.hid k15.out
          have IX := Lib.hid ((PairX.of T1.out).below (Y := fun k => k = b15) (bel15.out.trans ((Below.refl wc.heap.size wc).drew.mono bel15.out.size)) (fun k hk => .inr (by subst hk; exact hb15.out)))
          have HGT := Lib.hid (show bg = true → ck ≤ tt from fun h => by rw [HTT.out]; exact HGE.out h)
          clear hb15 k15 bel15 z0 z5 zn5 s1 s2 s3 s4 q1 q2 q4
          go_wp2
          go_region_held3 (fun w' => w'.cell? ⟨b15, 0, none⟩ = some (.int .i64 tt) ∧ w'.cell? ⟨b15, 1, none⟩ = some (.int .i64 vv)) (first | exact ⟨y0, y1⟩ | exact ⟨p0, p1⟩ | exact ⟨q0, q1⟩ | (simp [go_sem, y0, y1]; done)) (first
            | (go_at_call 11; refine (pairX_puts IX.out HO.out HR.out HTV.out.1 HTV.out.2 (by have := HV.out; have := Hi.out; omega) HGT.out).mono ?_; rintro e w7 ⟨rfl, m7, nx⟩; have k7 := (m7.2 b15 rfl).trans K15.out; have p0 := (blk_cell k7 0).trans rfl; have p1 := (blk_cell k7 1).trans rfl; have K7 := Lib.hid k7; have NX := Lib.hid nx; clear m7 nx k7)
            | (go_at_call 12; refine (NX.out w7 (fun k => k = b15) (Ext.of (Below.refl _ _)) (fun k hk => .inl hk)).mono ?_; rintro e w8 ⟨rfl, m8, i8, p8⟩; have k8 := (m8.2 b15 rfl).trans K7.out; have q0 := (blk_cell k8 0).trans rfl; have q1 := (blk_cell k8 1).trans rfl; have I8 := Lib.hid i8.pair; have P8 := Lib.hid p8; clear m8 k8 i8 p8))
          have hwi : wrap64 ((i : Int) + 1) = ((i + 1 : Nat) : Int) := by have := HV.out; have := Hi.out; unfold wrap64; omega
          all_goals
            go_wp2
            go_roundg (gk - 1)
            case measure => have := HKQ.out; have := Hi.out; omega
            case rel => exact ⟨i + 1, tt, true, pushP L (tt, vv), All ++ [(tt, vv)], by first | rfl | simp [hwi], ⟨by have := HKQ.out; have := Hi.out; omega⟩, ⟨P8.out⟩, ⟨I8.out⟩, ⟨fun _ => by rw [HTT.out]; exact flood_next HV.out.2.2.1⟩⟩
      · have e1 : ((i : Int) < (m : Int)) = False := eq_false (by omega)
        have e2 := eq_false hi
        have hi9 : (i : Int) ≤ 9000 := by have := HKQ.out; have := HV.out; omega
        obtain ⟨r0, r1, en, hc⟩ := pairX_reads (PairX.of T1.out) HO.out HR.out HT.out.1 (by omega)
        have HC := Lib.hid hc
        clear hc hi z5 zn5
        go_wp2_with fail
        refine HC.out.mono ?_
        rintro e w7 ⟨rfl, m7, nx⟩
        obtain ⟨w8, hw8⟩ : ∃ w8, w7.alloc (.cells #[.int .i64 r0, .int .i64 r1] 42) = w8 := ⟨_, rfl⟩
        obtain ⟨b16, hb16⟩ : ∃ b16, w7.heap.size = b16 := ⟨_, rfl⟩
        have b8 : Below w7.heap.size w7 w8 := by subst hw8; exact below_alloc (Below.refl _ _) _
        have k8 : w8.heap[b16]? = some (.cells #[.int .i64 r0, .int .i64 r1] 42 (0, 0)) := by subst hw8 hb16; exact blk_new _ _
        have NX := Lib.hid (nx w8 (fun k => k = b16) (Ext.of b8) (fun k hk => .inr (by subst hk; exact ⟨by omega, blk_lt k8⟩)))
        have K8 := Lib.hid k8
        clear m7 nx b8 k8
        go_wp2_with fail
        refine NX.out.mono ?_
        rintro e w9 ⟨rfl, m9, ck2, bg2, L2, i9, p9⟩
        have k9 := (m9.2 b16 rfl).trans K8.out
        obtain ⟨w10, hw10⟩ : ∃ w10, w9.alloc (.cells #[.int .i64 r0, .int .i64 r1] 42) = w10 := ⟨_, rfl⟩
        obtain ⟨b18, hb18⟩ : ∃ b18, w9.heap.size = b18 := ⟨_, rfl⟩
        have b10 : Below w9.heap.size w9 w10 := by subst hw10; exact below_alloc (Below.refl _ _) _
        have k10 : w10.heap[b18]? = some (.cells #[.int .i64 r0, .int .i64 r1] 42 (0, 0)) := by subst hw10 hb18; exact blk_new _ _
        have j10 := blk_below k9 b10
        have hne : b16 ≠ b18 := by have := blk_lt k9; omega
        have i10 : PairX w3 w10 (fun k => k = b16 ∨ k = b18) g gr B O h 0 agg span 0 ck2 bg2 L2 ck2 bg2 All i := i9.below b10 (fun k hk => by rcases hk with hk | hk; exact .inl hk; exact .inr (by subst hk; exact ⟨by omega, blk_lt k10⟩))
        obtain ⟨t0, t1, en2, hc2⟩ := pairX_reads i10 p9 HR.out HT.out.2 (by omega)
        have HC2 := Lib.hid hc2
        have u0 := (blk_cell j10 0).trans rfl
        have u1 := (blk_cell j10 1).trans rfl
        have u2 := (blk_cell k10 0).trans rfl
        have u3 := (blk_cell k10 1).trans rfl
        have J10 := Lib.hid j10
        have K10 := Lib.hid k10
        have HNE := Lib.hid hne
        have EQ := fun w => sameResN r0 r1 w
        clear m9 i9 p9 k9 b10 k10 j10 i10 hc2
        go_wp2_with fail
        refine HC2.out.mono ?_
        rintro e w11 ⟨rfl, m11, nx⟩
        have j11 := (m11.2 b16 (.inl rfl)).trans J10.out
        have k11 := (m11.2 b18 (.inr rfl)).trans K10.out
        have a0 := (blk_cell j11 0).trans rfl
        have a1 := (blk_cell j11 1).trans rfl
        have a2 := blk_frozen j11 0
        have a3 := blk_frozen j11 1
        obtain ⟨w12, hw12⟩ : ∃ w12, (w11.setCell ⟨b16, 0, none⟩ (.int .i64 t0)).setCell ⟨b16, 1, none⟩ (.int .i64 t1) = w12 := ⟨_, rfl⟩
        have j12 : w12.heap[b16]? = some (.cells #[.int .i64 t0, .int .i64 t1] 42 (0, 0)) := by subst hw12; exact two_set j11 _ _
        have x12 : Ext (fun k => k = b16 ∨ k = b18) w11 w12 := by
          subst hw12
          exact ⟨((Kept.refl w11 (fun k => k = b16 ∨ k = b18)).setCell (p := ⟨b16, 0, none⟩) (.inl (.inl rfl)) _).setCell (p := ⟨b16, 1, none⟩) (.inl (.inl rfl)) _, ((Below.refl 0 w11).setCell (p := ⟨b16, 0, none⟩) (Nat.zero_le _) _).setCell (p := ⟨b16, 1, none⟩) (Nat.zero_le _) _⟩
        have k12 : w12.heap[b18]? = some (.cells #[.int .i64 r0, .int .i64 r1] 42 (0, 0)) := by subst hw12; exact blk_far (blk_far k11 (by show b18 ≠ b16; exact fun e => HNE.out e.symm) _) (by show b18 ≠ b16; exact fun e => HNE.out e.symm) _
        have NX2 := Lib.hid (nx w12 (fun k => k = b16 ∨ k = b18) x12 (fun k hk => .inl hk))
        have J12 := Lib.hid j12
        have K12 := Lib.hid k12
        clear m11 nx j11 k11 j12 k12 x12 u0 u1 u2 u3 EQ
        go_wp2_with fail
        refine NX2.out.mono ?_
        rintro e w13 ⟨rfl, m13, ck3, bg3, L3, i13, p13⟩
        have j13 := (m13.2 b16 (.inl rfl)).trans J12.out
        have k13 := (m13.2 b18 (.inr rfl)).trans K12.out
        have c0 := (blk_cell k13 0).trans rfl
        have c1 := (blk_cell k13 1).trans rfl
        have c2 := blk_frozen k13 0
        have c3 := blk_frozen k13 1
        obtain ⟨w14, hw14⟩ : ∃ w14, (w13.setCell ⟨b18, 0, none⟩ (.int .i64 t0)).setCell ⟨b18, 1, none⟩ (.int .i64 t1) = w14 := ⟨_, rfl⟩
        have k14 : w14.heap[b18]? = some (.cells #[.int .i64 t0, .int .i64 t1] 42 (0, 0)) := by subst hw14; exact two_set k13 _ _
        have j14 : w14.heap[b16]? = some (.cells #[.int .i64 t0, .int .i64 t1] 42 (0, 0)) := by subst hw14; exact blk_far (blk_far j13 (by show b16 ≠ b18; exact HNE.out) _) (by show b16 ≠ b18; exact HNE.out) _
        have x14 : Ext (fun k => k = b16 ∨ k = b18) w13 w14 := by
          subst hw14
          exact ⟨((Kept.refl w13 (fun k => k = b16 ∨ k = b18)).setCell (p := ⟨b18, 0, none⟩) (.inl (.inr rfl)) _).setCell (p := ⟨b18, 1, none⟩) (.inl (.inr rfl)) _, ((Below.refl 0 w13).setCell (p := ⟨b18, 0, none⟩) (Nat.zero_le _) _).setCell (p := ⟨b18, 1, none⟩) (Nat.zero_le _) _⟩
        have I14 := Lib.hid (i13.ext (Y := fun _ => False) x14 (fun k hk => hk.elim))
        have d0 := (blk_cell j14 0).trans rfl
        have d1 := (blk_cell j14 1).trans rfl
        have d2 := (blk_cell k14 0).trans rfl
        have d3 := (blk_cell k14 1).trans rfl
        have EQ := fun w => sameRes t0 t1 w
        clear m13 i13 p13 j13 k13 k14 j14 x14
        go_wp2
        go_ret
        exact ⟨by simp, BT.out.trans (I14.out.bel.mono BT.out.size)⟩
  · have HR := Lib.hid hR
    clear hR
    go_wp2_with fail
    refine (win_new_no w3 HR.out).mono ?_
    rintro e w4 ⟨rfl, b4⟩
    have k4 := blk_below KT.out b4
    have v0 := (blk_cell k4 0).trans rfl
    have v1 := (blk_cell k4 1).trans rfl
    have v2 := (blk_cell k4 2).trans rfl
    have v3 := (blk_cell k4 3).trans rfl
    have B4 := Lib.hid (BT.out.trans (b4.mono BT.out.size))
    clear k4 b4
    go_wp2_with fail
    refine (XWinA.capstanref08_Right.calls 1 0 agg span 0 false _ (by rw [right_ref, decide_eq_false HR.out])).mono ?_
    rintro e w5 ⟨rfl, b5⟩
    have B5 := Lib.hid (B4.out.trans (b5.mono B4.out.size))
    clear b5
    go_wp2
    go_ret
    exact ⟨by simp, B5.out⟩
set_option maxRecDepth 100000
theorem flood_opn : Opn Try.prog 24 (fun x : Int × Int × Int × Int × Int × Int × Int => [.int .u16 x.1, .int .i64 x.2.1, .int .i64 x.2.2.1, .int .i64 x.2.2.2.1, .int .i64 x.2.2.2.2.1, .int .i64 x.2.2.2.2.2.1, .int .i64 x.2.2.2.2.2.2]) (fun _ x => (0 ≤ x.1 ∧ x.1 ≤ 65535) ∧ R64 x.2.2.2.1 ∧ R64 x.2.2.2.2.1 ∧ R64 x.2.2.2.2.2.1 ∧ R64 x.2.2.2.2.2.2) := by
  intro H enc w fuel cs x hx hw
  obtain ⟨a, ha, hk⟩ := opn_struct Try.underlying24 (by kernel_rfl) (opnF_cons rfl (sz := 1) (by kernel_rfl) (opn_int Try.underlying22) (opnF_cons rfl (sz := 1) (by kernel_rfl) (opn_int Try.underlying3) (opnF_cons rfl (sz := 1) (by kernel_rfl) (opn_int Try.underlying2) (opnF_cons rfl (sz := 1) (by kernel_rfl) (opn_int Try.underlying2) (opnF_cons rfl (sz := 1) (by kernel_rfl) (opn_int Try.underlying2) (opnF_cons rfl (sz := 1) (by kernel_rfl) (opn_int Try.underlying2) (opnF_last rfl (opn_int Try.underlying2)))))))) hx hw
  obtain ⟨k1, k2, k3, k4, k5, k6, k7⟩ := hk
  have h0 : IntKind.u16.min ≤ a.1 ∧ a.1 ≤ IntKind.u16.max := by simpa [Lit.wf] using k1
  have e : IntKind.u16.min = 0 := by decide
  have e2 : IntKind.u16.max = 65535 := by decide
  exact ⟨a, ha, ⟨by omega, by omega⟩, wf_r64 k4, wf_r64 k5, wf_r64 k6, wf_r64 k7⟩
theorem WindowFloods_row {H : Type} {enc : TypeId × Value → H} {base : Nat} {d : DataW H} {p : List MemPlace} (v : Value) (fst snd : Int) (W : World) (hval : Value.okWide Try.prog W .any base 24 v)
    (h : DataW.Trod enc Try.prog W 0 (fun _ => true) true 24 v d p) (y : ∀ n ∈ DataW.weights Try.prog 24 d, n ≤ reachBytes) (h1 : (Lit.int .i64 fst).wf = true) (h2 : (Lit.int .i64 snd).wf = true) :
    Calls Try.prog 3 #[v, .int .i64 fst, .int .i64 snd] W fun e w' => e = .returned (.bool true) ∧ Below W.heap.size W w' := by
  obtain ⟨a, rfl, ha, hb, hc, hd, he⟩ := struct_arg Try.underlying24 flood_opn hval h y
  obtain ⟨nn, agg, span, from0, step0, low, wide0⟩ := a
  by_cases h6 : agg = 6
  · subst h6
    exact floods_six W ha hb hc hd he (wf_r64 h1) (wf_r64 h2)
  · exact floods_else W ha hb hc hd he (wf_r64 h1) (wf_r64 h2) h6
end Go.Proofs.Ytgfnlhigmncdmaa

end
