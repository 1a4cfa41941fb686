/-
  Texts of this seat, joined, less what WindowPlays does not lean on: WinNilLaw, WinArgs, WinOps, WinPair, WinStep, WinStep2, WinStep3, WinStaleLaw, WinStaleRow, WinPlaysLaw.
-/
import Derived.Test.YtgfnlhigmncdmaaQWindowPlays21
import Derived.Test.YtgfnlhigmncdmaaQWindowPlays14
section
namespace Go.Proofs.Ytgfnlhigmncdmaa
set_option linter.unusedVariables false
set_option linter.unusedSimpArgs false
open Go.RowKit Go.Proofs.Ytgfnlhigmncdmaa.XMono Go.Proofs.YtgfnlhigmncdmaaW.PrintWords Go.Proofs.YtgfnlhigmncdmaaW.PrintLast Go.Proofs.YtgfnlhigmncdmaaW.PrintMore

end Go.Proofs.Ytgfnlhigmncdmaa

end
section
namespace Go.Proofs.Ytgfnlhigmncdmaa
set_option linter.unusedVariables false
set_option linter.unusedSimpArgs false
open Go.RowKit Go.Proofs.YtgfnlhigmncdmaaW.PrintWords
set_option maxRecDepth 100000
theorem wf_r64 {n : Int} (h : (Lit.int .i64 n).wf = true) : R64 n := by
  have h2 : IntKind.i64.min ≤ n ∧ n ≤ 9223372036854775807 := by simpa [Lit.wf] using h
  have e : IntKind.i64.min = -9223372036854775808 := by decide
  unfold R64
  omega
/-- A struct's value is the cells that are read. -/
theorem struct_arg {P : Program} {H : Type} {enc : TypeId × Value → H} {base : Nat} {d : DataW H} {p : List MemPlace} {v : Value} {W : World} {t : TypeId} {fs : Array Field} {α : Type} {c : α → List Value} {ok : World → α → Prop} (hu : P.underlying t = some (.struct fs)) (ho : Opn P t c ok) (hval : Value.okWide P W .any base t v)
    (h : DataW.Trod enc P W 0 (fun _ => true) true t v d p) (y : ∀ n ∈ DataW.weights P t d, n ≤ reachBytes) : ∃ a : α, v = .agg (c a).toArray ∧ ok W a := by
  obtain ⟨cs, rfl, hsz⟩ := WideShapes.okWide_struct hu hval
  obtain ⟨fuel, hf⟩ := h
  obtain ⟨a, ha, hok⟩ := ho hf y
  have hs' : cs.toList = c a := by simpa [Value.cells] using ha
  refine ⟨a, ?_, hok⟩
  have : cs = (c a).toArray := by rw [← hs']
  rw [this]
end Go.Proofs.Ytgfnlhigmncdmaa

end
section
namespace Go.Proofs.Ytgfnlhigmncdmaa
set_option linter.unusedVariables false
set_option linter.unusedSimpArgs false
open Go.RowKit Go.Proofs.Ytgfnlhigmncdmaa.XMono Go.Proofs.YtgfnlhigmncdmaaW.PrintWords Go.Proofs.YtgfnlhigmncdmaaW.PrintLast Go.Proofs.YtgfnlhigmncdmaaW.PrintMore
def op8Cells : Int × Int × Int → List Value := fun z => [.int .i64 z.1, .int .i64 z.2.1, .int .i64 z.2.2]
def op8Ok : World → Int × Int × Int → Prop := fun _ z => R64 z.2.1 ∧ R64 z.2.2
set_option maxRecDepth 100000 in
theorem op8_opn : Opn Try.prog 54 op8Cells op8Ok := by
  intro H enc w fuel cs x hx hw
  obtain ⟨a, ha, hk⟩ := opn_struct Try.underlying54 (by kernel_rfl) (opnF_cons rfl (sz := 1) (by kernel_rfl) (opn_int Try.underlying3) (opnF_cons rfl (sz := 1) (by kernel_rfl) (opn_int Try.underlying2) (opnF_last rfl (opn_int Try.underlying2)))) hx hw
  exact ⟨a, ha, wf_r64 hk.2.1, wf_r64 hk.2.2⟩
set_option maxRecDepth 100000 in
theorem win_opn : Opn Try.prog 27 (fun x : Int × Int × Int × Int => [.int .i64 x.1, .int .i64 x.2.1, .int .i64 x.2.2.1, .int .i64 x.2.2.2]) (fun _ _ => True) := by
  intro H enc w fuel cs x hx hw
  obtain ⟨a, ha, hk⟩ := opn_struct Try.underlying27 (by kernel_rfl) (opnF_cons rfl (sz := 1) (by kernel_rfl) (opn_int Try.underlying3) (opnF_cons rfl (sz := 1) (by kernel_rfl) (opn_int Try.underlying3) (opnF_cons rfl (sz := 1) (by kernel_rfl) (opn_int Try.underlying2) (opnF_last rfl (opn_int Try.underlying2))))) hx hw
  exact ⟨a, ha, trivial⟩
theorem op8_at {s : Sl (Int × Int × Int)} {W : World} (hs : Sl.ok Try.prog 54 op8Cells op8Ok W s) {i : Nat} (hi : i < s.len) :
    ∃ a kd t v, s.at_ = some a ∧ (a.add (i * 3)).block < W.heap.size ∧ W.cell? (a.add (i * 3)) = some (.int .i64 kd) ∧ W.cell? ⟨(a.add (i * 3)).block, (a.add (i * 3)).off + 1, none⟩ = some (.int .i64 t) ∧ W.cell? ⟨(a.add (i * 3)).block, (a.add (i * 3)).off + 2, none⟩ = some (.int .i64 v) ∧ R64 t ∧ R64 v := by
  obtain ⟨h1, h2, h3, h4, h5, h6⟩ := hs
  rcases h6 with ⟨_, h6⟩ | ⟨a, ha, hc⟩
  · omega
  have hl : i < s.all.length := by omega
  have hz := hc i _ (List.getElem?_eq_getElem hl)
  have ho := h5 _ (List.getElem_mem hl)
  have e : Try.prog.cellsOf 54 = 3 := by kernel_rfl
  rw [e] at hz
  have hb := World.cells?_block hz (by decide)
  refine ⟨a, s.all[i].1, s.all[i].2.1, s.all[i].2.2, ha, ?_, ?_, ?_, ?_, ho.1, ho.2⟩
  · exact hb
  · have := cells_get hz 0 _ rfl
    rw [Addr.add_add] at this
    exact this
  · have := cells_get hz 1 _ rfl
    rw [Addr.add_add] at this
    rw [← add_field _ _ 1 (by omega)]
    exact this
  · have := cells_get hz 2 _ rfl
    rw [Addr.add_add] at this
    rw [← add_field _ _ 2 (by omega)]
    exact this
theorem ops8_few {s : Sl (Int × Int × Int)} {W : World} (hs : Sl.ok Try.prog 54 op8Cells op8Ok W s) : s.len ≤ 5864062014806 := by
  obtain ⟨h1, h2, h3, h4, h5, h6⟩ := hs
  have e : Try.prog.bytesOf 54 = 24 := by kernel_rfl
  have e2 : reachBytes = 140737488351232 := rfl
  rw [e, e2] at h4
  omega

section
variable {w0 w w' : World} {g gr : Nat} {B O : Value} {ok Fr Fb Fo F S : Nat → Prop} {tm ta ts tr ck : Int} {bg : Bool} {Lr : List (Int × Int)} {s : Int} {Lb Lo : List Int} {N : Int}
/-- What is written elsewhere leaves a window as it is. -/
theorem Ran.other (h : Ran w w F g gr B O tm ta ts tr ck bg Lr s Lb Lo N) (hF : ∀ k, F k → k < w.heap.size) (k : Kept w w' S) (dis : ∀ k, F k → ¬ S k) : Ran w' w' F g gr B O tm ta ts tr ck bg Lr s Lb Lo N := by
  obtain ⟨⟨Fr, Fb, Fo, h1, h2⟩, -, -⟩ := h
  have hk : ∀ i, (i = g ∨ Fr i ∨ Fb i ∨ Fo i) → F i := fun i hi => by
    rcases h2 i hi with h3 | h3
    · exact h3
    · rcases hi with rfl | hi
      · have := h1.lt; omega
      · have := (h1.old i hi).1; omega
  exact ⟨⟨Fr, Fb, Fo, h1.far k (fun i hi hS => dis i (hk i hi) hS), fun i hi => .inl (hk i hi)⟩, Kept.refl _ _, Below.refl _ _⟩
end
theorem below_of_kept8 {W w w' : World} {S : Nat → Prop} (h1 : Below W.heap.size W w) (h2 : Below 0 w w') (hk : Kept w w' S) (hS : ∀ k, k < W.heap.size → ¬ S k) : Below W.heap.size W w' :=
  ⟨h2.os.trans h1.os, h2.tape.trans h1.tape, h2.output.trans h1.output, Nat.le_trans h1.size h2.size, fun k hk' => (hk.2 k (Nat.lt_of_lt_of_le hk' h1.size) (hS k hk')).trans (h1.block k hk')⟩
/-- Two windows of one kind, made since W, that share no memory. -/
structure Two (W w : World) (ga gra : Nat) (Ba Oa : Value) (gb grb : Nat) (Bb Ob : Value) (tm ta ts tr : Int) (cka : Int) (bga : Bool) (La : List (Int × Int)) (ckb : Int) (bgb : Bool) (Lb : List (Int × Int)) (N : Int) : Prop where
  ex : ∃ Fa Fb : Nat → Prop, RanL w w Fa ga gra Ba Oa tm ta ts tr cka bga La N ∧ RanL w w Fb gb grb Bb Ob tm ta ts tr ckb bgb Lb N ∧ (∀ k, Fa k ∨ Fb k → W.heap.size ≤ k ∧ k < w.heap.size) ∧ ∀ k, Fa k → ¬ Fb k
  bel : Below W.heap.size W w
section
variable {W w w' : World} {ga gra : Nat} {Ba Oa : Value} {gb grb : Nat} {Bb Ob : Value} {tm ta ts tr : Int} {cka : Int} {bga : Bool} {La : List (Int × Int)} {ckb : Int} {bgb : Bool} {Lb : List (Int × Int)} {N : Int}
theorem Two.below (h : Two W w ga gra Ba Oa gb grb Bb Ob tm ta ts tr cka bga La ckb bgb Lb N) (hb : Below w.heap.size w w') : Two W w' ga gra Ba Oa gb grb Bb Ob tm ta ts tr cka bga La ckb bgb Lb N := by
  obtain ⟨⟨Fa, Fb, h1, h2, h3, h4⟩, h5⟩ := h
  exact ⟨⟨Fa, Fb, h1.other (fun k hk => (h3 k (.inl hk)).2) (kept_any hb) (fun _ _ h => h), h2.other (fun k hk => (h3 k (.inr hk)).2) (kept_any hb) (fun _ _ h => h), fun k hk => ⟨(h3 k hk).1, Nat.lt_of_lt_of_le (h3 k hk).2 hb.size⟩, h4⟩, h5.trans (hb.mono h5.size)⟩
theorem Two.more (h : Two W w ga gra Ba Oa gb grb Bb Ob tm ta ts tr cka bga La ckb bgb Lb N) {N2 : Int} (hN : N ≤ N2) : Two W w ga gra Ba Oa gb grb Bb Ob tm ta ts tr cka bga La ckb bgb Lb N2 := by
  obtain ⟨⟨Fa, Fb, h1, h2, h3, h4⟩, h5⟩ := h
  exact ⟨⟨Fa, Fb, h1.more hN, h2.more hN, h3, h4⟩, h5⟩
end
theorem eqRes_in (h t h2 t2 : Int) (d : Nat) (w : World) : (Op.equalIn (d + 2) 42 (.agg #[.int .i64 h, .int .i64 t]) (.agg #[.int .i64 h2, .int .i64 t2])).run Try.prog w = .ok ((h == h2) && (t == t2)) w := by
  refine eqA_of Try.underlying42 (by kernel_rfl) ?_
  refine eqf_cons (by rfl) (by go_simp; rfl) (by go_simp; rfl) (by go_simp) ?_
  exact eqf_last (by rfl) (by go_simp; rfl) (by go_simp; rfl) (by go_simp)
/-- One result is itself. -/
theorem sameRes (h t : Int) (w : World) : (binOp .eql 42 (.agg #[.int .i64 h, .int .i64 t]) (.agg #[.int .i64 h, .int .i64 t])).run Try.prog w = .ok (.bool true) w := by
  simp only [binOp]
  simp [Op.equal, Op.maxDepth, eqRes_in h t h t 9998 w]
end Go.Proofs.Ytgfnlhigmncdmaa

end
section
namespace Go.Proofs.Ytgfnlhigmncdmaa
set_option linter.unusedVariables false
set_option linter.unusedSimpArgs false
open Go.RowKit Go.Proofs.YtgfnlhigmncdmaaW.PrintWords Go.Proofs.YtgfnlhigmncdmaaW.PrintLast Go.Proofs.YtgfnlhigmncdmaaW.PrintMore

/-- A window and the reference's, made since W, that share no memory. -/
structure Pair (W w : World) (g gr : Nat) (B O : Value) (h : Nat) (tm ta ts tr : Int) (ck : Int) (bg : Bool) (L : List (Int × Int)) (ckr : Int) (bgr : Bool) (All : List (Int × Int)) (N : Int) : Prop where
  ex : ∃ Fa Fr : Nat → Prop, RanL w w Fa g gr B O tm ta ts tr ck bg L N ∧ RefW w h Fr tm ta ts tr ckr bgr All ∧ (∀ k, Fa k → W.heap.size ≤ k ∧ k < w.heap.size) ∧ ∀ k, (k = h ∨ Fr k) → W.heap.size ≤ k ∧ k < w.heap.size ∧ ¬ Fa k
  bel : Below W.heap.size W w
section
variable {W w w2 w' : World} {g gr : Nat} {B O : Value} {h : Nat} {tm ta ts tr : Int} {ck : Int} {bg : Bool} {L : List (Int × Int)} {ckr : Int} {bgr : Bool} {All : List (Int × Int)} {N : Int}
theorem Pair.below (i : Pair W w g gr B O h tm ta ts tr ck bg L ckr bgr All N) (hb : Below w.heap.size w w') : Pair W w' g gr B O h tm ta ts tr ck bg L ckr bgr All N := by
  obtain ⟨⟨Fa, Fr, h1, h2, h3, h4⟩, h5⟩ := i
  exact ⟨⟨Fa, Fr, h1.other (fun k hk => (h3 k hk).2) (kept_any hb) (fun _ _ h => h), h2.below hb, fun k hk => ⟨(h3 k hk).1, Nat.lt_of_lt_of_le (h3 k hk).2 hb.size⟩, fun k hk => ⟨(h4 k hk).1, Nat.lt_of_lt_of_le (h4 k hk).2.1 hb.size, (h4 k hk).2.2⟩⟩, h5.trans (hb.mono h5.size)⟩
theorem Pair.more (i : Pair W w g gr B O h tm ta ts tr ck bg L ckr bgr All N) {N2 : Int} (hN : N ≤ N2) : Pair W w g gr B O h tm ta ts tr ck bg L ckr bgr All N2 := by
  obtain ⟨⟨Fa, Fr, h1, h2, h3, h4⟩, h5⟩ := i
  exact ⟨⟨Fa, Fr, h1.more hN, h2, h3, h4⟩, h5⟩
theorem pairW {Fa Fr : Nat → Prop} (h1 : RanL w w Fa g gr B O tm ta ts tr ck bg L N) (h2 : RefW w h Fr tm ta ts tr ckr bgr All) (h3 : ∀ k, Fa k → W.heap.size ≤ k ∧ k < w.heap.size) (h4 : ∀ k, (k = h ∨ Fr k) → W.heap.size ≤ k ∧ k < w.heap.size ∧ ¬ Fa k) (h5 : Below W.heap.size W w)
    {ck2 : Int} {bg2 : Bool} {L2 : List (Int × Int)} {N2 : Int} (j : RanL w w' Fa g gr B O tm ta ts tr ck2 bg2 L2 N2) :
    ∃ Fa2 : Nat → Prop, RanL w' w' Fa2 g gr B O tm ta ts tr ck2 bg2 L2 N2 ∧ RefW w' h Fr tm ta ts tr ckr bgr All ∧ (∀ k, Fa2 k → W.heap.size ≤ k ∧ k < w'.heap.size) ∧ (∀ k, (k = h ∨ Fr k) → W.heap.size ≤ k ∧ k < w'.heap.size ∧ ¬ Fa2 k) ∧ Below W.heap.size W w' := by
  have hs5 := h5.size
  refine ⟨_, j.anew, h2.kept j.kept (h4 h (.inl rfl)).2.2 (fun k hk => (h4 k (.inr hk)).2.2), ?_, ?_, below_of_kept8 h5 j.bel j.kept (fun k hk ha => by have := (h3 k ha).1; omega)⟩
  · rintro k ⟨hk, hl⟩
    refine ⟨?_, hl⟩
    rcases hk with hk | hk
    · exact (h3 k hk).1
    · omega
  · intro k hk
    have := h4 k hk
    have hs := j.kept.1
    refine ⟨this.1, by omega, ?_⟩
    rintro ⟨hk2, -⟩
    rcases hk2 with hk2 | hk2
    · exact this.2.2 hk2
    · omega
theorem pairR {Fa Fr : Nat → Prop} (h1 : RanL w w Fa g gr B O tm ta ts tr ck bg L N) (h2 : RefW w h Fr tm ta ts tr ckr bgr All) (h3 : ∀ k, Fa k → W.heap.size ≤ k ∧ k < w.heap.size) (h4 : ∀ k, (k = h ∨ Fr k) → W.heap.size ≤ k ∧ k < w.heap.size ∧ ¬ Fa k) (h5 : Below W.heap.size W w)
    {ck2 : Int} {bg2 : Bool} {All2 : List (Int × Int)} (j : RefW w' h (fun k => Fr k ∨ w.heap.size ≤ k) tm ta ts tr ck2 bg2 All2) (jk : Kept w w' (fun k => k = h ∨ Fr k)) (jb : Below 0 w w') : Pair W w' g gr B O h tm ta ts tr ck bg L ck2 bg2 All2 N := by
  have hs5 := h5.size
  have hs := jk.1
  refine ⟨⟨Fa, _, h1.other (fun k hk => (h3 k hk).2) jk (fun k hk hr => (h4 k hr).2.2 hk), j.tight, ?_, ?_⟩, below_of_kept8 h5 jb jk (fun k hk ha => by have := (h4 k ha).1; omega)⟩
  · intro k hk
    exact ⟨(h3 k hk).1, by have := (h3 k hk).2; omega⟩
  · rintro k (rfl | ⟨hk, hl⟩)
    · have := h4 k (.inl rfl)
      exact ⟨this.1, by omega, this.2.2⟩
    · rcases hk with hk | hk
      · have := h4 k (.inr hk)
        exact ⟨this.1, hl, this.2.2⟩
      · exact ⟨by omega, hl, fun ha => by have := (h3 k ha).2; omega⟩
/-- A call of the window and one of the reference's, behind new blocks that are not theirs. -/
theorem Pair.both (i : Pair W w g gr B O h tm ta ts tr ck bg L ckr bgr All N) (hb : Below w.heap.size w w2) : ∃ Fa Fr : Nat → Prop, RanL w2 w2 Fa g gr B O tm ta ts tr ck bg L N ∧ (∀ k, Fa k → k < w.heap.size) ∧ (∀ k, (k = h ∨ Fr k) → k < w.heap.size) ∧
    ∀ (w3 : World) (ck2 : Int) (bg2 : Bool) (L2 : List (Int × Int)) (N2 : Int), RanL w2 w3 Fa g gr B O tm ta ts tr ck2 bg2 L2 N2 →
      ∀ w4, Below w3.heap.size w3 w4 → RefW w4 h Fr tm ta ts tr ckr bgr All ∧ Pair W w4 g gr B O h tm ta ts tr ck2 bg2 L2 ckr bgr All N2 ∧
      ∀ (w5 : World) (ck3 : Int) (bg3 : Bool) (All3 : List (Int × Int)), RefW w5 h (fun k => Fr k ∨ w4.heap.size ≤ k) tm ta ts tr ck3 bg3 All3 → Kept w4 w5 (fun k => k = h ∨ Fr k) → Below 0 w4 w5 → Pair W w5 g gr B O h tm ta ts tr ck2 bg2 L2 ck3 bg3 All3 N2 := by
  obtain ⟨⟨Fa, Fr, h1, h2, h3, h4⟩, h5⟩ := i
  have k1 := h1.other (fun k hk => (h3 k hk).2) (kept_any hb) (fun _ _ h => h)
  have hsz := hb.size
  have hs5 := h5.size
  refine ⟨Fa, Fr, k1, fun k hk => (h3 k hk).2, fun k hk => (h4 k hk).2.1, fun w3 ck2 bg2 L2 N2 j w4 b4 => ?_⟩
  obtain ⟨Fa2, e1, e2, e3, e4, e5⟩ := pairW k1 (h2.below hb) (fun k hk => ⟨(h3 k hk).1, Nat.lt_of_lt_of_le (h3 k hk).2 hsz⟩) (fun k hk => ⟨(h4 k hk).1, Nat.lt_of_lt_of_le (h4 k hk).2.1 hsz, (h4 k hk).2.2⟩) (h5.trans (hb.mono hs5)) j
  have e1' := e1.other (fun k hk => (e3 k hk).2) (kept_any b4) (fun _ _ h => h)
  have e3' : ∀ k, Fa2 k → W.heap.size ≤ k ∧ k < w4.heap.size := fun k hk => ⟨(e3 k hk).1, Nat.lt_of_lt_of_le (e3 k hk).2 b4.size⟩
  have e4' : ∀ k, (k = h ∨ Fr k) → W.heap.size ≤ k ∧ k < w4.heap.size ∧ ¬ Fa2 k := fun k hk => ⟨(e4 k hk).1, Nat.lt_of_lt_of_le (e4 k hk).2.1 b4.size, (e4 k hk).2.2⟩
  have e5' := e5.trans (b4.mono e5.size)
  exact ⟨e2.below b4, ⟨⟨Fa2, Fr, e1', e2.below b4, e3', e4'⟩, e5'⟩, fun w5 ck3 bg3 All3 r k b => pairR e1' (e2.below b4) e3' e4' e5' r k b⟩
theorem RefW.mono {ok ok2 : Nat → Prop} (i : RefW w h ok tm ta ts tr ck bg All) (hm : ∀ k, ok k → ok2 k) (ha : ∀ k, ok2 k → k ≠ h) : RefW w h ok2 tm ta ts tr ck bg All := by
  obtain ⟨⟨A, c, h1, h2⟩, h3, h4⟩ := i
  exact ⟨⟨A, c, h1, Kd.Q_mono h2 hm⟩, ha, h4⟩
end
/-- The window holds what the definition asks for. -/
structure PInv (ts ck : Int) (bg : Bool) (L All : List (Int × Int)) (N : Int) : Prop where
  inv : WinInv All L ck ts
  all : ∀ y ∈ All, SmpOk ck y
  clock : R64 ck
  fresh : bg = false → All = []
  few : (All.length : Int) ≤ N
theorem PInv.sub {ts ck N : Int} {bg : Bool} {L All : List (Int × Int)} (h : PInv ts ck bg L All N) : ∀ y ∈ L, y ∈ All := by
  intro y hy
  obtain ⟨D, h1, -⟩ := h.inv.ex
  rw [h1]
  exact List.mem_append_right _ hy
theorem PInv.at {ts ck N t : Int} {bg : Bool} {L All : List (Int × Int)} (h : PInv ts ck bg L All N) (ht : bg = true → ck ≤ t) : (∀ y ∈ All, SmpOk t y) ∧ WinInv All L t ts := by
  cases bg with
  | false =>
    have h1 := h.fresh rfl
    subst h1
    have h2 : L = [] := by
      rcases L with _ | ⟨y, L⟩
      · rfl
      · exact absurd (h.sub y List.mem_cons_self) (by simp)
    subst h2
    exact ⟨fun y hy => (by cases hy), WinInv.nil _ _⟩
  | true =>
    have h2 := ht rfl
    exact ⟨fun y hy => ⟨(h.all y hy).1, (h.all y hy).2.1, by have := (h.all y hy).2.2; omega⟩, h.inv.clock h2⟩
theorem PInv.put {ts ck N t x : Int} {bg : Bool} {L All : List (Int × Int)} (h : PInv ts ck bg L All N) (ht : bg = true → ck ≤ t) (h64 : R64 t) (hx : R64 x) : PInv ts t true (pushP L (t, x)) (All ++ [(t, x)]) (N + 1) := by
  obtain ⟨h1, h2⟩ := h.at ht
  refine ⟨WinInv.push (s := (t, x)) h2, ?_, h64, fun h => (by cases h), ?_⟩
  · intro y hy
    rcases List.mem_append.1 hy with hy | hy
    · exact h1 y hy
    · simp at hy; subst hy; exact ⟨h64, hx, Int.le_refl _⟩
  · rw [List.length_append]
    have := h.few
    simp
    omega
theorem PInv.read {ts ck N t : Int} {bg : Bool} {L All : List (Int × Int)} (h : PInv ts ck bg L All N) (ht : bg = true → ck ≤ t) (h64 : R64 t) : PInv ts t true (expP t ts L) All N ∧ heldP All t ts = expP t ts L := by
  obtain ⟨h1, h2⟩ := h.at ht
  obtain ⟨h3, h4⟩ := h2.expire
  exact ⟨⟨h3, h1, h64, fun h => (by cases h), h.few⟩, h4⟩
end Go.Proofs.Ytgfnlhigmncdmaa

end
section
namespace Go.Proofs.Ytgfnlhigmncdmaa
set_option linter.unusedVariables false
set_option linter.unusedSimpArgs false
open Go.RowKit Go.Proofs.YtgfnlhigmncdmaaW.PrintWords Go.Proofs.YtgfnlhigmncdmaaW.PrintLast Go.Proofs.YtgfnlhigmncdmaaW.PrintMore

section
variable {W w : World} {g gr : Nat} {B O : Value} {h : Nat} {tm ta ts tr : Int} {ck : Int} {bg : Bool} {L : List (Int × Int)} {All : List (Int × Int)} {N t v kd : Int}
/-- What a step leaves. -/
def Stepped (W : World) (g gr : Nat) (B O : Value) (h : Nat) (tm ta ts tr N : Int) (e : Ending) (w' : World) : Prop :=
  e = .returned (.bool true) ∧ ∃ (ck : Int) (bg : Bool) (L All : List (Int × Int)), Pair W w' g gr B O h tm ta ts tr ck bg L ck bg All (N + 1) ∧ PInv ts ck bg L All (N + 1)
theorem PInv.more {ts ck N N2 : Int} {bg : Bool} {L All : List (Int × Int)} (p : PInv ts ck bg L All N) (hn : N ≤ N2) : PInv ts ck bg L All N2 := ⟨p.inv, p.all, p.clock, p.fresh, by have := p.few; omega⟩
set_option maxHeartbeats 8000000 in
set_option maxRecDepth 100000 in
theorem step_else (i : Pair W w g gr B O h tm ta ts tr ck bg L ck bg All N) (p : PInv ts ck bg L All N) (hR : RightT tm ta ts tr) (ht : R64 t) (hv : R64 v) (hN : N + 1 ≤ 8796093022200) (h1 : ¬ kd = 1) (h2 : ¬ kd = 2) (h3 : ¬ kd = 3) :
    Calls Try.prog 17 #[.pointer (some ⟨g, 0, none⟩), .pointer (some ⟨h, 0, none⟩), .agg #[.int .i64 kd, .int .i64 t, .int .i64 v]] w (Stepped W g gr B O h tm ta ts tr N) := by
  obtain ⟨w1, hw1⟩ : ∃ w1, w.alloc (.cells #[.int .i64 kd, .int .i64 t, .int .i64 v] 54) = w1 := ⟨_, rfl⟩
  obtain ⟨b, hb⟩ : ∃ b, w.heap.size = b := ⟨_, rfl⟩
  have b1 : Below w.heap.size w w1 := by subst hw1; exact below_alloc (Below.refl _ _) _
  have k1 : w1.heap[b]? = some (.cells #[.int .i64 kd, .int .i64 t, .int .i64 v] 54 (0, 0)) := by subst hw1 hb; exact blk_new _ _
  have I := Lib.hid i
  have P := Lib.hid p
  have HR := Lib.hid hR
  have HTV := Lib.hid (And.intro ht hv)
  have HN := Lib.hid hN
  have B1 := Lib.hid b1
  have K1 := Lib.hid k1
  have HB := Lib.hid hb
  have x0 := (blk_cell k1 0).trans rfl
  have x1 := (blk_cell k1 1).trans rfl
  have x2 := (blk_cell k1 2).trans rfl
  have n1 : (kd == 1) = false := by simpa using h1
  have n2 : (kd == 2) = false := by simpa using h2
  have n3 : (kd == 3) = false := by simpa using h3
  clear i p hR ht hv hN b1 k1 h1 h2 h3
  go_enter Try.func17, Try.ntmps17
  go_wp2
  go_ret
  exact ⟨by simp, ck, bg, L, All, (I.out.below B1.out).more (by omega), P.out.more (by omega)⟩
set_option maxHeartbeats 8000000 in
set_option maxRecDepth 100000 in
theorem step_put_stale (i : Pair W w g gr B O h tm ta ts tr ck true L ck true All N) (p : PInv ts ck true L All N) (hR : RightT tm ta ts tr) (ht : R64 t) (hv : R64 v) (hN : N + 1 ≤ 8796093022200) (hst : t < ck) :
    Calls Try.prog 17 #[.pointer (some ⟨g, 0, none⟩), .pointer (some ⟨h, 0, none⟩), .agg #[.int .i64 1, .int .i64 t, .int .i64 v]] w (Stepped W g gr B O h tm ta ts tr N) := by
  obtain ⟨w1, hw1⟩ : ∃ w1, w.alloc (.cells #[.int .i64 1, .int .i64 t, .int .i64 v] 54) = w1 := ⟨_, rfl⟩
  obtain ⟨b, hb⟩ : ∃ b, w.heap.size = b := ⟨_, rfl⟩
  have b1 : Below w.heap.size w w1 := by subst hw1; exact below_alloc (Below.refl _ _) _
  have k1 : w1.heap[b]? = some (.cells #[.int .i64 1, .int .i64 t, .int .i64 v] 54 (0, 0)) := by subst hw1 hb; exact blk_new _ _
  have I := Lib.hid i
  have P := Lib.hid p
  have HR := Lib.hid hR
  have HTV := Lib.hid (And.intro ht hv)
  have HN := Lib.hid hN
  have B1 := Lib.hid b1
  have K1 := Lib.hid k1
  have HB := Lib.hid hb
  have x0 := (blk_cell k1 0).trans rfl
  have x1 := (blk_cell k1 1).trans rfl
  have x2 := (blk_cell k1 2).trans rfl
  have HG := Lib.hid hst
  obtain ⟨w2, hw2⟩ : ∃ w2, w1.alloc (.cells #[.int .i64 t, .int .i64 v] 38) = w2 := ⟨_, rfl⟩
  obtain ⟨b7, hb7⟩ : ∃ b7, w1.heap.size = b7 := ⟨_, rfl⟩
  have b2 : Below w1.heap.size w1 w2 := by subst hw2; exact below_alloc (Below.refl _ _) _
  have k2 : w2.heap[b7]? = some (.cells #[.int .i64 t, .int .i64 v] 38 (0, 0)) := by subst hw2 hb7; exact blk_new _ _
  have BW2 := Lib.hid (b1.trans (b2.mono b1.size))
  have K2 := Lib.hid k2
  have HLT := Lib.hid (show w.heap.size ≤ b7 by have := b1.size; omega)
  have y0 := (blk_cell k2 0).trans rfl
  have y1 := (blk_cell k2 1).trans rfl
  have BWD := Lib.hid (BW2.out.trans ((Below.refl w2.heap.size w2).drew.mono BW2.out.size))
  obtain ⟨FA, FR0, hA, -, -, -⟩ := i.both BWD.out
  have HA := Lib.hid hA
  have I2 := Lib.hid (i.below BWD.out)
  clear i p hR ht hv hN b1 k1 b2 k2 hst hA
  go_enter Try.func17, Try.ntmps17
  go_wp2
  go_region_held3 (fun w' => w'.cell? ⟨b7, 0, none⟩ = some (.int .i64 t) ∧ w'.cell? ⟨b7, 1, none⟩ = some (.int .i64 v)) (first | exact ⟨y0, y1⟩ | exact ⟨z0, z1⟩ | exact ⟨u0, u1⟩ | (simp [go_sem, y0, y1]; done)) (first
    | (go_at_call 11; refine (win_put_stale HA.out HG.out (x := v)).mono ?_; rintro e w3 ⟨rfl, b3⟩; have k3 := blk_below (blk_drew K2.out) b3; have z0 := (blk_cell k3 0).trans rfl; have z1 := (blk_cell k3 1).trans rfl; have I3 := Lib.hid (I2.out.below b3); have K3 := Lib.hid k3; obtain ⟨FA1, FR, -, hr, -, -⟩ := I3.out.ex; have HFR := Lib.hid hr; clear b3 k3 hr)
    | (go_at_call 12; refine (ref_put_stale HFR.out HG.out (x := v)).mono ?_; rintro e w4 ⟨rfl, b4⟩; have k4 := blk_below K3.out b4; have u0 := (blk_cell k4 0).trans rfl; have u1 := (blk_cell k4 1).trans rfl; have I4 := Lib.hid (I3.out.below b4); clear b4 k4))
  all_goals
    go_wp2
    go_ret
    exact ⟨by simp, ck, true, L, All, I4.out.more (by omega), P.out.more (by omega)⟩
set_option maxHeartbeats 8000000 in
set_option maxRecDepth 100000 in
theorem step_put (i : Pair W w g gr B O h tm ta ts tr ck bg L ck bg All N) (p : PInv ts ck bg L All N) (hR : RightT tm ta ts tr) (ht : R64 t) (hv : R64 v) (hN : N + 1 ≤ 8796093022200) (hge : bg = true → ck ≤ t) :
    Calls Try.prog 17 #[.pointer (some ⟨g, 0, none⟩), .pointer (some ⟨h, 0, none⟩), .agg #[.int .i64 1, .int .i64 t, .int .i64 v]] w (Stepped W g gr B O h tm ta ts tr N) := by
  obtain ⟨w1, hw1⟩ : ∃ w1, w.alloc (.cells #[.int .i64 1, .int .i64 t, .int .i64 v] 54) = w1 := ⟨_, rfl⟩
  obtain ⟨b, hb⟩ : ∃ b, w.heap.size = b := ⟨_, rfl⟩
  have b1 : Below w.heap.size w w1 := by subst hw1; exact below_alloc (Below.refl _ _) _
  have k1 : w1.heap[b]? = some (.cells #[.int .i64 1, .int .i64 t, .int .i64 v] 54 (0, 0)) := by subst hw1 hb; exact blk_new _ _
  have I := Lib.hid i
  have P := Lib.hid p
  have HR := Lib.hid hR
  have HTV := Lib.hid (And.intro ht hv)
  have HN := Lib.hid hN
  have B1 := Lib.hid b1
  have K1 := Lib.hid k1
  have HB := Lib.hid hb
  have x0 := (blk_cell k1 0).trans rfl
  have x1 := (blk_cell k1 1).trans rfl
  have x2 := (blk_cell k1 2).trans rfl
  have HG := Lib.hid hge
  obtain ⟨w2, hw2⟩ : ∃ w2, w1.alloc (.cells #[.int .i64 t, .int .i64 v] 38) = w2 := ⟨_, rfl⟩
  obtain ⟨b7, hb7⟩ : ∃ b7, w1.heap.size = b7 := ⟨_, rfl⟩
  have b2 : Below w1.heap.size w1 w2 := by subst hw2; exact below_alloc (Below.refl _ _) _
  have k2 : w2.heap[b7]? = some (.cells #[.int .i64 t, .int .i64 v] 38 (0, 0)) := by subst hw2 hb7; exact blk_new _ _
  have BW2 := Lib.hid (b1.trans (b2.mono b1.size))
  have K2 := Lib.hid k2
  have HLT := Lib.hid (show w.heap.size ≤ b7 by have := b1.size; omega)
  have y0 := (blk_cell k2 0).trans rfl
  have y1 := (blk_cell k2 1).trans rfl
  have BWD := Lib.hid (BW2.out.trans ((Below.refl w2.heap.size w2).drew.mono BW2.out.size))
  obtain ⟨FA, FR, hA, hAl, hRl, stA⟩ := i.both BWD.out
  have HRL := Lib.hid hRl
  have HA := Lib.hid hA
  have HAL := Lib.hid hAl
  have STA := Lib.hid stA
  have HAT := Lib.hid (fun y hy => ((p.at hge).1 y (p.sub y hy)).2.1)
  have HFEW := Lib.hid (show All.length + 1 ≤ 8796093022208 by have := p.few; omega)
  clear i p hR ht hv hN b1 k1 b2 k2 hge hA hAl hRl stA
  go_enter Try.func17, Try.ntmps17
  go_wp2
  go_region_held3 (fun w' => w'.cell? ⟨b7, 0, none⟩ = some (.int .i64 t) ∧ w'.cell? ⟨b7, 1, none⟩ = some (.int .i64 v)) (first | exact ⟨y0, y1⟩ | exact ⟨z0, z1⟩ | exact ⟨u0, u1⟩ | (simp [go_sem, y0, y1]; done)) (first
    | (go_at_call 11; refine (win_put HA.out HTV.out.2 HAT.out HG.out (by have := HN.out; omega)).mono ?_; rintro e w3 ⟨rfl, s3, r3⟩; have k3 := blk_kept (blk_drew K2.out) r3.kept (fun hk => by have := HAL.out _ hk; have := HLT.out; omega); have z0 := (blk_cell k3 0).trans rfl; have z1 := (blk_cell k3 1).trans rfl; obtain ⟨hr, -, str⟩ := STA.out _ _ _ _ _ r3 _ (Below.refl _ _); have K3 := Lib.hid k3; have HFR := Lib.hid hr; have STR := Lib.hid str; clear r3 s3 k3 hr str)
    | (go_at_call 12; refine (ref_put HFR.out HG.out HFEW.out).mono ?_; rintro e w4 ⟨rfl, r4, k4, b4⟩; have I4 := Lib.hid (STR.out _ _ _ _ r4 k4 b4); have k5 := blk_kept K3.out k4 (fun hk => by have := HRL.out _ hk; have := HLT.out; omega); have u0 := (blk_cell k5 0).trans rfl; have u1 := (blk_cell k5 1).trans rfl; clear r4 k4 b4 k5))
  all_goals
    go_wp2
    go_ret
    exact ⟨by simp, t, true, pushP L (t, v), All ++ [(t, v)], I4.out, P.out.put HG.out HTV.out.1 HTV.out.2⟩
end
end Go.Proofs.Ytgfnlhigmncdmaa

end
section
namespace Go.Proofs.Ytgfnlhigmncdmaa
set_option linter.unusedVariables false
set_option linter.unusedSimpArgs false
open Go.RowKit Go.Proofs.YtgfnlhigmncdmaaW.PrintWords Go.Proofs.YtgfnlhigmncdmaaW.PrintLast Go.Proofs.YtgfnlhigmncdmaaW.PrintMore

section
variable {W w : World} {g gr : Nat} {B O : Value} {h : Nat} {tm ta ts tr : Int} {ck : Int} {bg : Bool} {L : List (Int × Int)} {All : List (Int × Int)} {N t v kd : Int}
set_option maxHeartbeats 8000000 in
set_option maxRecDepth 100000 in
theorem step_read_stale (i : Pair W w g gr B O h tm ta ts tr ck true L ck true All N) (p : PInv ts ck true L All N) (hR : RightT tm ta ts tr) (ht : R64 t) (hv : R64 v) (hN : N + 1 ≤ 8796093022200) (hst : t < ck) :
    Calls Try.prog 17 #[.pointer (some ⟨g, 0, none⟩), .pointer (some ⟨h, 0, none⟩), .agg #[.int .i64 2, .int .i64 t, .int .i64 v]] w (Stepped W g gr B O h tm ta ts tr N) := by
  obtain ⟨w1, hw1⟩ : ∃ w1, w.alloc (.cells #[.int .i64 2, .int .i64 t, .int .i64 v] 54) = w1 := ⟨_, rfl⟩
  obtain ⟨b, hb⟩ : ∃ b, w.heap.size = b := ⟨_, rfl⟩
  have b1 : Below w.heap.size w w1 := by subst hw1; exact below_alloc (Below.refl _ _) _
  have k1 : w1.heap[b]? = some (.cells #[.int .i64 2, .int .i64 t, .int .i64 v] 54 (0, 0)) := by subst hw1 hb; exact blk_new _ _
  have I := Lib.hid i
  have P := Lib.hid p
  have HR := Lib.hid hR
  have HTV := Lib.hid (And.intro ht hv)
  have HN := Lib.hid hN
  have B1 := Lib.hid b1
  have K1 := Lib.hid k1
  have HB := Lib.hid hb
  have x0 := (blk_cell k1 0).trans rfl
  have x1 := (blk_cell k1 1).trans rfl
  have x2 := (blk_cell k1 2).trans rfl
  have HG := Lib.hid hst
  have I1 := Lib.hid (i.below b1)
  obtain ⟨FA, FR0, hA, -⟩ := (i.below b1).ex
  have HA := Lib.hid hA
  clear i p hR ht hv hN b1 k1 hst hA
  go_enter Try.func17, Try.ntmps17
  go_wp2_with fail
  refine (win_read_stale HA.out HG.out).mono ?_
  rintro e w3 ⟨rfl, b3⟩
  have k3 := blk_below K1.out b3
  have b4 : Below w3.heap.size w3 (w3.alloc (.cells #[.int .i64 0, .int .i64 0] 42)) := below_alloc (Below.refl _ _) _
  have x1 := (blk_cell (blk_below k3 b4) 1).trans rfl
  have I4 := Lib.hid ((I1.out.below b3).below b4)
  have N4 := Lib.hid (blk_new w3 (.cells #[.int .i64 0, .int .i64 0] 42))
  obtain ⟨FA1, FR, -, hr, -, -⟩ := I4.out.ex
  have HFR := Lib.hid hr
  clear b3 k3 b4 hr x0 x2
  go_wp2_with fail
  refine (ref_wread_stale HFR.out HG.out).mono ?_
  rintro e w5 ⟨rfl, b5⟩
  have k5 := blk_below N4.out b5
  have b6 : Below w5.heap.size w5 (w5.alloc (.cells #[.int .i64 0, .int .i64 0] 42)) := below_alloc (Below.refl _ _) _
  have k6 := blk_below k5 b6
  have n6 := blk_new w5 (.cells #[.int .i64 0, .int .i64 0] 42)
  have z0 := (blk_cell k6 0).trans rfl
  have z1 := (blk_cell k6 1).trans rfl
  have z2 := (blk_cell n6 0).trans rfl
  have z3 := (blk_cell n6 1).trans rfl
  have I6 := Lib.hid ((I4.out.below b5).below b6)
  have EQ := fun w => sameRes 0 0 w
  clear b5 k5 b6 k6 n6
  go_wp2
  go_ret
  exact ⟨by simp, ck, true, L, All, I6.out.more (by omega), P.out.more (by omega)⟩
set_option maxHeartbeats 8000000 in
set_option maxRecDepth 100000 in
theorem step_read (i : Pair W w g gr B O h tm ta ts tr ck bg L ck bg All N) (p : PInv ts ck bg L All N) (hR : RightT tm ta ts tr) (ht : R64 t) (hv : R64 v) (hN : N + 1 ≤ 8796093022200) (hge : bg = true → ck ≤ t) :
    Calls Try.prog 17 #[.pointer (some ⟨g, 0, none⟩), .pointer (some ⟨h, 0, none⟩), .agg #[.int .i64 2, .int .i64 t, .int .i64 v]] w (Stepped W g gr B O h tm ta ts tr N) := by
  obtain ⟨w1, hw1⟩ : ∃ w1, w.alloc (.cells #[.int .i64 2, .int .i64 t, .int .i64 v] 54) = w1 := ⟨_, rfl⟩
  obtain ⟨b, hb⟩ : ∃ b, w.heap.size = b := ⟨_, rfl⟩
  have b1 : Below w.heap.size w w1 := by subst hw1; exact below_alloc (Below.refl _ _) _
  have k1 : w1.heap[b]? = some (.cells #[.int .i64 2, .int .i64 t, .int .i64 v] 54 (0, 0)) := by subst hw1 hb; exact blk_new _ _
  have I := Lib.hid i
  have P := Lib.hid p
  have HR := Lib.hid hR
  have HTV := Lib.hid (And.intro ht hv)
  have HN := Lib.hid hN
  have B1 := Lib.hid b1
  have K1 := Lib.hid k1
  have HB := Lib.hid hb
  have x0 := (blk_cell k1 0).trans rfl
  have x1 := (blk_cell k1 1).trans rfl
  have x2 := (blk_cell k1 2).trans rfl
  have HG := Lib.hid hge
  obtain ⟨FA, FR, hA, hAl, hRl, stA⟩ := i.both b1
  have HA := Lib.hid hA
  have HAL := Lib.hid hAl
  have HRL := Lib.hid hRl
  have STA := Lib.hid stA
  obtain ⟨hp1, hp2⟩ := p.read hge ht
  have HP1 := Lib.hid hp1
  have HALL := Lib.hid (p.at hge).1
  have HSUB := Lib.hid (fun y hy => (p.at hge).1 y (p.sub y hy))
  have HFEW := Lib.hid (show All.length ≤ 8796093022200 by have := p.few; omega)
  obtain ⟨rr, hrr⟩ : ∃ rr, readV ta tr ((expP t ts L).map (·.2)) = rr := ⟨_, rfl⟩
  have HR1 := Lib.hid hrr
  have HR2 := Lib.hid (show readV ta tr ((heldP All t ts).map (·.2)) = rr by rw [hp2]; exact hrr)
  have HLT := Lib.hid (show w.heap.size ≤ b by omega)
  clear i p hR ht hv hN b1 k1 hge hA hAl hRl stA hp1 hp2 hrr
  go_enter Try.func17, Try.ntmps17
  go_wp2_with fail
  refine (win_read HA.out HSUB.out HTV.out.1 HR.out.2.2.2.1 HR.out.2.2.2.2.1 ⟨HR.out.2.1, HR.out.2.2.1⟩ HR.out.2.2.2.2.2.1 HG.out).mono ?_
  rintro e w3 ⟨rfl, s3, r3⟩
  rw [HR1.out]
  have k3 := blk_kept K1.out r3.kept (fun hk => by have := HAL.out _ hk; have := HLT.out; omega)
  obtain ⟨w4, hw4⟩ : ∃ w4, w3.alloc (.cells #[.int .i64 rr.1, .int .i64 rr.2] 42) = w4 := ⟨_, rfl⟩
  obtain ⟨b8, hb8⟩ : ∃ b8, w3.heap.size = b8 := ⟨_, rfl⟩
  have b4 : Below w3.heap.size w3 w4 := by subst hw4; exact below_alloc (Below.refl _ _) _
  have n4 : w4.heap[b8]? = some (.cells #[.int .i64 rr.1, .int .i64 rr.2] 42 (0, 0)) := by subst hw4 hb8; exact blk_new _ _
  obtain ⟨hr, -, str⟩ := STA.out _ _ _ _ _ r3 w4 b4
  have HFR := Lib.hid hr
  have STR := Lib.hid str
  have x1 := (blk_cell (blk_below k3 b4) 1).trans rfl
  have N4 := Lib.hid n4
  have HB8 := Lib.hid (show ¬ b8 = h by have := HRL.out h (.inl rfl); have h1 := r3.kept.1; have h2 := B1.out.size; omega)
  have HLH := Lib.hid (show h < w4.heap.size by exact hr.lt)
  clear k3 s3 r3 b4 n4 hr str x0 x2
  go_wp2_with fail
  refine (ref_wread HFR.out HR.out HTV.out.1 HALL.out HFEW.out HG.out).mono ?_
  rintro e w5 ⟨rfl, r5, k5, b5⟩
  rw [HR2.out]
  have I5 := Lib.hid (STR.out w5 _ _ _ (r5.mono (fun k hk => .inl hk) (fun k hk => by rcases hk with hk | hk; exact r5.away k hk; have := HLH.out; omega)) (k5.mono (fun k hk => .inl hk)) b5)
  have m5 := blk_kept N4.out k5 HB8.out
  obtain ⟨w6, hw6⟩ : ∃ w6, w5.alloc (.cells #[.int .i64 rr.1, .int .i64 rr.2] 42) = w6 := ⟨_, rfl⟩
  obtain ⟨b10, hb10⟩ : ∃ b10, w5.heap.size = b10 := ⟨_, rfl⟩
  have b6 : Below w5.heap.size w5 w6 := by subst hw6; exact below_alloc (Below.refl _ _) _
  have n6 : w6.heap[b10]? = some (.cells #[.int .i64 rr.1, .int .i64 rr.2] 42 (0, 0)) := by subst hw6 hb10; exact blk_new _ _
  have m6 := blk_below m5 b6
  have z0 := (blk_cell m6 0).trans rfl
  have z1 := (blk_cell m6 1).trans rfl
  have z2 := (blk_cell n6 0).trans rfl
  have z3 := (blk_cell n6 1).trans rfl
  have I6 := Lib.hid (I5.out.below b6)
  have EQ := fun w => sameRes rr.1 rr.2 w
  clear r5 k5 b5 m5 b6 n6 m6
  go_wp2
  go_ret
  exact ⟨by simp, t, true, expP t ts L, All, I6.out.more (by omega), HP1.out.more (by omega)⟩
end
theorem same_l0 {X : List XWinA.S38} (hl : X.length ≤ 8796093022208) : ∀ (n i k : Nat), i + n = X.length → n < k → XWinA.capstanref08_SameSamples.l0 k X X (i : Int) = some true := by
  intro n
  induction n with
  | zero =>
    intro i k hi hk
    obtain ⟨k, rfl⟩ : ∃ m, k = m + 1 := ⟨k - 1, by omega⟩
    rw [XWinA.capstanref08_SameSamples.l0, if_neg (by omega)]
  | succ n ih =>
    intro i k hi hk
    obtain ⟨k, rfl⟩ : ∃ m, k = m + 1 := ⟨k - 1, by omega⟩
    rw [XWinA.capstanref08_SameSamples.l0, if_pos (by omega), if_pos (by omega), if_pos (by omega), if_neg (by simp), w64i (by omega)]
    exact ih (i + 1) k (by omega) (by omega)
theorem same_calls {w : World} {A A2 : Option Addr} {n c c2 : Nat} {X : List (Int × Int)} (hn : X.length = n) (hl : n ≤ 4096) (hC : Kd.C XWinA.k38 w A n (X.map toS)) (hc : n ≤ c) (hC2 : Kd.C XWinA.k38 w A2 n (X.map toS)) (hc2 : n ≤ c2) :
    Calls Try.prog 39 #[.slice A n c, .slice A2 n c2] w fun e w' => e = .returned (.bool true) ∧ Below w.heap.size w w' := by
  subst hn
  have hx : (X.map toS).length = X.length := List.length_map ..
  have h := XWinA.capstanref08_SameSamples.calls 5000 A c (X.map toS) A2 c2 (X.map toS) true w (by rw [hx]; exact hC) (by rw [hx]; exact hc) (by rw [hx]; exact hC2) (by rw [hx]; exact hc2) (by
    unfold XWinA.capstanref08_SameSamples.f
    rw [if_pos rfl]
    exact same_l0 (by rw [hx]; omega) X.length 0 5000 (by rw [hx]; omega) (by omega))
  rw [hx] at h
  refine h.mono ?_
  rintro e w' ⟨rfl, ⟨m, rfl⟩⟩
  exact ⟨rfl, pw_below_drewN (Below.refl _ _) _⟩
end Go.Proofs.Ytgfnlhigmncdmaa

end
section
namespace Go.Proofs.Ytgfnlhigmncdmaa
set_option linter.unusedVariables false
set_option linter.unusedSimpArgs false
open Go.RowKit Go.Proofs.YtgfnlhigmncdmaaW.PrintWords Go.Proofs.YtgfnlhigmncdmaaW.PrintLast Go.Proofs.YtgfnlhigmncdmaaW.PrintMore

section
variable {W w : World} {g gr : Nat} {B O : Value} {h : Nat} {tm ta ts tr : Int} {ck : Int} {bg : Bool} {L : List (Int × Int)} {All : List (Int × Int)} {N t v kd : Int}
set_option maxHeartbeats 8000000 in
set_option maxRecDepth 100000 in
theorem step_held_stale (i : Pair W w g gr B O h tm ta ts tr ck true L ck true All N) (p : PInv ts ck true L All N) (hR : RightT tm ta ts tr) (ht : R64 t) (hv : R64 v) (hN : N + 1 ≤ 8796093022200) (hst : t < ck) :
    Calls Try.prog 17 #[.pointer (some ⟨g, 0, none⟩), .pointer (some ⟨h, 0, none⟩), .agg #[.int .i64 3, .int .i64 t, .int .i64 v]] w (Stepped W g gr B O h tm ta ts tr N) := by
  obtain ⟨w1, hw1⟩ : ∃ w1, w.alloc (.cells #[.int .i64 3, .int .i64 t, .int .i64 v] 54) = w1 := ⟨_, rfl⟩
  obtain ⟨b, hb⟩ : ∃ b, w.heap.size = b := ⟨_, rfl⟩
  have b1 : Below w.heap.size w w1 := by subst hw1; exact below_alloc (Below.refl _ _) _
  have k1 : w1.heap[b]? = some (.cells #[.int .i64 3, .int .i64 t, .int .i64 v] 54 (0, 0)) := by subst hw1 hb; exact blk_new _ _
  have I := Lib.hid i
  have P := Lib.hid p
  have HR := Lib.hid hR
  have HTV := Lib.hid (And.intro ht hv)
  have HN := Lib.hid hN
  have B1 := Lib.hid b1
  have K1 := Lib.hid k1
  have HB := Lib.hid hb
  have x0 := (blk_cell k1 0).trans rfl
  have x1 := (blk_cell k1 1).trans rfl
  have x2 := (blk_cell k1 2).trans rfl
  have HG := Lib.hid hst
  have I1 := Lib.hid (i.below b1)
  obtain ⟨FA, FR0, hA, -⟩ := (i.below b1).ex
  obtain ⟨FA1, FR, -, hr, -, -⟩ := I1.out.ex
  have HFR := Lib.hid hr
  have HA := Lib.hid hA
  clear i p hR ht hv hN b1 k1 hst hA hr
  go_enter Try.func17, Try.ntmps17
  go_wp2_with fail
  refine (win_held_stale HA.out HG.out).mono ?_
  rintro e w3 ⟨rfl, rfl⟩
  go_wp2_with fail
  refine (ref_wread_stale HFR.out HG.out).mono ?_
  rintro e w5 ⟨rfl, b5⟩
  have b6 : Below w5.heap.size w5 (w5.alloc (.cells #[.int .i64 0, .int .i64 0] 42)) := below_alloc (Below.refl _ _) _
  have I6 := Lib.hid ((I1.out.below b5).below b6)
  clear b5 b6 x0 x1 x2
  go_wp2
  go_ret
  exact ⟨by simp, ck, true, L, All, I6.out.more (by omega), P.out.more (by omega)⟩
set_option maxHeartbeats 8000000 in
set_option maxRecDepth 100000 in
theorem step_held (i : Pair W w g gr B O h tm ta ts tr ck bg L ck bg All N) (p : PInv ts ck bg L All N) (hR : RightT tm ta ts tr) (ht : R64 t) (hv : R64 v) (hN : N + 1 ≤ 8796093022200) (hge : bg = true → ck ≤ t) :
    Calls Try.prog 17 #[.pointer (some ⟨g, 0, none⟩), .pointer (some ⟨h, 0, none⟩), .agg #[.int .i64 3, .int .i64 t, .int .i64 v]] w (Stepped W g gr B O h tm ta ts tr N) := by
  obtain ⟨w1, hw1⟩ : ∃ w1, w.alloc (.cells #[.int .i64 3, .int .i64 t, .int .i64 v] 54) = w1 := ⟨_, rfl⟩
  obtain ⟨b, hb⟩ : ∃ b, w.heap.size = b := ⟨_, rfl⟩
  have b1 : Below w.heap.size w w1 := by subst hw1; exact below_alloc (Below.refl _ _) _
  have k1 : w1.heap[b]? = some (.cells #[.int .i64 3, .int .i64 t, .int .i64 v] 54 (0, 0)) := by subst hw1 hb; exact blk_new _ _
  have I := Lib.hid i
  have P := Lib.hid p
  have HR := Lib.hid hR
  have HTV := Lib.hid (And.intro ht hv)
  have HN := Lib.hid hN
  have B1 := Lib.hid b1
  have K1 := Lib.hid k1
  have HB := Lib.hid hb
  have x0 := (blk_cell k1 0).trans rfl
  have x1 := (blk_cell k1 1).trans rfl
  have x2 := (blk_cell k1 2).trans rfl
  have HG := Lib.hid hge
  obtain ⟨FA, FR, hA, hAl, hRl, stA⟩ := i.both b1
  have HA := Lib.hid hA
  have HAL := Lib.hid hAl
  have HRL := Lib.hid hRl
  have STA := Lib.hid stA
  obtain ⟨hp1, hp2⟩ := p.read hge ht
  have HP1 := Lib.hid hp1
  have HALL := Lib.hid (p.at hge).1
  have HSUB := Lib.hid (fun y hy => (p.at hge).1 y (p.sub y hy))
  have HFEW := Lib.hid (show All.length ≤ 8796093022200 by have := p.few; omega)
  obtain ⟨rr, hrr⟩ : ∃ rr, readV ta tr ((heldP All t ts).map (·.2)) = rr := ⟨_, rfl⟩
  have HR2 := Lib.hid hrr
  obtain ⟨X, hX⟩ : ∃ X, expP t ts L = X := ⟨_, rfl⟩
  have HX1 := Lib.hid hX
  have HX2 := Lib.hid (show heldP All t ts = X by rw [hp2]; exact hX)
  have HXL := Lib.hid (show X.length ≤ 4096 by have := hp1.inv.few; rw [hX] at this; exact this)
  have HLT := Lib.hid (show w.heap.size ≤ b by omega)
  have HBL := Lib.hid (show b < w1.heap.size from blk_lt k1)
  clear i p hR ht hv hN b1 k1 hge hA hAl hRl stA hp1 hp2 hrr hX
  go_enter Try.func17, Try.ntmps17
  go_wp2_with fail
  refine (win_held HA.out HSUB.out HTV.out.1 HR.out.2.2.2.1 HR.out.2.2.2.2.1 HG.out).mono ?_
  rintro e w4 ⟨vv, w3, rfl, q4, s3, r3, b4⟩
  rw [HX1.out] at q4 r3
  have k3 := blk_below (blk_kept K1.out r3.kept (fun hk => by have := HAL.out _ hk; have := HLT.out; omega)) b4
  obtain ⟨A4, c4, rfl⟩ := Kd.R_slice q4
  rw [List.length_map] at q4 ⊢
  obtain ⟨n, hn⟩ : ∃ n, X.length = n := ⟨_, rfl⟩
  rw [hn] at q4 ⊢
  have HN2 := Lib.hid hn
  obtain ⟨hr, -, str⟩ := STA.out _ _ _ _ _ r3 w4 b4
  have HFR := Lib.hid hr
  have STR := Lib.hid str
  have x1 := (blk_cell k3 1).trans rfl
  have K4 := Lib.hid k3
  have HLH := Lib.hid (show h < w3.heap.size by have := HRL.out h (.inl rfl); have := B1.out.size; omega)
  have HBH := Lib.hid (show ¬ b = h by have := HRL.out h (.inl rfl); have := HLT.out; omega)
  have Q4 := Lib.hid (Kd.R_mono (Kd.R_bound q4) (ok' := fun k => w3.heap.size ≤ k) (fun k hk => hk.2.1))
  clear k3 s3 r3 b4 hr str x0 x2 q4 hn
  go_wp2_with fail
  refine (ref_wread HFR.out HR.out HTV.out.1 HALL.out HFEW.out HG.out).mono ?_
  rintro e w5 ⟨rfl, r5, k5, b5⟩
  rw [HR2.out]
  have hlt4 := HFR.out.lt
  have I5 := Lib.hid (STR.out w5 _ _ _ (r5.mono (fun k hk => .inl hk) (fun k hk => by rcases hk with hk | hk; exact r5.away k hk; omega)) (k5.mono (fun k hk => .inl hk)) b5)
  have m5 := blk_kept K4.out k5 HBH.out
  have q5 := Kd.R_kept Q4.out k5 (fun k hk e => by have := HLH.out; omega)
  obtain ⟨w6, hw6⟩ : ∃ w6, w5.alloc (.cells #[.int .i64 rr.1, .int .i64 rr.2] 42) = w6 := ⟨_, rfl⟩
  have b6 : Below w5.heap.size w5 w6 := by subst hw6; exact below_alloc (Below.refl _ _) _
  have m6 := blk_below m5 b6
  have r6 := r5.below b6
  have q6 := Kd.R_below q5 b6
  obtain ⟨A, c, hb6, hq6⟩ := r6.ex
  obtain ⟨-, hq7, hq8⟩ := Kd.Q_reads' hq6
  obtain ⟨-, hq9, hq10⟩ := Kd.R_reads' q6
  rw [List.length_map] at hq8 hq10
  have z1 := (blk_cell m6 1).trans rfl
  have d2 := (blk_cell hb6 2).trans rfl
  have d4 := (blk_cell hb6 4).trans rfl
  have I6 := Lib.hid (I5.out.below b6)
  have M6 := Lib.hid m6
  have HB6 := Lib.hid hb6
  have HQ7 := Lib.hid hq7
  have HQ8 := Lib.hid hq8
  have HQ9 := Lib.hid hq9
  have HQ10 := Lib.hid hq10
  clear r5 k5 b5 m5 b6 m6 r6 q5 q6 hb6 hq6 hq7 hq8 hq9 hq10 hlt4
  go_wp2
  go_region_held3 (fun w' => w'.cell? ⟨h, 4, none⟩ = some (.slice A All.length c) ∧ w'.cell? ⟨h, 2, none⟩ = some (.int .i64 ts) ∧ w'.cell? ⟨b, 1, none⟩ = some (.int .i64 t)) (first | exact ⟨d4, d2, z1⟩ | exact ⟨e4, e2, f1⟩ | exact ⟨g4, g2, y1⟩ | (simp [go_sem, d4, d2, z1]; done)) (first
    | (go_at_call 40; refine (held_calls HTV.out.1 HR.out.2.2.2.1 HR.out.2.2.2.2.1 (fun y hy => ⟨(HALL.out y hy).1, (HALL.out y hy).2.2⟩) HFEW.out (smp_heap.C (fun k hk => (Below.refl w6.heap.size w6).drew.block k hk) HQ8.out) HQ7.out).mono ?_; rintro e w7 ⟨⟨A7, c7, rfl, hC7, hc7⟩, b7⟩; rw [HX2.out, HN2.out] at hC7 hc7; rw [HX2.out, HN2.out]; have b7' := (Below.refl w6.heap.size w6).drew.trans b7; have kb7 := blk_below HB6.out b7'; have e4 := (blk_cell kb7 4).trans rfl; have e2 := (blk_cell kb7 2).trans rfl; have km7 := blk_below M6.out b7'; have f1 := (blk_cell km7 1).trans rfl; have HC7 := Lib.hid hC7; have HCC7 := Lib.hid hc7; have B7 := Lib.hid b7'; have KB7 := Lib.hid kb7; have KM7 := Lib.hid km7; have HQ11 := Lib.hid (smp_heap.C (fun k hk => b7'.block k hk) HQ10.out); clear b7 b7' kb7 km7 hC7 hc7)
    | (go_at_call 39; refine (same_calls HN2.out (by have := HXL.out; have := HN2.out; omega) (by have := HQ11.out; rw [HN2.out] at this; exact this) HQ9.out HC7.out HCC7.out).mono ?_; rintro e w8 ⟨rfl, b8⟩; have kb8 := blk_below KB7.out b8; have g4 := (blk_cell kb8 4).trans rfl; have g2 := (blk_cell kb8 2).trans rfl; have km8 := blk_below KM7.out b8; have y1 := (blk_cell km8 1).trans rfl; have I8 := Lib.hid ((I6.out.below B7.out).below b8); clear b8 kb8 km8))
  all_goals
    go_wp2
    go_ret
    refine ⟨by simp, t, true, X, All, I8.out.more (by omega), ?_⟩
    rw [← HX1.out]
    exact HP1.out.more (by omega)
theorem step_calls (i : Pair W w g gr B O h tm ta ts tr ck bg L ck bg All N) (p : PInv ts ck bg L All N) (hR : RightT tm ta ts tr) (ht : R64 t) (hv : R64 v) (hN : N + 1 ≤ 8796093022200) :
    Calls Try.prog 17 #[.pointer (some ⟨g, 0, none⟩), .pointer (some ⟨h, 0, none⟩), .agg #[.int .i64 kd, .int .i64 t, .int .i64 v]] w (Stepped W g gr B O h tm ta ts tr N) := by
  by_cases hs : bg = true ∧ t < ck
  · obtain ⟨rfl, hs⟩ := hs
    by_cases h1 : kd = 1
    · subst h1; exact step_put_stale i p hR ht hv hN hs
    by_cases h2 : kd = 2
    · subst h2; exact step_read_stale i p hR ht hv hN hs
    by_cases h3 : kd = 3
    · subst h3; exact step_held_stale i p hR ht hv hN hs
    exact step_else i p hR ht hv hN h1 h2 h3
  · have hg : bg = true → ck ≤ t := fun h => by
      by_cases h2 : t < ck
      · exact absurd ⟨h, h2⟩ hs
      · omega
    by_cases h1 : kd = 1
    · subst h1; exact step_put i p hR ht hv hN hg
    by_cases h2 : kd = 2
    · subst h2; exact step_read i p hR ht hv hN hg
    by_cases h3 : kd = 3
    · subst h3; exact step_held i p hR ht hv hN hg
    exact step_else i p hR ht hv hN h1 h2 h3
end
end Go.Proofs.Ytgfnlhigmncdmaa

end
section
namespace Go.Proofs.Ytgfnlhigmncdmaa
set_option linter.unusedVariables false
set_option linter.unusedSimpArgs false
open Go.RowKit Go.Proofs.Ytgfnlhigmncdmaa.XMono Go.Proofs.YtgfnlhigmncdmaaW.PrintWords Go.Proofs.YtgfnlhigmncdmaaW.PrintLast Go.Proofs.YtgfnlhigmncdmaaW.PrintMore

/-- All that is held is well, and no later than the clock. -/
def AllOk (ck : Int) (bg : Bool) (L : List (Int × Int)) : Prop := (∀ y ∈ L, SmpOk ck y) ∧ R64 ck ∧ (bg = false → L = [])
theorem AllOk.at {ck t : Int} {bg : Bool} {L : List (Int × Int)} (h : AllOk ck bg L) (ht : bg = true → ck ≤ t) : ∀ y ∈ L, SmpOk t y := by
  intro y hy
  cases bg with
  | false => rw [h.2.2 rfl] at hy; cases hy
  | true =>
    have := h.1 y hy
    have h2 := ht rfl
    exact ⟨this.1, this.2.1, by have := this.2.2; omega⟩
end Go.Proofs.Ytgfnlhigmncdmaa

end
section
namespace Go.Proofs.Ytgfnlhigmncdmaa
set_option linter.unusedVariables false
set_option linter.unusedSimpArgs false
open Go.RowKit Go.Proofs.YtgfnlhigmncdmaaW.PrintWords
set_option maxRecDepth 100000
/-- A value that can be read as a list of calls is one. -/
theorem ops8_arg {H : Type} {enc : TypeId × Value → H} {base : Nat} {d : DataW H} {p : List MemPlace} {v : Value} {W : World} (hval : Value.okWide Try.prog W .any base 51 v)
    (h : DataW.Trod enc Try.prog W 0 (fun _ => true) true 51 v d p) (y : ∀ n ∈ DataW.weights Try.prog 51 d, n ≤ reachBytes) :
    ∃ s : Sl (Int × Int × Int), v = .slice s.at_ s.len s.cap ∧ Sl.ok Try.prog 54 op8Cells op8Ok W s := by
  obtain ⟨a, len, cap, rfl⟩ := WideShapes.okWide_slice Try.underlying51 hval
  obtain ⟨fuel, hf⟩ := h
  obtain ⟨s, hs, hok⟩ := opn_slice Try.underlying51 op8_opn hf y
  simp [Value.cells] at hs
  obtain ⟨rfl, rfl, rfl⟩ := hs
  exact ⟨s, rfl, hok⟩
end Go.Proofs.Ytgfnlhigmncdmaa

end
section
namespace Go.Proofs.Ytgfnlhigmncdmaa
set_option linter.unusedVariables false
set_option linter.unusedSimpArgs false
open Go.RowKit Go.Proofs.YtgfnlhigmncdmaaW.PrintWords Go.Proofs.YtgfnlhigmncdmaaW.PrintLast Go.Proofs.YtgfnlhigmncdmaaW.PrintMore

/-- A window and a reference's window have just been made. -/
theorem pair_made {W w2 w3 w4 : World} {g gr : Nat} {B O : Value} {tm ta ts tr : Int} (h2 : Below W.heap.size W w2) (r : RanL w2 w3 (fun _ => False) g gr B O tm ta ts tr 0 false [] 0) (h3 : w2.heap.size ≤ w3.heap.size)
    (h4 : w3.alloc (.cells #[.int .i64 tm, .int .i64 ta, .int .i64 ts, .int .i64 tr, .slice none 0 0, .int .i64 0, .bool false] 36) = w4) : Pair W w4 g gr B O w3.heap.size tm ta ts tr 0 false [] 0 false [] 0 := by
  have b4 : Below w3.heap.size w3 w4 := by rw [← h4]; exact below_alloc (Below.refl _ _) _
  have b3 := r.bel0
  have k4 : w4.heap[w3.heap.size]? = some (.cells #[.int .i64 tm, .int .i64 ta, .int .i64 ts, .int .i64 tr, .slice none 0 0, .int .i64 0, .bool false] 36 (0, 0)) := by rw [← h4]; exact blk_new _ _
  have hA := r.anew
  have s2 := h2.size
  have s4 := b4.size
  refine ⟨⟨_, fun _ => False, hA.other (fun k hk => hk.2) (kept_any b4) (fun _ _ h => h), ⟨⟨none, 0, k4, Kd.Q_nil _ _ _ _ _⟩, fun _ hk => hk.elim, blk_lt k4⟩, ?_, ?_⟩, (h2.trans (b3.mono s2)).trans (b4.mono (by omega))⟩
  · rintro k ⟨hk, hl⟩
    rcases hk with hk | hk
    · exact hk.elim
    · omega
  · rintro k (rfl | hk)
    · refine ⟨by omega, blk_lt k4, ?_⟩
      rintro ⟨-, hl⟩
      omega
    · exact hk.elim
set_option maxHeartbeats 16000000 in
set_option maxRecDepth 100000 in
theorem WindowPlays_sl (tm ta ts tr : Int) (s : Sl (Int × Int × Int)) (W : World) (hs : Sl.ok Try.prog 54 op8Cells op8Ok W s) :
    Calls Try.prog 5 #[.agg #[.int .i64 tm, .int .i64 ta, .int .i64 ts, .int .i64 tr], .slice s.at_ s.len s.cap] W fun e w' => e = .returned (.bool true) ∧ Below W.heap.size W w' := by
  have HP := Lib.hid fun i (hi : i < s.len) => op8_at hs hi
  have HF := Lib.hid (ops8_few hs)
  clear hs
  obtain ⟨at_, len, cap, all⟩ := s
  simp only at HP HF ⊢
  obtain ⟨w1, hw1⟩ : ∃ w1, W.alloc (.cells #[.int .i64 tm, .int .i64 ta, .int .i64 ts, .int .i64 tr] 27) = w1 := ⟨_, rfl⟩
  obtain ⟨b, hbdef⟩ : ∃ b, W.heap.size = b := ⟨_, rfl⟩
  have hbel : Below W.heap.size W w1 := by subst hw1; exact below_alloc (Below.refl _ _) _
  have hblk : w1.heap[b]? = some (.cells #[.int .i64 tm, .int .i64 ta, .int .i64 ts, .int .i64 tr] 27 (0, 0)) := by subst hw1 hbdef; exact blk_new _ _
  have HB := Lib.hid hbel
  have HK := Lib.hid hblk
  clear hbel hblk
  go_enter Try.func5, Try.ntmps5
  go_wp2_with fail
  refine (awake08 _).mono ?_
  rintro e w2 ⟨rfl, b2⟩
  have k2 := blk_below HK.out b2
  have c0 := (blk_cell k2 0).trans rfl
  have c1 := (blk_cell k2 1).trans rfl
  have c2 := (blk_cell k2 2).trans rfl
  have c3 := (blk_cell k2 3).trans rfl
  have K2 := Lib.hid k2
  have B2 := Lib.hid (HB.out.trans (b2.mono HB.out.size))
  clear k2 b2
  by_cases hR : RightT tm ta ts tr
  · have HR := Lib.hid hR
    clear hR
    go_wp2_with fail
    refine (win_new w2 HR.out).mono ?_
    rintro e w3 ⟨g, gr, B, O, rfl, s3, r3⟩
    have b3 := r3.bel0
    have k3 := blk_below K2.out b3
    have c0 := (blk_cell k3 0).trans rfl
    have c1 := (blk_cell k3 1).trans rfl
    have c2 := (blk_cell k3 2).trans rfl
    have c3 := (blk_cell k3 3).trans rfl
    have K3 := Lib.hid k3
    have R3 := Lib.hid r3
    clear k3 s3 r3 b3
    go_wp2_with fail
    refine (XWinA.capstanref08_Right.calls 1 tm ta ts tr true _ (by rw [right_ref, decide_eq_true HR.out])).mono ?_
    rintro e w4 ⟨rfl, b4⟩
    have k4 := blk_below K3.out b4
    have c0 := (blk_cell k4 0).trans rfl
    have c1 := (blk_cell k4 1).trans rfl
    have c2 := (blk_cell k4 2).trans rfl
    have c3 := (blk_cell k4 3).trans rfl
    have K4 := Lib.hid k4
    have R4 := Lib.hid (R3.out.below b4)
    clear k4 b4
    go_wp2_with fail
    refine (XWinA.window_Right.calls tm ta ts tr true _ (by rw [right_prog, decide_eq_true HR.out])).mono ?_
    rintro e w5 ⟨rfl, b5⟩
    have k5 := blk_below K4.out b5
    have c0 := (blk_cell k5 0).trans rfl
    have c1 := (blk_cell k5 1).trans rfl
    have c2 := (blk_cell k5 2).trans rfl
    have c3 := (blk_cell k5 3).trans rfl
    have R5 := Lib.hid (R4.out.below b5)
    clear k5 b5
    obtain ⟨w6, hw6⟩ : ∃ w6, w5.alloc (.cells #[.int .i64 tm, .int .i64 ta, .int .i64 ts, .int .i64 tr, .slice none 0 0, .int .i64 0, .bool false] 36) = w6 := ⟨_, rfl⟩
    have HI := Lib.hid (pair_made B2.out R5.out R5.out.kept.1 hw6)
    obtain ⟨h, hh⟩ : ∃ h, w5.heap.size = h := ⟨_, rfl⟩
    rw [hh] at HI
    go_wp2
    go_loopg [8] len (fun kq v8 w' => ∃ (i : Nat) (ck : Int) (bg : Bool) (L All : List (Int × Int)), v8 = .int .i64 i ∧ Aside0 (i + kq = len) ∧ Aside0 (PInv ts ck bg L All i) ∧ Aside0 (Pair W w' g gr B O h tm ta ts tr ck bg L ck bg All i))
    case atStart => exact ⟨0, 0, false, [], [], rfl, ⟨by omega⟩, ⟨⟨WinInv.nil _ _, fun y hy => (by cases hy), (by decide), fun _ => rfl, (by simp)⟩⟩, ⟨HI.out⟩⟩
    case round =>
      obtain ⟨i, ck, bg, L, All, rfl, hk, ho, hT⟩ := hrel
      have HKQ := Lib.hid hk.out
      have HO := Lib.hid ho.out
      have T1 := Lib.hid hT.out
      clear hk ho hT HI c0 c1 c2 c3
      by_cases hi : i < len
      · obtain ⟨ad, kd, t, v, hat, hlt, r0, r1, r2, ht, hv⟩ := HP.out i hi
        have Hi := Lib.hid hi
        have HTV := Lib.hid (And.intro ht hv)
        have x0 := (T1.out.bel.cell (p := ad.add (i * 3)) hlt).trans r0
        have x1 := (T1.out.bel.cell (p := ⟨(ad.add (i * 3)).block, (ad.add (i * 3)).off + 1, none⟩) hlt).trans r1
        have x2 := (T1.out.bel.cell (p := ⟨(ad.add (i * 3)).block, (ad.add (i * 3)).off + 2, none⟩) hlt).trans r2
        subst hat
        have e1 := eq_true (show (0 : Int) ≤ (i : Int) by omega)
        have e2 : ((i : Int) < (len : Int)) = True := eq_true (by omega)
        have e3 := eq_true hi
        clear hi ht hv r0 r1 r2 hlt
        go_wp2_with fail
        refine (step_calls (kd := kd) T1.out HO.out HR.out HTV.out.1 HTV.out.2 (by have := HF.out; have := Hi.out; omega)).mono ?_
        rintro e w7 ⟨rfl, ck2, bg2, L2, All2, i7, p7⟩
        have I7 := Lib.hid i7
        have P7 := Lib.hid p7
        obtain ⟨FA, FR, hA, hr, -, -⟩ := i7.ex
        have HA := Lib.hid hA
        clear i7 p7 hA hr x0 x1 x2
        go_wp2_with fail
        refine (win_clock HA.out).mono ?_
        rintro e w8 ⟨rfl, b8⟩
        have I8 := Lib.hid (I7.out.below b8)
        obtain ⟨FA2, FR2, -, hr, -, -⟩ := I8.out.ex
        obtain ⟨A8, c8, hb8, -⟩ := hr.ex
        have y5 := (blk_cell hb8 5).trans rfl
        have y6 := (blk_cell hb8 6).trans rfl
        have hwi : wrap64 ((i : Int) + 1) = ((i + 1 : Nat) : Int) := by have := HF.out; have := Hi.out; unfold wrap64; omega
        clear b8 hr hb8
        go_wp2
        go_roundg (gk - 1)
        case measure => have := HKQ.out; have := Hi.out; omega
        case rel => exact ⟨i + 1, ck2, bg2, L2, All2, by first | rfl | simp [hwi], ⟨by have := HKQ.out; have := Hi.out; omega⟩, ⟨P7.out⟩, ⟨I8.out⟩⟩
      · have e1 : ((i : Int) < (len : Int)) = False := eq_false (by omega)
        have e2 := eq_false hi
        have T1' := T1.out.bel
        go_wp2
        go_ret
        exact ⟨by simp, T1'⟩
  · have HR := Lib.hid hR
    clear hR
    go_wp2_with fail
    refine (win_new_no w2 HR.out).mono ?_
    rintro e w3 ⟨rfl, b3⟩
    have k3 := blk_below K2.out b3
    have c0 := (blk_cell k3 0).trans rfl
    have c1 := (blk_cell k3 1).trans rfl
    have c2 := (blk_cell k3 2).trans rfl
    have c3 := (blk_cell k3 3).trans rfl
    have K3 := Lib.hid k3
    have B3 := Lib.hid (B2.out.trans (b3.mono B2.out.size))
    clear k3 b3
    go_wp2_with fail
    refine (XWinA.capstanref08_Right.calls 1 tm ta ts tr false _ (by rw [right_ref, decide_eq_false HR.out])).mono ?_
    rintro e w4 ⟨rfl, b4⟩
    have k4 := blk_below K3.out b4
    have c0 := (blk_cell k4 0).trans rfl
    have c1 := (blk_cell k4 1).trans rfl
    have c2 := (blk_cell k4 2).trans rfl
    have c3 := (blk_cell k4 3).trans rfl
    have B4 := Lib.hid (B3.out.trans (b4.mono B3.out.size))
    clear k4 b4
    go_wp2_with fail
    refine (XWinA.window_Right.calls tm ta ts tr false _ (by rw [right_prog, decide_eq_false HR.out])).mono ?_
    rintro e w5 ⟨rfl, b5⟩
    have B5 := Lib.hid (B4.out.trans (b5.mono B4.out.size))
    clear b5
    go_wp2
    go_ret
    exact ⟨by simp, B5.out⟩
set_option maxRecDepth 100000 in
theorem WindowPlays_row {H : Type} {enc : TypeId × Value → H} {base : Nat} {d d2 : DataW H} {p p2 : List MemPlace} (v v2 : Value) (W : World) (hval : Value.okWide Try.prog W .any base 27 v)
    (h : DataW.Trod enc Try.prog W 0 (fun _ => true) true 27 v d p) (y : ∀ n ∈ DataW.weights Try.prog 27 d, n ≤ reachBytes) (hval2 : Value.okWide Try.prog W .any base 51 v2)
    (h2 : DataW.Trod enc Try.prog W 0 (fun _ => true) true 51 v2 d2 p2) (y2 : ∀ n ∈ DataW.weights Try.prog 51 d2, n ≤ reachBytes) :
    Calls Try.prog 5 #[v, v2] W fun e w' => e = .returned (.bool true) ∧ Below W.heap.size W w' := by
  obtain ⟨a, rfl, -⟩ := struct_arg Try.underlying27 win_opn hval h y
  obtain ⟨s, rfl, hs⟩ := ops8_arg hval2 h2 y2
  exact WindowPlays_sl a.1 a.2.1 a.2.2.1 a.2.2.2 s W hs
end Go.Proofs.Ytgfnlhigmncdmaa

end
