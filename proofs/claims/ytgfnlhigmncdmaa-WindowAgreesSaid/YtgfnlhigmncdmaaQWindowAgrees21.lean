/-
  Texts of this seat, joined, less what WindowAgrees does not lean on: WinIs, WinCalls, WinFns1, WinFns2, WinFns3, WinFns4, WinFns5, WinFns6, WinBig, WinRef, WinNew, WinRefRead, WinRefW, WinAwake.
-/
import Derived.Test.YtgfnlhigmncdmaaQWindowAgrees12
import Derived.Test.YtgfnlhigmncdmaaQWindowAgrees15
import Derived.Test.YtgfnlhigmncdmaaQWindowAgrees11
import Derived.Test.YtgfnlhigmncdmaaQWindowAgrees20
import Derived.Test.YtgfnlhigmncdmaaQWindowAgrees2
import Derived.Test.YtgfnlhigmncdmaaQWindowAgrees19
import Derived.Test.YtgfnlhigmncdmaaQWindowAgrees13
section
namespace Go.Proofs.Ytgfnlhigmncdmaa
set_option linter.unusedVariables false
set_option linter.unusedSimpArgs false
open Go.RowKit Go.Proofs.Ytgfnlhigmncdmaa.XMono Go.Proofs.YtgfnlhigmncdmaaW.PrintWords Go.Proofs.YtgfnlhigmncdmaaW.PrintLast Go.Proofs.YtgfnlhigmncdmaaW.PrintMore

theorem MonoIs.tight {w : World} {g : Nat} {ok : Nat → Prop} {high : Bool} {L : List Int} {left : Int} (h : MonoIs w g ok high L left) : MonoIs w g (fun k => ok k ∧ k < w.heap.size) high L left := by
  obtain ⟨⟨⟨A, c, h1, h2⟩, h3, h4⟩, p, f, s⟩ := h
  exact ⟨⟨⟨A, c, h1, Kd.Q_mono (Kd.Q_bound h2) (fun k hk => ⟨hk.1, hk.2.2.1⟩)⟩, fun k hk => h3 k hk.1, h4⟩, p, f, s⟩
theorem MonoIs.lt {w : World} {g : Nat} {ok : Nat → Prop} {high : Bool} {L : List Int} {left : Int} (h : MonoIs w g ok high L left) : g < w.heap.size := h.at_.lt

def winCells (gr : Nat) (tm ta ts tr ck : Int) (bg : Bool) (lo hi : Int) (B O : Value) : Array Value :=
  #[.pointer (some ⟨gr, 0, none⟩), .int .i64 tm, .int .i64 ta, .int .i64 ts, .int .i64 tr, .int .i64 ck, .bool bg, .int .u64 lo, .int .u64 hi, B, O]
/-- The queue of the best, where the aggregate asks for one. -/
def BestIs (w : World) (ta : Int) (B : Value) (F : Nat → Prop) (L : List Int) (N : Int) : Prop :=
  ((ta = 3 ∨ ta = 4) ∧ ∃ (g : Nat) (ok : Nat → Prop) (left : Int), B = .pointer (some ⟨g, 0, none⟩) ∧ MonoIs w g ok (decide (ta = 4)) L left ∧ left + L.length ≤ N ∧ F g ∧ ∀ k, ok k → F k) ∨
  (¬ (ta = 3 ∨ ta = 4) ∧ B = .pointer none)
/-- The numbers in order, where the aggregate asks for them. -/
def OrderIs (w : World) (ta : Int) (O : Value) (F : Nat → Prop) (L : List Int) : Prop :=
  (ta = 6 ∧ ∃ (g : Nat) (ok : Nat → Prop) (S : List Int), O = .pointer (some ⟨g, 0, none⟩) ∧ RankAt w g ok S ∧ S.Perm L ∧ F g ∧ ∀ k, ok k → F k) ∨
  (¬ ta = 6 ∧ O = .pointer none)
section
variable {w w' : World} {ta N : Int} {B O : Value} {F S : Nat → Prop} {L : List Int}
theorem BestIs.kept (h : BestIs w ta B F L N) (hk : Kept w w' S) (hs : ∀ k, F k → ¬ S k) : BestIs w' ta B F L N := by
  rcases h with ⟨h1, g, ok, left, h2, h3, h4, h5, h6⟩ | h
  · exact .inl ⟨h1, g, ok, left, h2, h3.kept hk (hs g h5) (fun k hk => hs k (h6 k hk)), h4, h5, h6⟩
  · exact .inr h
theorem OrderIs.kept (h : OrderIs w ta O F L) (hk : Kept w w' S) (hs : ∀ k, F k → ¬ S k) : OrderIs w' ta O F L := by
  rcases h with ⟨h1, g, ok, T, h2, h3, h4, h5, h6⟩ | h
  · exact .inl ⟨h1, g, ok, T, h2, h3.kept hk (hs g h5) (fun k hk => hs k (h6 k hk)), h4, h5, h6⟩
  · exact .inr h
theorem BestIs.more (h : BestIs w ta B F L N) {N2 : Int} (hN : N ≤ N2) : BestIs w ta B F L N2 := by
  rcases h with ⟨h1, g, ok, left, h2, h3, h4, h5, h6⟩ | h
  · exact .inl ⟨h1, g, ok, left, h2, h3, by omega, h5, h6⟩
  · exact .inr h
theorem kept_any {w w' : World} (hb : Below w.heap.size w w') : Kept w w' (fun _ => False) := Kept.of_below hb _
end

/-- What a window's own block holds, and where its parts lie. -/
structure WP (w : World) (g gr : Nat) (B O : Value) (Fr Fb Fo : Nat → Prop) (tm ta ts tr ck : Int) (bg : Bool) (Lr : List (Int × Int)) (s : Int) (Lb Lo : List Int) (N : Int) : Prop where
  blk : ∃ lo hi, IsW s lo hi ∧ w.heap[g]? = some (.cells (winCells gr tm ta ts tr ck bg lo hi B O) 69 (0, 0))
  ring : ∃ ok, RingIsS w gr ok 4096 Lr ∧ Fr gr ∧ ∀ k, ok k → Fr k
  best : BestIs w ta B Fb Lb N
  order : OrderIs w ta O Fo Lo
  old : ∀ k, Fr k ∨ Fb k ∨ Fo k → k < w.heap.size ∧ k ≠ g
  ap : ∀ k, (Fr k → ¬ Fb k ∧ ¬ Fo k) ∧ (Fb k → ¬ Fo k)
/-- A window on the way from world w0: only its own blocks (ok) have been written. -/
structure Ran (w0 w : World) (ok : Nat → Prop) (g gr : Nat) (B O : Value) (tm ta ts tr ck : Int) (bg : Bool) (Lr : List (Int × Int)) (s : Int) (Lb Lo : List Int) (N : Int) : Prop where
  ex : ∃ Fr Fb Fo, WP w g gr B O Fr Fb Fo tm ta ts tr ck bg Lr s Lb Lo N ∧ ∀ k, (k = g ∨ Fr k ∨ Fb k ∨ Fo k) → ok k ∨ w0.heap.size ≤ k
  kept : Kept w0 w ok
  bel : Below 0 w0 w

section
variable {w0 w w' : World} {g gr : Nat} {B O : Value} {ok Fr Fb Fo : Nat → Prop} {tm ta ts tr ck : Int} {bg : Bool} {Lr : List (Int × Int)} {s : Int} {Lb Lo : List Int} {N : Int}
theorem WP.lt (h : WP w g gr B O Fr Fb Fo tm ta ts tr ck bg Lr s Lb Lo N) : g < w.heap.size := by
  obtain ⟨lo, hi, -, hb⟩ := h.blk
  exact blk_lt hb
theorem WP.below (h : WP w g gr B O Fr Fb Fo tm ta ts tr ck bg Lr s Lb Lo N) (hb : Below w.heap.size w w') : WP w' g gr B O Fr Fb Fo tm ta ts tr ck bg Lr s Lb Lo N := by
  obtain ⟨lo, hi, h1, h2⟩ := h.blk
  obtain ⟨okr, r1, r2, r3⟩ := h.ring
  exact ⟨⟨lo, hi, h1, (hb.block g h.lt).trans h2⟩, ⟨okr, r1.below hb, r2, r3⟩, h.best.kept (kept_any hb) (fun _ _ h => h), h.order.kept (kept_any hb) (fun _ _ h => h), fun k hk => ⟨Nat.lt_of_lt_of_le (h.old k hk).1 hb.size, (h.old k hk).2⟩, h.ap⟩
theorem Ran.below (h : Ran w0 w ok g gr B O tm ta ts tr ck bg Lr s Lb Lo N) (hb : Below w.heap.size w w') : Ran w0 w' ok g gr B O tm ta ts tr ck bg Lr s Lb Lo N := by
  obtain ⟨Fr, Fb, Fo, h1, h2⟩ := h.ex
  exact ⟨⟨Fr, Fb, Fo, h1.below hb, h2⟩, h.kept.below hb, h.bel.trans (hb.mono (Nat.zero_le _))⟩
theorem Ran.cells (h : Ran w0 w ok g gr B O tm ta ts tr ck bg Lr s Lb Lo N) : ∃ lo hi, IsW s lo hi ∧ w.heap[g]? = some (.cells (winCells gr tm ta ts tr ck bg lo hi B O) 69 (0, 0)) := by
  obtain ⟨Fr, Fb, Fo, h1, h2⟩ := h.ex
  exact h1.blk
theorem Ran.few (h : Ran w0 w ok g gr B O tm ta ts tr ck bg Lr s Lb Lo N) : Lr.length ≤ 4096 := by
  obtain ⟨Fr, Fb, Fo, h1, h2⟩ := h.ex
  obtain ⟨okr, r1, r2, r3⟩ := h1.ring
  have := r1.few.1
  omega
theorem Ran.more (h : Ran w0 w ok g gr B O tm ta ts tr ck bg Lr s Lb Lo N) {N2 : Int} (hN : N ≤ N2) : Ran w0 w ok g gr B O tm ta ts tr ck bg Lr s Lb Lo N2 := by
  obtain ⟨⟨Fr, Fb, Fo, ⟨h1, h2, h3, h4, h5, h6⟩, h7⟩, h8, h9⟩ := h
  exact ⟨⟨Fr, Fb, Fo, ⟨h1, h2, h3.more hN, h4, h5, h6⟩, h7⟩, h8, h9⟩
/-- The way begins anew here. -/
theorem Ran.anew (h : Ran w0 w ok g gr B O tm ta ts tr ck bg Lr s Lb Lo N) : Ran w w (fun k => (ok k ∨ w0.heap.size ≤ k) ∧ k < w.heap.size) g gr B O tm ta ts tr ck bg Lr s Lb Lo N := by
  obtain ⟨⟨Fr, Fb, Fo, h1, h2⟩, h3, h4⟩ := h
  refine ⟨⟨Fr, Fb, Fo, h1, fun k hk => .inl ⟨h2 k hk, ?_⟩⟩, Kept.refl _ _, Below.refl _ _⟩
  rcases hk with rfl | hk
  · exact h1.lt
  · exact (h1.old k hk).1
/-- The way begins anew behind new blocks that are not the window's. -/
theorem Ran.box {w1 : World} (h : Ran w0 w ok g gr B O tm ta ts tr ck bg Lr s Lb Lo N) (hb : Below w.heap.size w w1) : Ran w1 w1 (fun k => (ok k ∨ w0.heap.size ≤ k) ∧ k < w.heap.size) g gr B O tm ta ts tr ck bg Lr s Lb Lo N := by
  obtain ⟨⟨Fr, Fb, Fo, h1, h2⟩, h3, h4⟩ := h
  refine ⟨⟨Fr, Fb, Fo, h1.below hb, fun k hk => .inl ⟨h2 k hk, ?_⟩⟩, Kept.refl _ _, Below.refl _ _⟩
  rcases hk with rfl | hk
  · exact h1.lt
  · exact (h1.old k hk).1
/-- .. and back. -/
theorem Ran.join {w1 : World} (h : Ran w0 w ok g gr B O tm ta ts tr ck bg Lr s Lb Lo N) (hb : Below w.heap.size w w1) {tm2 ta2 ts2 tr2 ck2 : Int} {bg2 : Bool} {Lr2 : List (Int × Int)} {s2 : Int} {Lb2 Lo2 : List Int} {N2 : Int}
    (k : Ran w1 w' (fun k => (ok k ∨ w0.heap.size ≤ k) ∧ k < w.heap.size) g gr B O tm2 ta2 ts2 tr2 ck2 bg2 Lr2 s2 Lb2 Lo2 N2) : Ran w0 w' ok g gr B O tm2 ta2 ts2 tr2 ck2 bg2 Lr2 s2 Lb2 Lo2 N2 := by
  obtain ⟨⟨Fr, Fb, Fo, k1, k2⟩, k3, k4⟩ := k
  have hs := hb.size
  have hs0 := h.kept.1
  refine ⟨⟨Fr, Fb, Fo, k1, fun i hi => ?_⟩, (h.kept.below hb).then_ k3 (fun i hi => hi.1), (h.bel.trans (hb.mono (Nat.zero_le _))).trans k4⟩
  rcases k2 i hi with hk | hk
  · exact hk.1
  · exact .inr (by omega)
/-- What is written elsewhere leaves the window as it is. -/
theorem WP.far {S : Nat → Prop} (h : WP w g gr B O Fr Fb Fo tm ta ts tr ck bg Lr s Lb Lo N) (k : Kept w w' S) (hs : ∀ i, (i = g ∨ Fr i ∨ Fb i ∨ Fo i) → ¬ S i) : WP w' g gr B O Fr Fb Fo tm ta ts tr ck bg Lr s Lb Lo N := by
  obtain ⟨lo, hi, b1, b2⟩ := h.blk
  obtain ⟨okr, r1, r2, r3⟩ := h.ring
  exact ⟨⟨lo, hi, b1, blk_kept b2 k (hs g (.inl rfl))⟩, ⟨okr, r1.kept k (hs gr (.inr (.inl r2))) (fun i hi => hs i (.inr (.inl (r3 i hi)))), r2, r3⟩, h.best.kept k (fun i hi => hs i (.inr (.inr (.inl hi)))), h.order.kept k (fun i hi => hs i (.inr (.inr (.inr hi)))),
    fun i hi => ⟨Nat.lt_of_lt_of_le (h.old i hi).1 k.1, (h.old i hi).2⟩, h.ap⟩
/-- .. and back, where a new block that is not the window's has been written. -/
theorem Ran.joinset {w1 w2 : World} {q : Nat} (h : Ran w0 w ok g gr B O tm ta ts tr ck bg Lr s Lb Lo N) (hb : Below w.heap.size w w1) {tm2 ta2 ts2 tr2 ck2 : Int} {bg2 : Bool} {Lr2 : List (Int × Int)} {s2 : Int} {Lb2 Lo2 : List Int} {N2 : Int}
    (k : Ran w1 w' (fun k => (ok k ∨ w0.heap.size ≤ k) ∧ k < w.heap.size) g gr B O tm2 ta2 ts2 tr2 ck2 bg2 Lr2 s2 Lb2 Lo2 N2) (h1 : w.heap.size ≤ q) (h2 : q < w1.heap.size) (kq : Kept w' w2 (fun k => k = q)) (bq : Below 0 w' w2) : Ran w0 w2 ok g gr B O tm2 ta2 ts2 tr2 ck2 bg2 Lr2 s2 Lb2 Lo2 N2 := by
  have hj := h.join hb k
  obtain ⟨⟨Fr, Fb, Fo, k1, k2⟩, k3, k4⟩ := k
  have hs0 := h.kept.1
  have hs1 := hb.size
  refine ⟨⟨Fr, Fb, Fo, k1.far kq (fun i hi hS => ?_), fun i hi => ?_⟩, hj.kept.then_ kq (fun i hi => ?_), hj.bel.trans bq⟩
  · rcases k2 i hi with h3 | h3 <;> omega
  · rcases k2 i hi with h3 | h3
    · exact h3.1
    · exact .inr (by omega)
  · exact .inr (by omega)
/-- The window's own block is written: clock and begun, the sum's words. -/
theorem Ran.own (h : Ran w0 w ok g gr B O tm ta ts tr ck bg Lr s Lb Lo N) {ck2 : Int} {bg2 : Bool} {s2 lo hi : Int} (hs : IsW s2 lo hi) (hb : w'.heap[g]? = some (.cells (winCells gr tm ta ts tr ck2 bg2 lo hi B O) 69 (0, 0))) (k : Kept w w' (fun k => k = g)) (b : Below 0 w w') :
    Ran w0 w' ok g gr B O tm ta ts tr ck2 bg2 Lr s2 Lb Lo N := by
  obtain ⟨⟨Fr, Fb, Fo, h1, h2⟩, h3, h4⟩ := h
  obtain ⟨okr, r1, r2, r3⟩ := h1.ring
  have hne : ∀ k, Fr k ∨ Fb k ∨ Fo k → ¬ k = g := fun k hk => (h1.old k hk).2
  exact ⟨⟨Fr, Fb, Fo, ⟨⟨lo, hi, hs, hb⟩, ⟨okr, r1.kept k (hne gr (.inl r2)) (fun k hk => hne k (.inl (r3 k hk))), r2, r3⟩, h1.best.kept k (fun k hk => hne k (.inr (.inl hk))), h1.order.kept k (fun k hk => hne k (.inr (.inr hk))),
    fun i hi => ⟨Nat.lt_of_lt_of_le (h1.old i hi).1 k.1, (h1.old i hi).2⟩, h1.ap⟩, h2⟩, h3.then_ k (fun i hi => by rw [hi]; exact h2 g (.inl rfl)), h4.trans b⟩
theorem WP.ring_step (h : WP w g gr B O Fr Fb Fo tm ta ts tr ck bg Lr s Lb Lo N) (h2 : ∀ k, (k = g ∨ Fr k ∨ Fb k ∨ Fo k) → ok k ∨ w0.heap.size ≤ k) (h3 : Kept w0 w ok) (h4 : Below 0 w0 w) {L2 : List (Int × Int)} {ok2 : Nat → Prop}
    (k : Kept w w' Fr) (b : Below 0 w w') (r : RingIsS w' gr ok2 4096 L2) (ho : ∀ k, ok2 k → Fr k ∨ w.heap.size ≤ k) : Ran w0 w' ok g gr B O tm ta ts tr ck bg L2 s Lb Lo N := by
  obtain ⟨lo, hi, b1, b2⟩ := h.blk
  obtain ⟨okr, r1, r2, r3⟩ := h.ring
  have hsz := k.1
  refine ⟨⟨fun i => Fr i ∨ (w.heap.size ≤ i ∧ i < w'.heap.size), Fb, Fo, ⟨⟨lo, hi, b1, blk_kept b2 k (fun hk => (h.old g (.inl hk)).2 rfl)⟩, ⟨_, r.tight, .inl r2, ?_⟩, h.best.kept k (fun i hi hk => ((h.ap i).1 hk).1 hi), h.order.kept k (fun i hi hk => ((h.ap i).1 hk).2 hi), ?_, ?_⟩, ?_⟩, h3.then_ k (fun i hi => h2 i (.inr (.inl hi))), h4.trans b⟩
  · rintro i ⟨h5, h6⟩
    rcases ho i h5 with h7 | h7
    · exact .inl h7
    · exact .inr ⟨h7, h6⟩
  · have hl := h.lt
    rintro i ((hi | ⟨hi, hj⟩) | hi)
    · exact ⟨Nat.lt_of_lt_of_le (h.old i (.inl hi)).1 hsz, (h.old i (.inl hi)).2⟩
    · exact ⟨hj, by omega⟩
    · exact ⟨Nat.lt_of_lt_of_le (h.old i (.inr hi)).1 hsz, (h.old i (.inr hi)).2⟩
  · intro i
    refine ⟨?_, (h.ap i).2⟩
    rintro (hi | ⟨hi, hj⟩)
    · exact (h.ap i).1 hi
    · exact ⟨fun hb => by have := (h.old i (.inr (.inl hb))).1; omega, fun hb => by have := (h.old i (.inr (.inr hb))).1; omega⟩
  · rintro i (hi | (hi | ⟨hi, hj⟩) | hi)
    · exact h2 i (.inl hi)
    · exact h2 i (.inr (.inl hi))
    · have := h3.1
      exact .inr (by omega)
    · exact h2 i (.inr (.inr hi))
theorem WP.best_step (h : WP w g gr B O Fr Fb Fo tm ta ts tr ck bg Lr s Lb Lo N) (h2 : ∀ k, (k = g ∨ Fr k ∨ Fb k ∨ Fo k) → ok k ∨ w0.heap.size ≤ k) (h3 : Kept w0 w ok) (h4 : Below 0 w0 w) {L2 : List Int} {N2 : Int}
    (k : Kept w w' Fb) (b : Below 0 w w') (r : BestIs w' ta B (fun i => Fb i ∨ (w.heap.size ≤ i ∧ i < w'.heap.size)) L2 N2) : Ran w0 w' ok g gr B O tm ta ts tr ck bg Lr s L2 Lo N2 := by
  obtain ⟨lo, hi, b1, b2⟩ := h.blk
  obtain ⟨okr, r1, r2, r3⟩ := h.ring
  have hsz := k.1
  refine ⟨⟨Fr, fun i => Fb i ∨ (w.heap.size ≤ i ∧ i < w'.heap.size), Fo, ⟨⟨lo, hi, b1, blk_kept b2 k (fun hk => (h.old g (.inr (.inl hk))).2 rfl)⟩, ⟨okr, r1.kept k (fun hk => ((h.ap gr).1 r2).1 hk) (fun i hi hk => ((h.ap i).1 (r3 i hi)).1 hk), r2, r3⟩, r, h.order.kept k (fun i hi hk => (h.ap i).2 hk hi), ?_, ?_⟩, ?_⟩, h3.then_ k (fun i hi => h2 i (.inr (.inr (.inl hi)))), h4.trans b⟩
  · have hl := h.lt
    rintro i (hi | (hi | ⟨hi, hj⟩) | hi)
    · exact ⟨Nat.lt_of_lt_of_le (h.old i (.inl hi)).1 hsz, (h.old i (.inl hi)).2⟩
    · exact ⟨Nat.lt_of_lt_of_le (h.old i (.inr (.inl hi))).1 hsz, (h.old i (.inr (.inl hi))).2⟩
    · exact ⟨hj, by omega⟩
    · exact ⟨Nat.lt_of_lt_of_le (h.old i (.inr (.inr hi))).1 hsz, (h.old i (.inr (.inr hi))).2⟩
  · intro i
    refine ⟨fun hf => ⟨?_, ((h.ap i).1 hf).2⟩, ?_⟩
    · rintro (hi | ⟨hi, hj⟩)
      · exact ((h.ap i).1 hf).1 hi
      · have := (h.old i (.inl hf)).1; omega
    · rintro (hi | ⟨hi, hj⟩) hf
      · exact (h.ap i).2 hi hf
      · have := (h.old i (.inr (.inr hf))).1; omega
  · rintro i (hi | hi | (hi | ⟨hi, hj⟩) | hi)
    · exact h2 i (.inl hi)
    · exact h2 i (.inr (.inl hi))
    · exact h2 i (.inr (.inr (.inl hi)))
    · have := h3.1
      exact .inr (by omega)
    · exact h2 i (.inr (.inr (.inr hi)))
theorem WP.order_step (h : WP w g gr B O Fr Fb Fo tm ta ts tr ck bg Lr s Lb Lo N) (h2 : ∀ k, (k = g ∨ Fr k ∨ Fb k ∨ Fo k) → ok k ∨ w0.heap.size ≤ k) (h3 : Kept w0 w ok) (h4 : Below 0 w0 w) {L2 : List Int}
    (k : Kept w w' Fo) (b : Below 0 w w') (r : OrderIs w' ta O (fun i => Fo i ∨ (w.heap.size ≤ i ∧ i < w'.heap.size)) L2) : Ran w0 w' ok g gr B O tm ta ts tr ck bg Lr s Lb L2 N := by
  obtain ⟨lo, hi, b1, b2⟩ := h.blk
  obtain ⟨okr, r1, r2, r3⟩ := h.ring
  have hsz := k.1
  refine ⟨⟨Fr, Fb, fun i => Fo i ∨ (w.heap.size ≤ i ∧ i < w'.heap.size), ⟨⟨lo, hi, b1, blk_kept b2 k (fun hk => (h.old g (.inr (.inr hk))).2 rfl)⟩, ⟨okr, r1.kept k (fun hk => ((h.ap gr).1 r2).2 hk) (fun i hi hk => ((h.ap i).1 (r3 i hi)).2 hk), r2, r3⟩, h.best.kept k (fun i hi hk => (h.ap i).2 hi hk), r, ?_, ?_⟩, ?_⟩, h3.then_ k (fun i hi => h2 i (.inr (.inr (.inr hi)))), h4.trans b⟩
  · have hl := h.lt
    rintro i (hi | hi | (hi | ⟨hi, hj⟩))
    · exact ⟨Nat.lt_of_lt_of_le (h.old i (.inl hi)).1 hsz, (h.old i (.inl hi)).2⟩
    · exact ⟨Nat.lt_of_lt_of_le (h.old i (.inr (.inl hi))).1 hsz, (h.old i (.inr (.inl hi))).2⟩
    · exact ⟨Nat.lt_of_lt_of_le (h.old i (.inr (.inr hi))).1 hsz, (h.old i (.inr (.inr hi))).2⟩
    · exact ⟨hj, by omega⟩
  · intro i
    refine ⟨fun hf => ⟨((h.ap i).1 hf).1, ?_⟩, fun hf => ?_⟩
    · rintro (hi | ⟨hi, hj⟩)
      · exact ((h.ap i).1 hf).2 hi
      · have := (h.old i (.inl hf)).1; omega
    · rintro (hi | ⟨hi, hj⟩)
      · exact (h.ap i).2 hf hi
      · have := (h.old i (.inr (.inl hf))).1; omega
  · rintro i (hi | hi | hi | (hi | ⟨hi, hj⟩))
    · exact h2 i (.inl hi)
    · exact h2 i (.inr (.inl hi))
    · exact h2 i (.inr (.inr (.inl hi)))
    · exact h2 i (.inr (.inr (.inr hi)))
    · have := h3.1
      exact .inr (by omega)
end
end Go.Proofs.Ytgfnlhigmncdmaa

end
section
namespace Go.Proofs.Ytgfnlhigmncdmaa
set_option linter.unusedVariables false
set_option linter.unusedSimpArgs false
open Go.RowKit Go.Proofs.Ytgfnlhigmncdmaa.XMono Go.Proofs.YtgfnlhigmncdmaaW.PrintWords Go.Proofs.YtgfnlhigmncdmaaW.PrintLast Go.Proofs.YtgfnlhigmncdmaaW.PrintMore

/-- The eleven cells of a window's own block. -/
theorem win_cells {w : World} {g gr : Nat} {tm ta ts tr ck : Int} {bg : Bool} {lo hi : Int} {B O : Value} {t : TypeId} (hb : w.heap[g]? = some (.cells (winCells gr tm ta ts tr ck bg lo hi B O) t (0, 0))) :
    w.cell? ⟨g, 0, none⟩ = some (.pointer (some ⟨gr, 0, none⟩)) ∧ w.cell? ⟨g, 1, none⟩ = some (.int .i64 tm) ∧ w.cell? ⟨g, 2, none⟩ = some (.int .i64 ta) ∧ w.cell? ⟨g, 3, none⟩ = some (.int .i64 ts) ∧ w.cell? ⟨g, 4, none⟩ = some (.int .i64 tr) ∧
    w.cell? ⟨g, 5, none⟩ = some (.int .i64 ck) ∧ w.cell? ⟨g, 6, none⟩ = some (.bool bg) ∧ w.cell? ⟨g, 7, none⟩ = some (.int .u64 lo) ∧ w.cell? ⟨g, 8, none⟩ = some (.int .u64 hi) ∧ w.cell? ⟨g, 9, none⟩ = some B ∧ w.cell? ⟨g, 10, none⟩ = some O :=
  ⟨(blk_cell hb 0).trans rfl, (blk_cell hb 1).trans rfl, (blk_cell hb 2).trans rfl, (blk_cell hb 3).trans rfl, (blk_cell hb 4).trans rfl, (blk_cell hb 5).trans rfl, (blk_cell hb 6).trans rfl, (blk_cell hb 7).trans rfl, (blk_cell hb 8).trans rfl, (blk_cell hb 9).trans rfl, (blk_cell hb 10).trans rfl⟩
section
variable {w0 w w' : World} {g gr : Nat} {B O : Value} {ok Fr Fb Fo : Nat → Prop} {tm ta ts tr ck : Int} {bg : Bool} {Lr : List (Int × Int)} {s : Int} {Lb Lo : List Int} {N : Int}
theorem ran_len (h : Ran w0 w ok g gr B O tm ta ts tr ck bg Lr s Lb Lo N) : Calls Try.prog 31 #[.pointer (some ⟨gr, 0, none⟩)] w fun e w' => e = .returned (.int .i64 (Lr.length : Int)) ∧ w = w' := by
  obtain ⟨Fr, Fb, Fo, h1, h2⟩ := h.ex
  obtain ⟨okr, r1, r2, r3⟩ := h1.ring
  exact ringsS_len r1
theorem ran_at (h : Ran w0 w ok g gr B O tm ta ts tr ck bg Lr s Lb Lo N) (i : Int) : Calls Try.prog 52 #[.pointer (some ⟨gr, 0, none⟩), .int .i64 i] w fun e w' => e = .returned (.tuple #[valS (atS Lr i), .bool (hasS Lr i)]) ∧ Below w.heap.size w w' := by
  obtain ⟨Fr, Fb, Fo, h1, h2⟩ := h.ex
  obtain ⟨okr, r1, r2, r3⟩ := h1.ring
  exact ringsS_at r1 i
theorem ran_push (h : Ran w0 w ok g gr B O tm ta ts tr ck bg Lr s Lb Lo N) (v : Int × Int) : Calls Try.prog 24 #[.pointer (some ⟨gr, 0, none⟩), valS v] w fun e w' =>
    e = .returned (.tuple #[valS (if (Lr.length : Int) = 4096 then Lr.headD zeroS else zeroS), .bool (decide ((Lr.length : Int) = 4096))]) ∧ w.heap.size ≤ w'.heap.size ∧ Ran w0 w' ok g gr B O tm ta ts tr ck bg (pushP Lr v) s Lb Lo N := by
  obtain ⟨⟨Fr, Fb, Fo, h1, h2⟩, h3, h4⟩ := h
  obtain ⟨okr, r1, r2, r3⟩ := h1.ring
  refine (ringsS_push v r1 (by decide)).mono ?_
  rintro e w' ⟨rfl, b, k, r⟩
  exact ⟨rfl, k.1, h1.ring_step h2 h3 h4 (k.mono (fun i hi => hi.elim (fun hi => hi ▸ r2) (r3 i))) b r (fun i hi => hi.imp (r3 i) id)⟩
theorem ran_drop {x : Int × Int} {L : List (Int × Int)} (h : Ran w0 w ok g gr B O tm ta ts tr ck bg (x :: L) s Lb Lo N) : Calls Try.prog 44 #[.pointer (some ⟨gr, 0, none⟩)] w fun e w' =>
    e = .returned (.tuple #[valS x, .bool true]) ∧ w.heap.size ≤ w'.heap.size ∧ Ran w0 w' ok g gr B O tm ta ts tr ck bg L s Lb Lo N := by
  obtain ⟨⟨Fr, Fb, Fo, h1, h2⟩, h3, h4⟩ := h
  obtain ⟨okr, r1, r2, r3⟩ := h1.ring
  refine (ringsS_drop r1).mono ?_
  rintro e w' ⟨rfl, b, k, r⟩
  exact ⟨rfl, k.1, h1.ring_step h2 h3 h4 (k.mono (fun i hi => hi.elim (fun hi => hi ▸ r2) (r3 i))) b r (fun i hi => .inl (r3 i hi))⟩
theorem Ran.wide (h : Ran w0 w ok g gr B O tm ta ts tr ck bg Lr s Lb Lo N) : WideAt w g 7 s := by
  obtain ⟨lo, hi, h1, h2⟩ := h.cells
  exact ⟨lo, hi, h1, (blk_cell h2 7).trans rfl, (blk_cell h2 8).trans rfl, blk_frozen h2 7, blk_frozen h2 8⟩
theorem Ran.lt (h : Ran w0 w ok g gr B O tm ta ts tr ck bg Lr s Lb Lo N) : g < w.heap.size := by
  obtain ⟨lo, hi, h1, h2⟩ := h.cells
  exact blk_lt h2
theorem Ran.wrote (h : Ran w0 w ok g gr B O tm ta ts tr ck bg Lr s Lb Lo N) {s2 : Int} {e : Ending} (hw : Wrote s2 g 7 w e w') : e = .returned (.tuple #[]) ∧ w.heap.size ≤ w'.heap.size ∧ Ran w0 w' ok g gr B O tm ta ts tr ck bg Lr s2 Lb Lo N := by
  obtain ⟨rfl, w1, lo, hi, h1, h2, rfl⟩ := hw
  have h3 := h.below h2
  obtain ⟨lo', hi', h4, h5⟩ := h3.cells
  have hl := h3.lt
  refine ⟨rfl, by simpa [World.setCell] using h2.size, h3.own h1 (ck2 := ck) (bg2 := bg) ?_ ?_ ?_⟩
  · exact blk_set (blk_set h5 7 _) 8 _
  · exact ((Kept.refl w1 (fun k => k = g)).setCell (p := ⟨g, 7, none⟩) (.inl rfl) _).setCell (p := ⟨g, 8, none⟩) (.inl rfl) _
  · exact ((Below.refl 0 w1).setCell (p := ⟨g, 7, none⟩) (Nat.zero_le _) _).setCell (p := ⟨g, 8, none⟩) (Nat.zero_le _) _
theorem ran_add (h : Ran w0 w ok g gr B O tm ta ts tr ck bg Lr s Lb Lo N) {v : Int} (hv : R64 v) : Calls Try.prog 26 #[.pointer (some ⟨g, 7, none⟩), .int .i64 v] w fun e w' => e = .returned (.tuple #[]) ∧ w.heap.size ≤ w'.heap.size ∧ Ran w0 w' ok g gr B O tm ta ts tr ck bg Lr (s + v) Lb Lo N :=
  (wide_add h.wide h.lt hv).mono fun e w' hw => h.wrote hw
theorem ran_take (h : Ran w0 w ok g gr B O tm ta ts tr ck bg Lr s Lb Lo N) {v : Int} (hv : R64 v) : Calls Try.prog 46 #[.pointer (some ⟨g, 7, none⟩), .int .i64 v] w fun e w' => e = .returned (.tuple #[]) ∧ w.heap.size ≤ w'.heap.size ∧ Ran w0 w' ok g gr B O tm ta ts tr ck bg Lr (s + -v) Lb Lo N :=
  (wide_take h.wide h.lt hv).mono fun e w' hw => h.wrote hw

theorem ran_best_put (h : Ran w0 w ok g gr B O tm ta ts tr ck bg Lr s Lb Lo N) (v : Int) (hN : N + 1 < 4611686018427387904) (hl : Lb.length ≤ 4096) : Calls Try.prog 27 #[B, .int .i64 v] w fun e w' =>
    e = .returned (.tuple #[]) ∧ w.heap.size ≤ w'.heap.size ∧ Ran w0 w' ok g gr B O tm ta ts tr ck bg Lr s (Lb ++ [v]) Lo (N + 1) := by
  obtain ⟨⟨Fr, Fb, Fo, h1, h2⟩, h3, h4⟩ := h
  rcases h1.best with ⟨p1, gb, okb, left, rfl, p2, p3, p4, p5⟩ | ⟨p1, rfl⟩
  · refine (is_put v p2 (by omega) (by omega)).mono ?_
    rintro e w' ⟨rfl, b, k, m⟩
    refine ⟨rfl, k.1, h1.best_step h2 h3 h4 (k.mono (fun i hi => hi.elim (fun hi => hi ▸ p4) (p5 i))) b (.inl ⟨p1, gb, _, left, rfl, m.tight, by simp; omega, .inl p4, ?_⟩)⟩
    rintro i ⟨hi | hi, hj⟩
    · exact .inl (p5 i hi)
    · exact .inr ⟨hi, hj⟩
  · refine (mono_put_nil v w).mono ?_
    rintro e w' ⟨rfl, b⟩
    exact ⟨rfl, b.size, h1.best_step h2 h3 h4 (Kept.of_below b _) (b.mono (Nat.zero_le _)) (.inr ⟨p1, rfl⟩)⟩
theorem ran_best_take {x : Int} {L : List Int} (h : Ran w0 w ok g gr B O tm ta ts tr ck bg Lr s (x :: L) Lo N) : Calls Try.prog 47 #[B] w fun e w' =>
    (∃ b : Bool, e = .returned (.bool b)) ∧ w.heap.size ≤ w'.heap.size ∧ Ran w0 w' ok g gr B O tm ta ts tr ck bg Lr s L Lo N := by
  obtain ⟨⟨Fr, Fb, Fo, h1, h2⟩, h3, h4⟩ := h
  rcases h1.best with ⟨p1, gb, okb, left, rfl, p2, p3, p4, p5⟩ | ⟨p1, rfl⟩
  · refine (is_take p2).mono ?_
    rintro e w' ⟨rfl, b, k, m⟩
    exact ⟨⟨_, rfl⟩, k.1, h1.best_step h2 h3 h4 (k.mono (fun i hi => hi ▸ p4)) b (.inl ⟨p1, gb, _, left + 1, rfl, m, by simp at p3; omega, .inl p4, fun i hi => .inl (p5 i hi)⟩)⟩
  · refine (mono_take_nil w).mono ?_
    rintro e w' ⟨rfl, b⟩
    exact ⟨⟨_, rfl⟩, b.size, h1.best_step h2 h3 h4 (Kept.of_below b _) (b.mono (Nat.zero_le _)) (.inr ⟨p1, rfl⟩)⟩
theorem ran_best (h : Ran w0 w ok g gr B O tm ta ts tr ck bg Lr s Lb Lo N) (ha : ta = 3 ∨ ta = 4) : Calls Try.prog 37 #[B] w fun e w' =>
    e = .returned (.tuple #[.int .i64 (bestV (decide (ta = 4)) Lb), .bool (some? Lb)]) ∧ Below w.heap.size w w' := by
  obtain ⟨⟨Fr, Fb, Fo, h1, h2⟩, h3, h4⟩ := h
  rcases h1.best with ⟨p1, gb, okb, left, rfl, p2, p3, p4, p5⟩ | ⟨p1, rfl⟩
  · exact is_best p2
  · exact absurd ha p1

theorem ran_order_put (h : Ran w0 w ok g gr B O tm ta ts tr ck bg Lr s Lb Lo N) (v : Int) (hl : Lo.length ≤ 4096) : Calls Try.prog 28 #[O, .int .i64 v] w fun e w' =>
    e = .returned (.tuple #[]) ∧ w.heap.size ≤ w'.heap.size ∧ Ran w0 w' ok g gr B O tm ta ts tr ck bg Lr s Lb (Lo ++ [v]) N := by
  obtain ⟨⟨Fr, Fb, Fo, h1, h2⟩, h3, h4⟩ := h
  rcases h1.order with ⟨p1, go, oko, S, rfl, p2, p3, p4, p5⟩ | ⟨p1, rfl⟩
  · refine (rank_put v p2 (by have := p3.length_eq; omega)).mono ?_
    rintro e w' ⟨rfl, b, k, m⟩
    refine ⟨rfl, k.1, h1.order_step h2 h3 h4 (k.mono (fun i hi => hi.elim (fun hi => hi ▸ p4) (p5 i))) b (.inl ⟨p1, go, _, _, rfl, m.tight, ?_, .inl p4, ?_⟩)⟩
    · exact (put_perm v S).trans ((List.Perm.cons v p3).trans (List.perm_append_singleton v Lo).symm)
    · rintro i ⟨hi | hi, hj⟩
      · exact .inl (p5 i hi)
      · exact .inr ⟨hi, hj⟩
  · refine (rank_put_nil v w).mono ?_
    rintro e w' ⟨rfl, rfl⟩
    exact ⟨rfl, Nat.le_refl _, h1.order_step h2 h3 h4 (Kept.refl _ _) (Below.refl _ _) (.inr ⟨p1, rfl⟩)⟩
theorem ran_order_take {x : Int} {L : List Int} (h : Ran w0 w ok g gr B O tm ta ts tr ck bg Lr s Lb (x :: L) N) : Calls Try.prog 48 #[O, .int .i64 x] w fun e w' =>
    (∃ b : Bool, e = .returned (.bool b)) ∧ w.heap.size ≤ w'.heap.size ∧ Ran w0 w' ok g gr B O tm ta ts tr ck bg Lr s Lb L N := by
  obtain ⟨⟨Fr, Fb, Fo, h1, h2⟩, h3, h4⟩ := h
  rcases h1.order with ⟨p1, go, oko, S, rfl, p2, p3, p4, p5⟩ | ⟨p1, rfl⟩
  · have hv : hasL x S = true := (has_iff p2.rise).2 (p3.mem_iff.2 List.mem_cons_self)
    refine (rank_take x p2 hv).mono ?_
    rintro e w' ⟨rfl, b, k, m⟩
    exact ⟨⟨_, rfl⟩, k.1, h1.order_step h2 h3 h4 (k.mono (fun i hi => hi.elim (fun hi => hi ▸ p4) (p5 i))) b (.inl ⟨p1, go, _, _, rfl, m, (List.Perm.cons_inv ((take_perm hv).symm.trans p3)), .inl p4, fun i hi => .inl (p5 i hi)⟩)⟩
  · refine (rank_take_nil x w).mono ?_
    rintro e w' ⟨rfl, rfl⟩
    exact ⟨⟨_, rfl⟩, Nat.le_refl _, h1.order_step h2 h3 h4 (Kept.refl _ _) (Below.refl _ _) (.inr ⟨p1, rfl⟩)⟩
theorem ran_by (h : Ran w0 w ok g gr B O tm ta ts tr ck bg Lr s Lb Lo N) (ha : ta = 6) (p : Int) : Calls Try.prog 36 #[O, .int .i64 p] w fun e w' =>
    (∃ S : List Int, Rising S ∧ S.Perm Lo ∧ e = .returned (.tuple #[.int .i64 (byV S p), .bool (askB S p)])) ∧ Below w.heap.size w w' := by
  obtain ⟨⟨Fr, Fb, Fo, h1, h2⟩, h3, h4⟩ := h
  rcases h1.order with ⟨p1, go, oko, S, rfl, p2, p3, p4, p5⟩ | ⟨p1, rfl⟩
  · exact (rank_by p2 p).mono fun e w' ⟨h5, h6⟩ => ⟨⟨S, p2.rise, p3, h5⟩, h6⟩
  · exact absurd ha p1
end
end Go.Proofs.Ytgfnlhigmncdmaa

end
section
namespace Go.Proofs.Ytgfnlhigmncdmaa
set_option linter.unusedVariables false
set_option linter.unusedSimpArgs false
open Go.RowKit Go.Proofs.Ytgfnlhigmncdmaa.XMono Go.Proofs.YtgfnlhigmncdmaaW.PrintWords Go.Proofs.YtgfnlhigmncdmaaW.PrintLast Go.Proofs.YtgfnlhigmncdmaaW.PrintMore

theorem win_none {w : World} {g gr : Nat} (c0 : w.cell? ⟨g, 0, none⟩ = some (.pointer (some ⟨gr, 0, none⟩))) : Calls Try.prog 41 #[.pointer (some ⟨g, 0, none⟩)] w fun e w' => e = .returned (.bool false) ∧ w = w' := by
  go_enter Try.func41, Try.ntmps41
  go_wp2
  go_ret
  exact ⟨by simp, rfl⟩
/-- No window: nil, or one that holds no ring. -/
def Hollow (w : World) (v : Value) : Prop := v = .pointer none ∨ ∃ g, v = .pointer (some ⟨g, 0, none⟩) ∧ w.cell? ⟨g, 0, none⟩ = some (.pointer none)
theorem Hollow.below {w w' : World} {v : Value} (h : Hollow w v) (hb : Below w.heap.size w w') : Hollow w' v := by
  rcases h with h | ⟨g, h1, h2⟩
  · exact .inl h
  · exact .inr ⟨g, h1, (hb.cell (p := ⟨g, 0, none⟩) (World.block_lt_of_cell? w _ h2)).trans h2⟩
section
variable {w0 w w' : World} {g gr : Nat} {B O : Value} {ok Fr Fb Fo : Nat → Prop} {tm ta ts tr ck : Int} {bg : Bool} {Lr : List (Int × Int)} {s : Int} {Lb Lo : List Int} {N : Int}
set_option maxRecDepth 100000 in
theorem win_come (h : Ran w0 w ok g gr B O tm ta ts tr ck bg Lr s Lb Lo N) {t : Int} (ht : bg = true → ck ≤ t) : Calls Try.prog 23 #[.pointer (some ⟨g, 0, none⟩), .int .i64 t] w fun e w' =>
    e = .returned (.int .i64 0) ∧ w.heap.size ≤ w'.heap.size ∧ Ran w0 w' ok g gr B O tm ta ts tr t true Lr s Lb Lo N := by
  obtain ⟨lo, hi, h1, hb⟩ := h.cells
  obtain ⟨c0, -, -, -, -, c5, c6, -, -, -, -⟩ := win_cells hb
  have f5 := blk_frozen hb 5
  have f6 := blk_frozen hb 6
  obtain ⟨wz, hwz⟩ : ∃ wz, (w.setCell ⟨g, 5, none⟩ (.int .i64 t)).setCell ⟨g, 6, none⟩ (.bool true) = wz := ⟨_, rfl⟩
  have HZ := Lib.hid (show w.heap.size ≤ wz.heap.size ∧ Ran w0 wz ok g gr B O tm ta ts tr t true Lr s Lb Lo N from by
    subst hwz
    refine ⟨by simp [World.setCell], h.own h1 ?_ ?_ ?_⟩
    · exact blk_set (blk_set hb 5 _) 6 _
    · exact ((Kept.refl w (fun k => k = g)).setCell (p := ⟨g, 5, none⟩) (.inl rfl) _).setCell (p := ⟨g, 6, none⟩) (.inl rfl) _
    · exact ((Below.refl 0 w).setCell (p := ⟨g, 5, none⟩) (Nat.zero_le _) _).setCell (p := ⟨g, 6, none⟩) (Nat.zero_le _) _)
  clear hb h h1
  cases bg with
  | true =>
    have d0 : decide (t < ck) = false := decide_eq_false (by have := ht rfl; omega)
    clear ht
    go_enter Try.func23, Try.ntmps23
    go_wp2_with fail
    refine (win_none c0).mono ?_
    rintro e w1 ⟨rfl, rfl⟩
    go_wp2
    go_ret
    exact ⟨by simp, HZ.out⟩
  | false =>
    clear ht
    go_enter Try.func23, Try.ntmps23
    go_wp2_with fail
    refine (win_none c0).mono ?_
    rintro e w1 ⟨rfl, rfl⟩
    go_wp2
    go_ret
    exact ⟨by simp, HZ.out⟩
end
end Go.Proofs.Ytgfnlhigmncdmaa

end
section
namespace Go.Proofs.Ytgfnlhigmncdmaa
set_option linter.unusedVariables false
set_option linter.unusedSimpArgs false
open Go.RowKit Go.Proofs.Ytgfnlhigmncdmaa.XMono Go.Proofs.YtgfnlhigmncdmaaW.PrintWords Go.Proofs.YtgfnlhigmncdmaaW.PrintLast Go.Proofs.YtgfnlhigmncdmaaW.PrintMore

section
variable {w0 w w' : World} {g gr : Nat} {B O : Value} {ok Fr Fb Fo : Nat → Prop} {tm ta ts tr ck : Int} {bg : Bool} {Lr : List (Int × Int)} {s : Int} {Lb Lo : List Int} {N : Int}
set_option maxHeartbeats 4000000 in
set_option maxRecDepth 100000 in
theorem win_gone {t x : Int} (h : Ran w0 w ok g gr B O tm ta ts tr ck bg Lr s (x :: Lb) (x :: Lo) N) (hx : R64 x) : Calls Try.prog 25 #[.pointer (some ⟨g, 0, none⟩), .agg #[.int .i64 t, .int .i64 x]] w fun e w' =>
    e = .returned (.tuple #[]) ∧ w.heap.size ≤ w'.heap.size ∧ Ran w0 w' ok g gr B O tm ta ts tr ck bg Lr (s + -x) Lb Lo N := by
  obtain ⟨w1, hw1⟩ : ∃ w1, w.alloc (.cells #[.int .i64 t, .int .i64 x] 38) = w1 := ⟨_, rfl⟩
  obtain ⟨b, hbdef⟩ : ∃ b, w.heap.size = b := ⟨_, rfl⟩
  have hbel : Below w.heap.size w w1 := by subst hw1; exact below_alloc (Below.refl _ _) _
  have hblk : w1.heap[b]? = some (.cells #[.int .i64 t, .int .i64 x] 38 (0, 0)) := by subst hw1 hbdef; exact blk_new _ _
  have H := Lib.hid h
  have HB := Lib.hid hbel
  have h1 := h.box hbel
  have HX := Lib.hid hx
  have HS := Lib.hid (show w.heap.size < w1.heap.size by subst hw1; simp only [World.size_alloc]; omega)
  have c1 : w1.cell? ⟨b, 1, none⟩ = some (.int .i64 x) := (blk_cell hblk 1).trans rfl
  have H1 := Lib.hid h1
  have hno : ¬ ((ok b ∨ w0.heap.size ≤ b) ∧ b < w.heap.size) := by omega
  have HNO := Lib.hid hno
  have HK := Lib.hid hblk
  clear h h1 hx hbel hno hblk
  go_enter Try.func25, Try.ntmps25
  go_wp2
  go_region_held3 (fun w' => w'.cell? ⟨b, 1, none⟩ = some (.int .i64 x)) (first | assumption | (simp [go_sem, c1]; done)) (first
    | (go_at_call 46; refine (ran_take (by first | exact H1.out | exact H1.out.below (Below.refl _ _).drew) HX.out).mono ?_; rintro e w2 ⟨rfl, s2, R2⟩; have HR2 := Lib.hid R2; have HS2 := Lib.hid s2; have c2 := (blk_cell (blk_kept HK.out R2.kept HNO.out) 1).trans rfl; clear R2 s2))
  obtain ⟨lo2, hi2, -, hb2⟩ := HR2.out.cells
  obtain ⟨-, -, -, -, -, -, -, -, -, d9, -⟩ := win_cells hb2
  clear hb2 c1
  go_wp2_with fail
  refine (ran_best_take HR2.out).mono ?_
  rintro e w3 ⟨⟨bq, rfl⟩, s3, R3⟩
  have HR3 := Lib.hid R3
  have HS3 := Lib.hid s3
  have c3 := (blk_cell (blk_kept HK.out R3.kept HNO.out) 1).trans rfl
  obtain ⟨lo3, hi3, -, hb3⟩ := R3.cells
  obtain ⟨-, -, -, -, -, -, -, -, -, -, d10⟩ := win_cells hb3
  clear hb3 R3 s3 c2 d9
  go_wp2
  go_region_held3 (fun w' => w'.cell? ⟨b, 1, none⟩ = some (.int .i64 x) ∧ w'.cell? ⟨g, 10, none⟩ = some O) (first | exact ⟨c3, d10⟩ | exact ⟨c4, d11⟩ | (simp [go_sem, c3, d10]; done)) (first
    | (go_at_call 48; refine (ran_order_take (by first | exact HR3.out | exact HR3.out.below (Below.refl _ _).drew)).mono ?_; rintro e w4 ⟨⟨bq2, rfl⟩, s4, R4⟩; have HR4 := Lib.hid R4; have HS4 := Lib.hid s4; have c4 := (blk_cell (blk_kept HK.out R4.kept HNO.out) 1).trans rfl; obtain ⟨lo4, hi4, -, hb4⟩ := R4.cells; obtain ⟨-, -, -, -, -, -, -, -, -, -, d11⟩ := win_cells hb4; clear R4 s4 hb4))
  all_goals
    go_wp2
    go_end0
    have e1 := HS.out
    have e2 := HS2.out
    have e3 := HS3.out
    have e4 := HS4.out
    simp at e2 e4
    exact ⟨by simp, by omega, H.out.join HB.out HR4.out⟩
end
end Go.Proofs.Ytgfnlhigmncdmaa

end
section
namespace Go.Proofs.Ytgfnlhigmncdmaa
set_option linter.unusedVariables false
set_option linter.unusedSimpArgs false
open Go.RowKit Go.Proofs.Ytgfnlhigmncdmaa.XMono Go.Proofs.YtgfnlhigmncdmaaW.PrintWords Go.Proofs.YtgfnlhigmncdmaaW.PrintLast Go.Proofs.YtgfnlhigmncdmaaW.PrintMore

/-- The window at block g holds L: ring, sum, queue and order hold the same. -/
abbrev RanL (w0 w : World) (ok : Nat → Prop) (g gr : Nat) (B O : Value) (tm ta ts tr ck : Int) (bg : Bool) (L : List (Int × Int)) (N : Int) : Prop :=
  Ran w0 w ok g gr B O tm ta ts tr ck bg L (sumV L) (L.map (·.2)) (L.map (·.2)) N
section
variable {w0 w w' : World} {g gr : Nat} {B O : Value} {ok Fr Fb Fo : Nat → Prop} {tm ta ts tr ck : Int} {bg : Bool} {L : List (Int × Int)} {N : Int}
set_option maxHeartbeats 8000000 in
set_option maxRecDepth 100000 in
theorem win_put {t x : Int} (h : RanL w0 w ok g gr B O tm ta ts tr ck bg L N) (hx : R64 x) (hL : ∀ y ∈ L, R64 y.2) (ht : bg = true → ck ≤ t) (hN : N + 1 < 4611686018427387904) : Calls Try.prog 11 #[.pointer (some ⟨g, 0, none⟩), .agg #[.int .i64 t, .int .i64 x]] w fun e w' =>
    e = .returned (.int .i64 0) ∧ w.heap.size ≤ w'.heap.size ∧ RanL w0 w' ok g gr B O tm ta ts tr t true (pushP L (t, x)) (N + 1) := by
  obtain ⟨w1, hw1⟩ : ∃ w1, w.alloc (.cells #[.int .i64 t, .int .i64 x] 38) = w1 := ⟨_, rfl⟩
  obtain ⟨b, hbdef⟩ : ∃ b, w.heap.size = b := ⟨_, rfl⟩
  have hbel : Below w.heap.size w w1 := by subst hw1; exact below_alloc (Below.refl _ _) _
  have hblk : w1.heap[b]? = some (.cells #[.int .i64 t, .int .i64 x] 38 (0, 0)) := by subst hw1 hbdef; exact blk_new _ _
  have H := Lib.hid h
  have HB := Lib.hid hbel
  have h1 := h.box hbel
  have HX := Lib.hid hx
  have HT := Lib.hid ht
  have HL := Lib.hid hL
  have HS := Lib.hid (show w.heap.size < w1.heap.size by subst hw1; simp only [World.size_alloc]; omega)
  have c0 : w1.cell? ⟨b, 0, none⟩ = some (.int .i64 t) := (blk_cell hblk 0).trans rfl
  have H1 := Lib.hid h1
  have HNO := Lib.hid (show ¬ ((ok b ∨ w0.heap.size ≤ b) ∧ b < w.heap.size) by omega)
  have HK := Lib.hid hblk
  have HF := Lib.hid h.few
  have HN := Lib.hid hN
  clear h h1 hx hbel hblk ht hL hN
  go_enter Try.func11, Try.ntmps11
  go_wp2_with fail
  refine (win_come H1.out HT.out).mono ?_
  rintro e w2 ⟨rfl, s2, R2⟩
  have HR2 := Lib.hid R2
  have HS2 := Lib.hid s2
  have x0 := (blk_cell (blk_kept HK.out R2.kept HNO.out) 0).trans rfl
  have x1 := (blk_cell (blk_kept HK.out R2.kept HNO.out) 1).trans rfl
  obtain ⟨lo2, hi2, -, hb2⟩ := R2.cells
  obtain ⟨d0, -, -, -, -, -, -, -, -, -, -⟩ := win_cells hb2
  clear hb2 c0 s2 R2
  obtain ⟨old, hold⟩ : ∃ old : Int × Int, (if (L.length : Int) = 4096 then L.headD zeroS else zeroS) = old := ⟨_, rfl⟩
  obtain ⟨full, hfull⟩ : ∃ full : Bool, decide ((L.length : Int) = 4096) = full := ⟨_, rfl⟩
  have HOLD := Lib.hid hold
  have HFULL := Lib.hid hfull
  clear hold hfull
  have u1 := World.new_ne w2 _ x0
  have u2 := World.new_ne w2 _ d0
  go_upto_region 4 with fail
  go_cut [6, 7] (fun v6 v7 wx => ∃ b6 : Nat, v6 = .pointer (some ⟨b6, 0, none⟩) ∧ v7 = .bool full ∧ Aside0 (wx.cell? ⟨b6, 0, none⟩ = some (.int .i64 old.1) ∧ wx.cell? ⟨b6, 1, none⟩ = some (.int .i64 old.2)) ∧ Aside0 (w2.heap.size ≤ wx.heap.size) ∧
    Aside0 (Ran w1 wx (fun k => (ok k ∨ w0.heap.size ≤ k) ∧ k < w.heap.size) g gr B O tm ta ts tr t true (pushP L (t, x)) (sumV L) (L.map (·.2)) (L.map (·.2)) N))
  case first =>
    go_region_held3 (fun w' => w'.cell? ⟨b, 0, none⟩ = some (.int .i64 t) ∧ w'.cell? ⟨b, 1, none⟩ = some (.int .i64 x) ∧ w'.cell? ⟨g, 0, none⟩ = some (.pointer (some ⟨gr, 0, none⟩))) (first | exact ⟨x0, x1, d0⟩ | exact ⟨y0, y1, e0⟩ | (simp [go_sem, x0, x1, d0]; done) | go_keep) (first
      | (go_at_call 24; refine (ran_push (HR2.out.box (by first | exact (Below.refl _ _).drew | exact (below_alloc (Below.refl _ _) _).drew)) (t, x)).mono ?_; rintro e w3 ⟨rfl, s3, Q3⟩; rw [HOLD.out, HFULL.out]; have R3 := HR2.out.join (by first | exact (Below.refl _ _).drew | exact (below_alloc (Below.refl _ _) _).drew) Q3; have HR3 := Lib.hid R3; have HS3 := Lib.hid s3; have y0 := (blk_cell (blk_kept HK.out R3.kept HNO.out) 0).trans rfl; have y1 := (blk_cell (blk_kept HK.out R3.kept HNO.out) 1).trans rfl; obtain ⟨lo3, hi3, -, hb3⟩ := R3.cells; obtain ⟨e0, -, -, -, -, -, -, -, -, -, -⟩ := win_cells hb3; have z0 := World.new_ne w3 _ y0; have z1 := World.new_ne w3 _ y1; have z2 := World.new_ne w3 _ e0; (first | (have n6 := blk_kept (blk_drew (blk_new w2 (.cells #[.int .i64 0, .int .i64 0] 38))) Q3.kept (fun h => by have := h.2; omega); have n60 := (blk_cell n6 0).trans rfl; have n61 := (blk_cell n6 1).trans rfl; have n62 := blk_frozen n6 0; have n63 := blk_frozen n6 1; have N6 := Lib.hid n6; clear n6) | skip); have HQ3 := Lib.hid Q3; clear R3 s3 hb3 Q3))
    all_goals
      go_wp2_with fail
      go_meet
      have e3 := HS3.out
      try simp at e3
      first
        | exact ⟨w3.heap.size, rfl, rfl, ⟨(blk_cell (blk_new w3 _) 0).trans rfl, (blk_cell (blk_new w3 _) 1).trans rfl⟩, ⟨by simp only [World.size_alloc]; omega⟩, ⟨HR3.out.below (below_alloc (Below.refl _ _) _)⟩⟩
        | (have m6 := blk_set (blk_set N6.out 0 (.int .i64 old.1)) 1 (.int .i64 old.2)
           refine ⟨w2.heap.size, rfl, rfl, ⟨(blk_cell m6 0).trans rfl, (blk_cell m6 1).trans rfl⟩, ⟨by simp [World.setCell]; omega⟩, ⟨HR2.out.joinset (below_alloc (Below.refl _ _) (.cells #[.int .i64 0, .int .i64 0] 38)).drew HQ3.out (q := w2.heap.size) (Nat.le_refl _) (by show w2.heap.size < (w2.alloc _).heap.size; simp only [World.size_alloc]; omega) ?_ ?_⟩⟩
           · exact ((Kept.refl w3 (fun k => k = w2.heap.size)).setCell (p := ⟨w2.heap.size, 0, none⟩) (.inl rfl) _).setCell (p := ⟨w2.heap.size, 1, none⟩) (.inl rfl) _
           · exact ((Below.refl 0 w3).setCell (p := ⟨w2.heap.size, 0, none⟩) (Nat.zero_le _) _).setCell (p := ⟨w2.heap.size, 1, none⟩) (Nat.zero_le _) _)
  case rest =>
    obtain ⟨b6, rfl, rfl, h6, hsz, hR⟩ := hcut
    have m0 := h6.out.1
    have m1 := h6.out.2
    have HR4 := Lib.hid hR.out
    have HS4 := Lib.hid hsz.out
    clear x0 x1 d0 u1 u2
    obtain ⟨T, hT⟩ : ∃ T : List (Int × Int), (if (L.length : Int) = 4096 then L.tail else L) = T := ⟨_, rfl⟩
    have hp : pushP L (t, x) = T ++ [(t, x)] := by unfold pushP; rw [hT]
    have hTl : T.length ≤ 4096 := by have := HF.out; rw [← hT]; split <;> simp <;> omega
    rw [hp] at HR4
    have HP := Lib.hid hp
    have HTL := Lib.hid hTl
    clear hp hTl
    have key : (full = true → ∃ y, old = y ∧ L = y :: T ∧ R64 y.2) ∧ (full = false → L = T) := by
      have q1 := HOLD.out
      have q2 := HFULL.out
      by_cases hf : (L.length : Int) = 4096
      · rw [if_pos hf] at hT q1
        rw [decide_eq_true hf] at q2
        cases L with
        | nil => simp at hf
        | cons y M => exact ⟨fun _ => ⟨y, q1.symm, by rw [← hT]; rfl, HL.out y List.mem_cons_self⟩, fun h => by rw [← q2] at h; cases h⟩
      · rw [if_neg hf] at hT
        rw [decide_eq_false hf] at q2
        exact ⟨fun h => (by rw [← q2] at h; cases h), fun _ => hT⟩
    clear hT
    cases full with
    | true =>
      obtain ⟨y, rfl, rfl, hy⟩ := key.1 rfl
      clear key
      go_wp2_with fail
      refine (win_gone (Lb := T.map (·.2)) (Lo := T.map (·.2)) HR4.out hy).mono ?_
      rintro e w5 ⟨rfl, s5, R5⟩
      have hs5 : sumV (old :: T) + -old.2 = sumV T := by rw [sumV_cons]; omega
      rw [hs5] at R5
      have HR5 := Lib.hid R5
      have HS5 := Lib.hid s5
      have y1 := (blk_cell (blk_kept HK.out R5.kept HNO.out) 1).trans rfl
      clear R5 s5 hs5 m0 m1
      go_wp2
      go_region_held3 (fun w' => w'.cell? ⟨b, 1, none⟩ = some (.int .i64 x)) (first | exact y1 | exact y2 | (simp [go_sem, y1]; done)) (first
        | (go_at_call 26; refine (ran_add (by first | exact HR5.out | exact HR5.out.below (Below.refl _ _).drew) HX.out).mono ?_; rintro e w6 ⟨rfl, s6, R6⟩; have HR6 := Lib.hid R6; have HS6 := Lib.hid s6; have y2 := (blk_cell (blk_kept HK.out R6.kept HNO.out) 1).trans rfl; obtain ⟨lo6, hi6, -, hb6⟩ := R6.cells; obtain ⟨-, -, -, -, -, -, -, -, -, e9, -⟩ := win_cells hb6; clear R6 s6 hb6))
      go_wp2
      go_region_held3 (fun w' => w'.cell? ⟨b, 1, none⟩ = some (.int .i64 x) ∧ w'.cell? ⟨g, 9, none⟩ = some B) (first | exact ⟨y2, e9⟩ | exact ⟨y3, f9⟩ | (simp [go_sem, y2, e9]; done)) (first
        | (go_at_call 27; refine (ran_best_put (by first | exact HR6.out | exact HR6.out.below (Below.refl _ _).drew) x HN.out (by rw [List.length_map]; exact HTL.out)).mono ?_; rintro e w7 ⟨rfl, s7, R7⟩; have HR7 := Lib.hid R7; have HS7 := Lib.hid s7; have y3 := (blk_cell (blk_kept HK.out R7.kept HNO.out) 1).trans rfl; obtain ⟨lo7, hi7, -, hb7⟩ := R7.cells; obtain ⟨-, -, -, -, -, -, -, -, -, f9, f10⟩ := win_cells hb7; clear R7 s7 hb7))
      clear y1 y2 e9
      go_wp2
      go_region_held3 (fun w' => w'.cell? ⟨b, 1, none⟩ = some (.int .i64 x) ∧ w'.cell? ⟨g, 10, none⟩ = some O) (first | exact ⟨y3, f10⟩ | exact ⟨y4, g10⟩ | (simp [go_sem, y3, f10]; done)) (first
        | (go_at_call 28; refine (ran_order_put (by first | exact HR7.out | exact HR7.out.below (Below.refl _ _).drew) x (by rw [List.length_map]; exact HTL.out)).mono ?_; rintro e w8 ⟨rfl, s8, R8⟩; have HR8 := Lib.hid R8; have HS8 := Lib.hid s8; have y4 := (blk_cell (blk_kept HK.out R8.kept HNO.out) 1).trans rfl; obtain ⟨lo8, hi8, -, hb8⟩ := R8.cells; obtain ⟨-, -, -, -, -, -, -, -, -, -, g10⟩ := win_cells hb8; clear R8 s8 hb8))
      all_goals
        go_wp2
        go_ret
        have q1 := HS.out
        have q2 := HS2.out
        have q4 := HS4.out
        have q5 := HS5.out
        have q6 := HS6.out
        have q7 := HS7.out
        have q8 := HS8.out
        simp at q6 q7 q8
        have hj := H.out.join HB.out HR8.out
        rw [show sumV T + x = sumV (T ++ [(t, x)]) from (sumV_push T (t, x)).symm, show T.map (·.2) ++ [x] = (T ++ [(t, x)]).map (·.2) by simp, ← HP.out] at hj
        exact ⟨by simp, by omega, hj⟩
    | false =>
      obtain rfl := key.2 rfl
      clear key
      have HS5 := Lib.hid (Nat.le_refl wc.heap.size)
      have HR5 := HR4
      have y1 := (blk_cell (blk_kept HK.out HR5.out.kept HNO.out) 1).trans rfl
      clear m0 m1
      go_wp2
      go_region_held3 (fun w' => w'.cell? ⟨b, 1, none⟩ = some (.int .i64 x)) (first | exact y1 | exact y2 | (simp [go_sem, y1]; done)) (first
        | (go_at_call 26; refine (ran_add (by first | exact HR5.out | exact HR5.out.below (Below.refl _ _).drew) HX.out).mono ?_; rintro e w6 ⟨rfl, s6, R6⟩; have HR6 := Lib.hid R6; have HS6 := Lib.hid s6; have y2 := (blk_cell (blk_kept HK.out R6.kept HNO.out) 1).trans rfl; obtain ⟨lo6, hi6, -, hb6⟩ := R6.cells; obtain ⟨-, -, -, -, -, -, -, -, -, e9, -⟩ := win_cells hb6; clear R6 s6 hb6))
      go_wp2
      go_region_held3 (fun w' => w'.cell? ⟨b, 1, none⟩ = some (.int .i64 x) ∧ w'.cell? ⟨g, 9, none⟩ = some B) (first | exact ⟨y2, e9⟩ | exact ⟨y3, f9⟩ | (simp [go_sem, y2, e9]; done)) (first
        | (go_at_call 27; refine (ran_best_put (by first | exact HR6.out | exact HR6.out.below (Below.refl _ _).drew) x HN.out (by rw [List.length_map]; exact HTL.out)).mono ?_; rintro e w7 ⟨rfl, s7, R7⟩; have HR7 := Lib.hid R7; have HS7 := Lib.hid s7; have y3 := (blk_cell (blk_kept HK.out R7.kept HNO.out) 1).trans rfl; obtain ⟨lo7, hi7, -, hb7⟩ := R7.cells; obtain ⟨-, -, -, -, -, -, -, -, -, f9, f10⟩ := win_cells hb7; clear R7 s7 hb7))
      clear y1 y2 e9
      go_wp2
      go_region_held3 (fun w' => w'.cell? ⟨b, 1, none⟩ = some (.int .i64 x) ∧ w'.cell? ⟨g, 10, none⟩ = some O) (first | exact ⟨y3, f10⟩ | exact ⟨y4, g10⟩ | (simp [go_sem, y3, f10]; done)) (first
        | (go_at_call 28; refine (ran_order_put (by first | exact HR7.out | exact HR7.out.below (Below.refl _ _).drew) x (by rw [List.length_map]; exact HTL.out)).mono ?_; rintro e w8 ⟨rfl, s8, R8⟩; have HR8 := Lib.hid R8; have HS8 := Lib.hid s8; have y4 := (blk_cell (blk_kept HK.out R8.kept HNO.out) 1).trans rfl; obtain ⟨lo8, hi8, -, hb8⟩ := R8.cells; obtain ⟨-, -, -, -, -, -, -, -, -, -, g10⟩ := win_cells hb8; clear R8 s8 hb8))
      all_goals
        go_wp2
        go_ret
        have q1 := HS.out
        have q2 := HS2.out
        have q4 := HS4.out
        have q5 := HS5.out
        have q6 := HS6.out
        have q7 := HS7.out
        have q8 := HS8.out
        simp at q6 q7 q8
        have hj := H.out.join HB.out HR8.out
        rw [show sumV L + x = sumV (L ++ [(t, x)]) from (sumV_push L (t, x)).symm, show L.map (·.2) ++ [x] = (L ++ [(t, x)]).map (·.2) by simp, ← HP.out] at hj
        exact ⟨by simp, by omega, hj⟩
end
end Go.Proofs.Ytgfnlhigmncdmaa

end
section
namespace Go.Proofs.Ytgfnlhigmncdmaa
set_option linter.unusedVariables false
set_option linter.unusedSimpArgs false
open Go.RowKit Go.Proofs.Ytgfnlhigmncdmaa.XMono Go.Proofs.YtgfnlhigmncdmaaW.PrintWords Go.Proofs.YtgfnlhigmncdmaaW.PrintLast Go.Proofs.YtgfnlhigmncdmaaW.PrintMore

/-- The age of a sample, as the machine reckons it. -/
theorem age_u64 {c y : Int} (hc : R64 c) (hy : R64 y) (h : y ≤ c) : IntKind.u64.wrap (IntKind.u64.wrap c - IntKind.u64.wrap y) = c - y := by
  obtain ⟨c0, c1⟩ := hc
  obtain ⟨y0, y1⟩ := hy
  simp only [wu]
  omega
/-- A sample whose parts are numbers of 64 bits, no later than c. -/
def SmpOk (c : Int) (y : Int × Int) : Prop := R64 y.1 ∧ R64 y.2 ∧ y.1 ≤ c
section
variable {w0 w w' : World} {g gr : Nat} {B O : Value} {ok Fr Fb Fo : Nat → Prop} {tm ta ts tr ck : Int} {bg : Bool} {L : List (Int × Int)} {N : Int}
set_option maxHeartbeats 8000000 in
set_option maxRecDepth 100000 in
theorem win_expire (h : RanL w0 w ok g gr B O tm ta ts tr ck bg L N) (hc : R64 ck) (hL : ∀ y ∈ L, SmpOk ck y) (h1 : 1 ≤ ts) (h2 : ts ≤ 604800) : Calls Try.prog 30 #[.pointer (some ⟨g, 0, none⟩)] w fun e w' =>
    e = .returned (.tuple #[]) ∧ w.heap.size ≤ w'.heap.size ∧ RanL w0 w' ok g gr B O tm ta ts tr ck bg (expP ck ts L) N := by
  have H := Lib.hid h
  have HL := Lib.hid hL
  have HC := Lib.hid hc
  have hts : IntKind.u64.wrap ts = ts := wu_in (by omega) (by omega)
  clear h hL hc h1 h2
  go_enter Try.func30, Try.ntmps30
  go_wp2
  go_loopg [3] L.length (fun kq v3 w' => ∃ M : List (Int × Int), Aside0 (M.length = kq) ∧ Aside0 (expP ck ts M = expP ck ts L ∧ (∀ y ∈ M, SmpOk ck y)) ∧ Aside0 (w.heap.size ≤ w'.heap.size) ∧ Aside0 (RanL w0 w' ok g gr B O tm ta ts tr ck bg M N))
  case atStart => exact ⟨L, ⟨rfl⟩, ⟨rfl, HL.out⟩, ⟨Nat.le_refl _⟩, ⟨H.out⟩⟩
  case round =>
    obtain ⟨M, hk, hm, hsz, hR⟩ := hrel
    have HR := Lib.hid hR.out
    have HM := Lib.hid hm.out
    have HK := Lib.hid hk.out
    have HS := Lib.hid hsz.out
    clear hk hm hsz hR
    obtain ⟨lo, hi, -, hb⟩ := HR.out.cells
    obtain ⟨d0, -, -, d3, -, d5, -, -, -, -, -⟩ := win_cells hb
    clear hb
    go_wp2_with fail
    refine (ran_at HR.out 0).mono ?_
    rintro e w2 ⟨rfl, b2⟩
    cases M with
    | nil =>
      have e1 : hasS [] 0 = false := by decide
      have e2 : atS [] 0 = zeroS := by decide
      rw [e1, e2]
      have B2 := Lib.hid b2
      have R2 := Lib.hid (HR.out.below b2)
      clear b2
      go_wp2
      refine wp_region_held_drew (S := (fun _ => True)) (by kernel_rfl) ?_ (fun hHeld => ?_)
      · trivial
      refine' wpAnyH_take (i := 0) (oi := ?oi_0) (v := ?vv_0) ?hi_0 ?hs_0 ?hf_0 ?hr_0 ?hq_0 ?hy_0 ?hS_0 ?hZ_0
      case hi_0 => (simp only [List.getElem?_toArray, List.getElem?_cons_succ, List.getElem?_cons_zero]; rfl)
      case hq_0 => exact fun _ _ _ h => h
      case hs_0 => kernel_rfl
      case hS_0 => assumption
      case hf_0 => kernel_rfl
      case hr_0 => kernel_rfl
      case hy_0 => (refine Or.inl ⟨by rfl, ?_⟩; intro w hSw; (try dsimp only at hSw); go_simp; (try with_reducible rfl))
      try simp only [Act.put, List.setIfInBounds_toArray, List.set_cons_zero, List.set_cons_succ]
      refine' wpAnyH_take (i := 1) (oi := ?oi_1) (v := ?vv_1) ?hi_1 ?hs_1 ?hf_1 ?hr_1 ?hq_1 ?hy_1 ?hS_1 ?hZ_1
      case hi_1 => (simp only [List.getElem?_toArray, List.getElem?_cons_succ, List.getElem?_cons_zero]; rfl)
      case hq_1 => exact fun _ _ _ h => h
      case hs_1 => kernel_rfl
      case hS_1 => assumption
      case hf_1 => kernel_rfl
      case hr_1 => kernel_rfl
      case hy_1 => (refine Or.inl ⟨by rfl, ?_⟩; intro w hSw; (try dsimp only at hSw); go_simp; (try with_reducible rfl))
      try simp only [Act.put, List.setIfInBounds_toArray, List.set_cons_zero, List.set_cons_succ]
      refine' wpAnyH_take (i := 2) (oi := ?oi_2) (v := ?vv_2) ?hi_2 ?hs_2 ?hf_2 ?hr_2 ?hq_2 ?hy_2 ?hS_2 ?hZ_2
      case hi_2 => (simp only [List.getElem?_toArray, List.getElem?_cons_succ, List.getElem?_cons_zero]; rfl)
      case hq_2 => exact fun _ _ _ h => h
      case hs_2 => kernel_rfl
      case hS_2 => assumption
      case hf_2 => kernel_rfl
      case hr_2 => kernel_rfl
      case hy_2 => (refine Or.inl ⟨by rfl, ?_⟩; intro w hSw; (try dsimp only at hSw); go_simp; (try with_reducible rfl))
      try simp only [Act.put, List.setIfInBounds_toArray, List.set_cons_zero, List.set_cons_succ]
      refine' wpAnyH_take (i := 3) (oi := ?oi_3) (v := undef) ?hi_3 ?hs_3 ?hf_3 ?hr_3 ?hq_3 ?hy_3 ?hS_3 ?hZ_3
      case hi_3 => (simp only [List.getElem?_toArray, List.getElem?_cons_succ, List.getElem?_cons_zero]; rfl)
      case hq_3 => exact fun _ _ _ h => h
      case hs_3 => kernel_rfl
      case hS_3 => assumption
      case hf_3 => kernel_rfl
      case hr_3 => kernel_rfl
      case hy_3 => (exact Or.inr ⟨by rfl, rfl⟩)
      try simp only [Act.put, List.setIfInBounds_toArray, List.set_cons_zero, List.set_cons_succ]
      refine' wpAnyH_take (i := 4) (oi := ?oi_4) (v := undef) ?hi_4 ?hs_4 ?hf_4 ?hr_4 ?hq_4 ?hy_4 ?hS_4 ?hZ_4
      case hi_4 => (simp only [List.getElem?_toArray, List.getElem?_cons_succ, List.getElem?_cons_zero]; rfl)
      case hq_4 => exact fun _ _ _ h => h
      case hs_4 => kernel_rfl
      case hS_4 => assumption
      case hf_4 => kernel_rfl
      case hr_4 => kernel_rfl
      case hy_4 => (exact Or.inr ⟨by rfl, rfl⟩)
      try simp only [Act.put, List.setIfInBounds_toArray, List.set_cons_zero, List.set_cons_succ]
      refine' wpAnyH_take (i := 5) (oi := ?oi_5) (v := undef) ?hi_5 ?hs_5 ?hf_5 ?hr_5 ?hq_5 ?hy_5 ?hS_5 ?hZ_5
      case hi_5 => (simp only [List.getElem?_toArray, List.getElem?_cons_succ, List.getElem?_cons_zero]; rfl)
      case hq_5 => exact fun _ _ _ h => h
      case hs_5 => kernel_rfl
      case hS_5 => assumption
      case hf_5 => kernel_rfl
      case hr_5 => kernel_rfl
      case hy_5 => (exact Or.inr ⟨by rfl, rfl⟩)
      try simp only [Act.put, List.setIfInBounds_toArray, List.set_cons_zero, List.set_cons_succ]
      refine' wpAnyH_take (i := 6) (oi := ?oi_6) (v := undef) ?hi_6 ?hs_6 ?hf_6 ?hr_6 ?hq_6 ?hy_6 ?hS_6 ?hZ_6
      case hi_6 => (simp only [List.getElem?_toArray, List.getElem?_cons_succ, List.getElem?_cons_zero]; rfl)
      case hq_6 => exact fun _ _ _ h => h
      case hs_6 => kernel_rfl
      case hS_6 => assumption
      case hf_6 => kernel_rfl
      case hr_6 => kernel_rfl
      case hy_6 => (exact Or.inr ⟨by rfl, rfl⟩)
      try simp only [Act.put, List.setIfInBounds_toArray, List.set_cons_zero, List.set_cons_succ]
      refine' wpAnyH_take (i := 7) (oi := ?oi_7) (v := undef) ?hi_7 ?hs_7 ?hf_7 ?hr_7 ?hq_7 ?hy_7 ?hS_7 ?hZ_7
      case hi_7 => (simp only [List.getElem?_toArray, List.getElem?_cons_succ, List.getElem?_cons_zero]; rfl)
      case hq_7 => exact fun _ _ _ h => h
      case hs_7 => kernel_rfl
      case hS_7 => assumption
      case hf_7 => kernel_rfl
      case hr_7 => kernel_rfl
      case hy_7 => (exact Or.inr ⟨by rfl, rfl⟩)
      try simp only [Act.put, List.setIfInBounds_toArray, List.set_cons_zero, List.set_cons_succ]
      refine' wpAnyH_take (i := 8) (oi := ?oi_8) (v := undef) ?hi_8 ?hs_8 ?hf_8 ?hr_8 ?hq_8 ?hy_8 ?hS_8 ?hZ_8
      case hi_8 => (simp only [List.getElem?_toArray, List.getElem?_cons_succ, List.getElem?_cons_zero]; rfl)
      case hq_8 => exact fun _ _ _ h => h
      case hs_8 => kernel_rfl
      case hS_8 => assumption
      case hf_8 => kernel_rfl
      case hr_8 => kernel_rfl
      case hy_8 => (exact Or.inr ⟨by rfl, rfl⟩)
      try simp only [Act.put, List.setIfInBounds_toArray, List.set_cons_zero, List.set_cons_succ]
      refine' wpAnyH_take (i := 9) (oi := ?oi_9) (v := undef) ?hi_9 ?hs_9 ?hf_9 ?hr_9 ?hq_9 ?hy_9 ?hS_9 ?hZ_9
      case hi_9 => (simp only [List.getElem?_toArray, List.getElem?_cons_succ, List.getElem?_cons_zero]; rfl)
      case hq_9 => exact fun _ _ _ h => h
      case hs_9 => kernel_rfl
      case hS_9 => assumption
      case hf_9 => kernel_rfl
      case hr_9 => kernel_rfl
      case hy_9 => (exact Or.inr ⟨by rfl, rfl⟩)
      try simp only [Act.put, List.setIfInBounds_toArray, List.set_cons_zero, List.set_cons_succ]
      refine' wpAnyH_take (i := 10) (oi := ?oi_10) (v := undef) ?hi_10 ?hs_10 ?hf_10 ?hr_10 ?hq_10 ?hy_10 ?hS_10 ?hZ_10
      case hi_10 => (simp only [List.getElem?_toArray, List.getElem?_cons_succ, List.getElem?_cons_zero]; rfl)
      case hq_10 => exact fun _ _ _ h => h
      case hs_10 => kernel_rfl
      case hS_10 => assumption
      case hf_10 => kernel_rfl
      case hr_10 => kernel_rfl
      case hy_10 => (exact Or.inr ⟨by rfl, rfl⟩)
      try simp only [Act.put, List.setIfInBounds_toArray, List.set_cons_zero, List.set_cons_succ]
      refine' wpAnyH_take (i := 11) (oi := ?oi_11) (v := undef) ?hi_11 ?hs_11 ?hf_11 ?hr_11 ?hq_11 ?hy_11 ?hS_11 ?hZ_11
      case hi_11 => (simp only [List.getElem?_toArray, List.getElem?_cons_succ, List.getElem?_cons_zero]; rfl)
      case hq_11 => exact fun _ _ _ h => h
      case hs_11 => kernel_rfl
      case hS_11 => assumption
      case hf_11 => kernel_rfl
      case hr_11 => kernel_rfl
      case hy_11 => (exact Or.inr ⟨by rfl, rfl⟩)
      try simp only [Act.put, List.setIfInBounds_toArray, List.set_cons_zero, List.set_cons_succ]
      refine' wpAnyH_take (i := 12) (oi := ?oi_12) (v := undef) ?hi_12 ?hs_12 ?hf_12 ?hr_12 ?hq_12 ?hy_12 ?hS_12 ?hZ_12
      case hi_12 => (simp only [List.getElem?_toArray, List.getElem?_cons_succ, List.getElem?_cons_zero]; rfl)
      case hq_12 => exact fun _ _ _ h => h
      case hs_12 => kernel_rfl
      case hS_12 => assumption
      case hf_12 => kernel_rfl
      case hr_12 => kernel_rfl
      case hy_12 => (exact Or.inr ⟨by rfl, rfl⟩)
      try simp only [Act.put, List.setIfInBounds_toArray, List.set_cons_zero, List.set_cons_succ]
      refine' wpAnyH_take (i := 13) (oi := ?oi_13) (v := undef) ?hi_13 ?hs_13 ?hf_13 ?hr_13 ?hq_13 ?hy_13 ?hS_13 ?hZ_13
      case hi_13 => (simp only [List.getElem?_toArray, List.getElem?_cons_succ, List.getElem?_cons_zero]; rfl)
      case hq_13 => exact fun _ _ _ h => h
      case hs_13 => kernel_rfl
      case hS_13 => assumption
      case hf_13 => kernel_rfl
      case hr_13 => kernel_rfl
      case hy_13 => (exact Or.inr ⟨by rfl, rfl⟩)
      try simp only [Act.put, List.setIfInBounds_toArray, List.set_cons_zero, List.set_cons_succ]
      refine' wpAnyH_take (i := 14) (oi := ?oi_14) (v := undef) ?hi_14 ?hs_14 ?hf_14 ?hr_14 ?hq_14 ?hy_14 ?hS_14 ?hZ_14
      case hi_14 => (simp only [List.getElem?_toArray, List.getElem?_cons_succ, List.getElem?_cons_zero]; rfl)
      case hq_14 => exact fun _ _ _ h => h
      case hs_14 => kernel_rfl
      case hS_14 => assumption
      case hf_14 => kernel_rfl
      case hr_14 => kernel_rfl
      case hy_14 => (exact Or.inr ⟨by rfl, rfl⟩)
      try simp only [Act.put, List.setIfInBounds_toArray, List.set_cons_zero, List.set_cons_succ]
      refine' wpAnyH_take (i := 15) (oi := ?oi_15) (v := undef) ?hi_15 ?hs_15 ?hf_15 ?hr_15 ?hq_15 ?hy_15 ?hS_15 ?hZ_15
      case hi_15 => (simp only [List.getElem?_toArray, List.getElem?_cons_succ, List.getElem?_cons_zero]; rfl)
      case hq_15 => exact fun _ _ _ h => h
      case hs_15 => kernel_rfl
      case hS_15 => assumption
      case hf_15 => kernel_rfl
      case hr_15 => kernel_rfl
      case hy_15 => (exact Or.inr ⟨by rfl, rfl⟩)
      try simp only [Act.put, List.setIfInBounds_toArray, List.set_cons_zero, List.set_cons_succ]
      refine' wpAnyH_take (i := 16) (oi := ?oi_16) (v := undef) ?hi_16 ?hs_16 ?hf_16 ?hr_16 ?hq_16 ?hy_16 ?hS_16 ?hZ_16
      case hi_16 => (simp only [List.getElem?_toArray, List.getElem?_cons_succ, List.getElem?_cons_zero]; rfl)
      case hq_16 => exact fun _ _ _ h => h
      case hs_16 => kernel_rfl
      case hS_16 => assumption
      case hf_16 => kernel_rfl
      case hr_16 => kernel_rfl
      case hy_16 => (exact Or.inr ⟨by rfl, rfl⟩)
      try simp only [Act.put, List.setIfInBounds_toArray, List.set_cons_zero, List.set_cons_succ]
      refine' wpAnyH_take (i := 17) (oi := ?oi_17) (v := undef) ?hi_17 ?hs_17 ?hf_17 ?hr_17 ?hq_17 ?hy_17 ?hS_17 ?hZ_17
      case hi_17 => (simp only [List.getElem?_toArray, List.getElem?_cons_succ, List.getElem?_cons_zero]; rfl)
      case hq_17 => exact fun _ _ _ h => h
      case hs_17 => kernel_rfl
      case hS_17 => assumption
      case hf_17 => kernel_rfl
      case hr_17 => kernel_rfl
      case hy_17 => (exact Or.inr ⟨by rfl, rfl⟩)
      try simp only [Act.put, List.setIfInBounds_toArray, List.set_cons_zero, List.set_cons_succ]
      refine' wpAnyH_take (i := 18) (oi := ?oi_18) (v := undef) ?hi_18 ?hs_18 ?hf_18 ?hr_18 ?hq_18 ?hy_18 ?hS_18 ?hZ_18
      case hi_18 => (simp only [List.getElem?_toArray, List.getElem?_cons_succ, List.getElem?_cons_zero]; rfl)
      case hq_18 => exact fun _ _ _ h => h
      case hs_18 => kernel_rfl
      case hS_18 => assumption
      case hf_18 => kernel_rfl
      case hr_18 => kernel_rfl
      case hy_18 => (exact Or.inr ⟨by rfl, rfl⟩)
      try simp only [Act.put, List.setIfInBounds_toArray, List.set_cons_zero, List.set_cons_succ]
      refine' wpAnyH_take (i := 19) (oi := ?oi_19) (v := ?vv_19) ?hi_19 ?hs_19 ?hf_19 ?hr_19 ?hq_19 ?hy_19 ?hS_19 ?hZ_19
      case hi_19 => (simp only [List.getElem?_toArray, List.getElem?_cons_succ, List.getElem?_cons_zero]; rfl)
      case hq_19 => exact fun _ _ _ h => h
      case hs_19 => kernel_rfl
      case hS_19 => assumption
      case hf_19 => kernel_rfl
      case hr_19 => kernel_rfl
      case hy_19 => (refine Or.inl ⟨by rfl, ?_⟩; intro w hSw; (try dsimp only at hSw); go_simp; (try with_reducible rfl))
      try simp only [Act.put, List.setIfInBounds_toArray, List.set_cons_zero, List.set_cons_succ]
      refine wpAnyH_done (by kernel_rfl) ?_ _
      go_wp2
      refine bodyPost_ret (results_none rfl _ _ _) rfl ?_
      have m1 := HM.out.1
      have q1 := HS.out
      have q2 := B2.out.size
      rw [show expP ck ts [] = [] from rfl] at m1
      rw [← m1]
      exact ⟨by simp, by simp; omega, (R2.out.below (below_alloc (Below.refl _ _) _).drew)⟩
    | cons y M =>
      have e1 : hasS (y :: M) 0 = true := by unfold hasS; simp
      have e2 : atS (y :: M) 0 = y := by unfold atS; simp
      rw [e1, e2]
      obtain ⟨o1, o2, o3⟩ := HM.out.2 y List.mem_cons_self
      have ha := age_u64 HC.out o1 o3
      obtain ⟨w3, hw3⟩ : ∃ w3, w2.alloc (.cells #[.int .i64 y.1, .int .i64 y.2] 38) = w3 := ⟨_, rfl⟩
      obtain ⟨b6, hb6⟩ : ∃ b6, w2.heap.size = b6 := ⟨_, rfl⟩
      have b3 : Below w2.heap.size w2 w3 := by subst hw3; exact below_alloc (Below.refl _ _) _
      have k6 : w3.heap[b6]? = some (.cells #[.int .i64 y.1, .int .i64 y.2] 38 (0, 0)) := by subst hw3 hb6; exact blk_new _ _
      have x0 := (blk_cell k6 0).trans rfl
      have x1 := (blk_cell k6 1).trans rfl
      have R2 := Lib.hid (HR.out.below b2)
      have R3 := Lib.hid (R2.out.below b3)
      have Q3 := Lib.hid (R2.out.box b3)
      have K6 := Lib.hid k6
      have S3 := Lib.hid (show wr.heap.size ≤ w3.heap.size from Nat.le_trans b2.size b3.size)
      obtain ⟨lo3, hi3, -, hb3⟩ := R3.out.cells
      obtain ⟨p0, -, -, p3, -, p5, -, -, -, -, -⟩ := win_cells hb3
      have B3 := Lib.hid b3
      have HB6 := Lib.hid hb6
      clear b2 d0 d3 d5 hb3 k6 b3
      by_cases hq : ck - y.1 < ts
      · have dq : decide (ck - y.1 < ts) = true := decide_eq_true hq
        have HQ := Lib.hid hq
        clear hq
        go_wp2
        go_region_held3 (fun w' => w'.cell? ⟨g, 5, none⟩ = some (.int .i64 ck) ∧ w'.cell? ⟨g, 3, none⟩ = some (.int .i64 ts) ∧ w'.cell? ⟨b6, 0, none⟩ = some (.int .i64 y.1)) (go_keep) (fail)
        go_wp2
        refine bodyPost_ret (results_none rfl _ _ _) rfl ?_
        have m1 := HM.out.1
        have q1 := HS.out
        have q2 := S3.out
        have hq := HQ.out
        rw [show expP ck ts (y :: M) = y :: M by unfold expP; rw [if_pos hq]] at m1
        rw [← m1]
        exact ⟨by simp, by simp; omega, R3.out.below (Below.refl _ _).drew⟩
      · have dq : decide (ck - y.1 < ts) = false := decide_eq_false hq
        have HQ := Lib.hid hq
        clear hq
        go_wp2
        go_region_held3 (fun w' => w'.cell? ⟨g, 5, none⟩ = some (.int .i64 ck) ∧ w'.cell? ⟨g, 3, none⟩ = some (.int .i64 ts) ∧ w'.cell? ⟨b6, 0, none⟩ = some (.int .i64 y.1)) (go_keep) (fail)
        go_wp2_with fail
        refine (ran_drop (Q3.out.below (Below.refl _ _).drew)).mono ?_
        rintro e w4 ⟨rfl, s4, Q4⟩
        have y0 := (blk_cell (blk_kept K6.out Q4.kept (fun h => by have := h.2; have := HB6.out; omega)) 0).trans rfl
        have y1 := (blk_cell (blk_kept K6.out Q4.kept (fun h => by have := h.2; have := HB6.out; omega)) 1).trans rfl
        have R4 := Lib.hid (R2.out.join B3.out Q4)
        have S4 := Lib.hid s4
        clear Q4 s4 x0 x1 p0 p3 p5
        go_wp2_with fail
        refine (win_gone (Lb := M.map (·.2)) (Lo := M.map (·.2)) R4.out o2).mono ?_
        rintro e w5 ⟨rfl, s5, R5⟩
        have hs5 : sumV (y :: M) + -y.2 = sumV M := by rw [sumV_cons]; omega
        rw [hs5] at R5
        go_wp2
        go_roundg M.length
        case measure => have := HK.out; simp at this; omega
        case rel =>
          have q1 := HS.out
          have q2 := S3.out
          have q3 := S4.out
          simp at q3
          refine ⟨M, ⟨rfl⟩, ⟨?_, fun z hz => HM.out.2 z (List.mem_cons_of_mem _ hz)⟩, ⟨by omega⟩, ⟨R5⟩⟩
          rw [← HM.out.1]
          have hq := HQ.out
          show expP ck ts M = (if ck - y.1 < ts then y :: M else expP ck ts M)
          rw [if_neg (by omega)]
end
end Go.Proofs.Ytgfnlhigmncdmaa

end
section
namespace Go.Proofs.Ytgfnlhigmncdmaa
set_option linter.unusedVariables false
set_option linter.unusedSimpArgs false
open Go.RowKit Go.Proofs.Ytgfnlhigmncdmaa.XMono Go.Proofs.YtgfnlhigmncdmaaW.PrintWords Go.Proofs.YtgfnlhigmncdmaaW.PrintLast Go.Proofs.YtgfnlhigmncdmaaW.PrintMore

/-- What a window of an aggregate says of the numbers that it holds: a reason, and a number. -/
def readV (ta tr : Int) (L : List Int) : Int × Int :=
  if ta = 1 then (if inR L.sum then (0, L.sum) else (3, 0))
  else if ta = 5 then (0, (L.length : Int) * 1000000)
  else if L.length = 0 then (1, 0)
  else if ta = 2 then (0, L.sum / (L.length : Int))
  else if ta = 6 then (0, byV (srt L) tr)
  else (0, bestV (decide (ta = 4)) L)
theorem told_val (v : Int) (b : Bool) (why : Int) (w : World) : Calls Try.prog 33 #[.int .i64 v, .bool b, .int .i64 why] w fun e w' => (∃ r0 r1, e = .returned (.agg #[.int .i64 r0, .int .i64 r1]) ∧ r0 = (if b then 0 else why) ∧ r1 = (if b then v else 0)) ∧ Below w.heap.size w w' := by
  cases b with
  | true => exact (XWinA.window_told.calls v true why 0 v w rfl).mono fun e w' h => ⟨⟨0, v, h.1, rfl, rfl⟩, h.2⟩
  | false => exact (XWinA.window_told.calls v false why why 0 w rfl).mono fun e w' h => ⟨⟨why, 0, h.1, rfl, rfl⟩, h.2⟩
section
variable {w0 w w' : World} {g gr : Nat} {B O : Value} {ok Fr Fb Fo : Nat → Prop} {tm ta ts tr ck : Int} {bg : Bool} {L : List (Int × Int)} {N : Int}
theorem smp_sum {c : Int} {M : List (Int × Int)} (h : ∀ y ∈ M, SmpOk c y) (hl : M.length ≤ 4096) : -37778931862957161709568 ≤ sumV M ∧ sumV M ≤ 37778931862957161709568 ∧ (0 < M.length → inR ((M.map (·.2)).sum / (M.length : Int)) = true) := by
  have h1 := sum_bnd (M.map (·.2)) (fun x hx => by obtain ⟨y, hy, rfl⟩ := List.mem_map.1 hx; have := (h y hy).2.1; exact ⟨this.1, by have := this.2; omega⟩)
  rw [List.length_map] at h1
  unfold sumV
  generalize (M.map (·.2)).sum = X at *
  generalize M.length = n at *
  refine ⟨by omega, by omega, fun hn => decide_eq_true ?_⟩
  have a1 : -9223372036854775808 ≤ X / (n : Int) := (Int.le_ediv_iff_mul_le (by omega)).2 (by omega)
  have a2 : X / (n : Int) ≤ 9223372036854775807 := by
    have := Int.ediv_le_ediv (c := (n : Int)) (by omega) h1.2
    rw [Int.mul_ediv_cancel _ (by omega)] at this
    exact this
  omega
theorem expP_mem {t ts : Int} {L : List (Int × Int)} {y : Int × Int} (h : y ∈ expP t ts L) : y ∈ L := by
  obtain ⟨E, h1, -⟩ := expP_split t ts L
  rw [h1]
  exact List.mem_append_right _ h
set_option maxHeartbeats 16000000 in
set_option maxRecDepth 100000 in
theorem win_read (h : RanL w0 w ok g gr B O tm ta ts tr ck bg L N) {t : Int} (hL : ∀ y ∈ L, SmpOk t y) (hc : R64 t) (h1 : 1 ≤ ts) (h2 : ts ≤ 604800) (ha : 1 ≤ ta ∧ ta ≤ 6) (hr : ta = 6 → 1 ≤ tr ∧ tr ≤ 100000000) (ht : bg = true → ck ≤ t) :
    Calls Try.prog 13 #[.pointer (some ⟨g, 0, none⟩), .int .i64 t] w fun e w' => e = .returned (.tuple #[.agg #[.int .i64 (readV ta tr ((expP t ts L).map (·.2))).1, .int .i64 (readV ta tr ((expP t ts L).map (·.2))).2], .int .i64 0]) ∧
      w.heap.size ≤ w'.heap.size ∧ RanL w0 w' ok g gr B O tm ta ts tr t true (expP t ts L) N := by
  obtain ⟨w1, hw1⟩ : ∃ w1, w.alloc (.cells #[.int .i64 0, .int .i64 0] 42) = w1 := ⟨_, rfl⟩
  obtain ⟨b, hbdef⟩ : ∃ b, w.heap.size = b := ⟨_, rfl⟩
  have hbel : Below w.heap.size w w1 := by subst hw1; exact below_alloc (Below.refl _ _) _
  have hblk : w1.heap[b]? = some (.cells #[.int .i64 0, .int .i64 0] 42 (0, 0)) := by subst hw1 hbdef; exact blk_new _ _
  have H := Lib.hid h
  have HB := Lib.hid hbel
  have Q1 := Lib.hid (h.box hbel)
  have HS := Lib.hid (show w.heap.size < w1.heap.size by subst hw1; simp only [World.size_alloc]; omega)
  have HK := Lib.hid hblk
  have HT := Lib.hid ht
  have HL := Lib.hid hL
  have HC := Lib.hid hc
  have H12 := Lib.hid (And.intro h1 h2)
  have HA := Lib.hid ha
  have HR := Lib.hid hr
  have HBD := Lib.hid hbdef
  have HNO := Lib.hid (show ¬ ((ok b ∨ w0.heap.size ≤ b) ∧ b < w.heap.size) by omega)
  obtain ⟨M, hM⟩ : ∃ M, expP t ts L = M := ⟨_, rfl⟩
  rw [hM]
  have HMM := Lib.hid hM
  clear h hbel hblk ht hL hc h1 h2 ha hr hM
  go_enter Try.func13, Try.ntmps13
  go_wp2_with fail
  refine (win_come Q1.out HT.out).mono ?_
  rintro e w2 ⟨rfl, s2, R2⟩
  have R2' := Lib.hid R2
  have S2 := Lib.hid s2
  clear R2 s2
  go_wp2_with fail
  refine (win_expire R2'.out HC.out HL.out H12.out.1 H12.out.2).mono ?_
  rintro e w3 ⟨rfl, s3, R3⟩
  rw [HMM.out] at R3
  have R3' := Lib.hid R3
  have S3 := Lib.hid s3
  have HM := Lib.hid (show ∀ y ∈ M, SmpOk t y from fun y hy => HL.out y (expP_mem (by rw [HMM.out]; exact hy)))
  obtain ⟨lo3, hi3, -, hb3⟩ := R3'.out.cells
  obtain ⟨d0, -, d2, -, d4, -, -, -, -, d9, d10⟩ := win_cells hb3
  have HFEW := Lib.hid R3'.out.few
  have HSUM := Lib.hid (smp_sum HM.out HFEW.out)
  clear R3 s3 hb3
  go_wp2_with fail
  refine (ran_len R3'.out).mono ?_
  rintro e w3' ⟨rfl, rfl⟩
  have K3 := Lib.hid (blk_kept HK.out R3'.out.kept HNO.out)
  obtain ⟨nM, hnM⟩ : ∃ n : Nat, M.length = n := ⟨_, rfl⟩
  have HN := Lib.hid hnM
  rw [hnM]
  go_upto_region 6 with fail
  obtain ⟨ha1, ha2⟩ := HA.out
  obtain rfl | rfl | rfl | rfl | rfl | rfl : ta = 1 ∨ ta = 2 ∨ ta = 3 ∨ ta = 4 ∨ ta = 5 ∨ ta = 6 := by omega
  · go_wp2_with fail
    refine (wide_fit R3'.out.wide (by have := HSUM.out; omega) (by have := HSUM.out; omega)).mono ?_
    rintro e w4 ⟨he, b4⟩
    obtain ⟨v, bb, he2⟩ : ∃ v bb, e = .returned (.tuple #[.int .i64 v, .bool bb]) := ⟨_, _, he⟩
    have HE := Lib.hid (he.symm.trans he2)
    subst he2
    clear he
    go_wp2_with fail
    refine (told_val _ _ _ _).mono ?_
    rintro e w5 ⟨⟨r0, r1, rfl, hr0, hr1⟩, b5⟩
    have HR0 := Lib.hid hr0
    have HR1 := Lib.hid hr1
    clear hr0 hr1
    have k5 := blk_below (blk_below K3.out b4) b5
    have b45 := b4.trans (b5.mono b4.size)
    have HB45 := Lib.hid b45
    clear b4 b5 b45
    have v0 := (blk_cell k5 0).trans rfl
    have v1 := (blk_cell k5 1).trans rfl
    have f0 := blk_frozen k5 0
    have f1 := blk_frozen k5 1
    have K5 := Lib.hid k5
    have BL := Lib.hid (HB45.out)
    clear k5
    go_wp2
    refine bodyPost_ret (results_ct rfl _ _ b 42 _ (0, 0) _ rfl (two_set K5.out _ _) Try.underlying42 rfl (by kernel_rfl)) rfl ?_
    have q1 := HS.out
    have q2 := S2.out
    have q3 := S3.out
    have q4 := BL.out.size
    have q5 := HBD.out
    refine ⟨?_, by simp [World.setCell]; omega, H.out.joinset HB.out (R3'.out.below BL.out) (q := b) (by omega) (by omega) ?_ ?_⟩
    · (have hE : toldN (sumV M) = v ∧ inR (sumV M) = bb := by simpa using HE.out
       have h0 := HR0.out
       have h1 := HR1.out
       have hn := HN.out
       have hs := HSUM.out.2.2
       have hl : (M.map (·.2)).length = nM := by rw [List.length_map, hn]
       have e : readV 1 tr (M.map (·.2)) = (r0, r1) := by
         rw [h0, h1, ← hE.1, ← hE.2]
         unfold readV toldN sumV
         rw [if_pos rfl]
         cases inR (M.map (·.2)).sum <;> simp
       rw [e]
       simp)
    · exact ((Kept.refl _ (fun k => k = b)).setCell (p := ⟨b, 0, none⟩) (.inl rfl) _).setCell (p := ⟨b, 1, none⟩) (.inl rfl) _
    · exact ((Below.refl 0 _).setCell (p := ⟨b, 0, none⟩) (Nat.zero_le _) _).setCell (p := ⟨b, 1, none⟩) (Nat.zero_le _) _
  · go_wp2_with fail
    refine (wide_mean R3'.out.wide (n := (nM : Int)) (by have := HN.out; have := HFEW.out; constructor <;> omega) (by have := HSUM.out; omega) (by have := HSUM.out; omega)).mono ?_
    rintro e w4 ⟨he, b4⟩
    obtain ⟨v, bb, he2⟩ : ∃ v bb, e = .returned (.tuple #[.int .i64 v, .bool bb]) := ⟨_, _, he⟩
    have HE := Lib.hid (he.symm.trans he2)
    subst he2
    clear he
    go_wp2_with fail
    refine (told_val _ _ _ _).mono ?_
    rintro e w5 ⟨⟨r0, r1, rfl, hr0, hr1⟩, b5⟩
    have HR0 := Lib.hid hr0
    have HR1 := Lib.hid hr1
    clear hr0 hr1
    have k5 := blk_below (blk_below K3.out b4) b5
    have b45 := b4.trans (b5.mono b4.size)
    have HB45 := Lib.hid b45
    clear b4 b5 b45
    have v0 := (blk_cell k5 0).trans rfl
    have v1 := (blk_cell k5 1).trans rfl
    have f0 := blk_frozen k5 0
    have f1 := blk_frozen k5 1
    have K5 := Lib.hid k5
    have BL := Lib.hid (HB45.out)
    clear k5
    go_wp2
    refine bodyPost_ret (results_ct rfl _ _ b 42 _ (0, 0) _ rfl (two_set K5.out _ _) Try.underlying42 rfl (by kernel_rfl)) rfl ?_
    have q1 := HS.out
    have q2 := S2.out
    have q3 := S3.out
    have q4 := BL.out.size
    have q5 := HBD.out
    refine ⟨?_, by simp [World.setCell]; omega, H.out.joinset HB.out (R3'.out.below BL.out) (q := b) (by omega) (by omega) ?_ ?_⟩
    · (have hE : (if (nM : Int) < 1 then 0 else toldN (sumV M / (nM : Int))) = v ∧ (if (nM : Int) < 1 then false else inR (sumV M / (nM : Int))) = bb := by simpa using HE.out
       have h0 := HR0.out
       have h1 := HR1.out
       have hn := HN.out
       have hs := HSUM.out.2.2
       have hl : (M.map (·.2)).length = nM := by rw [List.length_map, hn]
       have e : readV 2 tr (M.map (·.2)) = (r0, r1) := by
         rw [h0, h1, ← hE.1, ← hE.2]
         clear hE h0 h1
         by_cases hz : nM = 0
         · subst hz; simp [readV, hl]
         · have h5 := hs (by omega)
           rw [hn] at h5
           have hz1 : ¬ (nM : Int) < 1 := by omega
           have hx : readV 2 tr (M.map (·.2)) = (0, (M.map (·.2)).sum / (nM : Int)) := by simp [readV, hl, hz]
           rw [hx, if_neg hz1, if_neg hz1]
           unfold toldN sumV
           rw [h5]
           simp
       rw [e]
       simp)
    · exact ((Kept.refl _ (fun k => k = b)).setCell (p := ⟨b, 0, none⟩) (.inl rfl) _).setCell (p := ⟨b, 1, none⟩) (.inl rfl) _
    · exact ((Below.refl 0 _).setCell (p := ⟨b, 0, none⟩) (Nat.zero_le _) _).setCell (p := ⟨b, 1, none⟩) (Nat.zero_le _) _
  · go_wp2_with fail
    refine (ran_best R3'.out (by omega)).mono ?_
    rintro e w4 ⟨he, b4⟩
    obtain ⟨v, bb, he2⟩ : ∃ v bb, e = .returned (.tuple #[.int .i64 v, .bool bb]) := ⟨_, _, he⟩
    have HE := Lib.hid (he.symm.trans he2)
    subst he2
    clear he
    go_wp2_with fail
    refine (told_val _ _ _ _).mono ?_
    rintro e w5 ⟨⟨r0, r1, rfl, hr0, hr1⟩, b5⟩
    have HR0 := Lib.hid hr0
    have HR1 := Lib.hid hr1
    clear hr0 hr1
    have k5 := blk_below (blk_below K3.out b4) b5
    have b45 := b4.trans (b5.mono b4.size)
    have HB45 := Lib.hid b45
    clear b4 b5 b45
    have v0 := (blk_cell k5 0).trans rfl
    have v1 := (blk_cell k5 1).trans rfl
    have f0 := blk_frozen k5 0
    have f1 := blk_frozen k5 1
    have K5 := Lib.hid k5
    have BL := Lib.hid (HB45.out)
    clear k5
    go_wp2
    refine bodyPost_ret (results_ct rfl _ _ b 42 _ (0, 0) _ rfl (two_set K5.out _ _) Try.underlying42 rfl (by kernel_rfl)) rfl ?_
    have q1 := HS.out
    have q2 := S2.out
    have q3 := S3.out
    have q4 := BL.out.size
    have q5 := HBD.out
    refine ⟨?_, by simp [World.setCell]; omega, H.out.joinset HB.out (R3'.out.below BL.out) (q := b) (by omega) (by omega) ?_ ?_⟩
    · (have hE : bestV (decide ((3 : Int) = 4)) (M.map (·.2)) = v ∧ some? (M.map (·.2)) = bb := by simpa using HE.out
       have h0 := HR0.out
       have h1 := HR1.out
       have hn := HN.out
       have hs := HSUM.out.2.2
       have hl : (M.map (·.2)).length = nM := by rw [List.length_map, hn]
       have e : readV 3 tr (M.map (·.2)) = (r0, r1) := by
         rw [h0, h1, ← hE.1, ← hE.2]
         clear hE h0 h1
         by_cases hz : nM = 0
         · subst hz; simp [readV, some?, hl]
         · have hp : 0 < nM := by omega
           have hx : readV 3 tr (M.map (·.2)) = (0, bestV (decide ((3 : Int) = 4)) (M.map (·.2))) := by simp [readV, hl, hz]
           have hy : some? (M.map (·.2)) = true := by unfold some?; rw [hl]; exact decide_eq_true hp
           rw [hx, hy]
           simp
       rw [e]
       simp)
    · exact ((Kept.refl _ (fun k => k = b)).setCell (p := ⟨b, 0, none⟩) (.inl rfl) _).setCell (p := ⟨b, 1, none⟩) (.inl rfl) _
    · exact ((Below.refl 0 _).setCell (p := ⟨b, 0, none⟩) (Nat.zero_le _) _).setCell (p := ⟨b, 1, none⟩) (Nat.zero_le _) _
  · go_wp2_with fail
    refine (ran_best R3'.out (by omega)).mono ?_
    rintro e w4 ⟨he, b4⟩
    obtain ⟨v, bb, he2⟩ : ∃ v bb, e = .returned (.tuple #[.int .i64 v, .bool bb]) := ⟨_, _, he⟩
    have HE := Lib.hid (he.symm.trans he2)
    subst he2
    clear he
    go_wp2_with fail
    refine (told_val _ _ _ _).mono ?_
    rintro e w5 ⟨⟨r0, r1, rfl, hr0, hr1⟩, b5⟩
    have HR0 := Lib.hid hr0
    have HR1 := Lib.hid hr1
    clear hr0 hr1
    have k5 := blk_below (blk_below K3.out b4) b5
    have b45 := b4.trans (b5.mono b4.size)
    have HB45 := Lib.hid b45
    clear b4 b5 b45
    have v0 := (blk_cell k5 0).trans rfl
    have v1 := (blk_cell k5 1).trans rfl
    have f0 := blk_frozen k5 0
    have f1 := blk_frozen k5 1
    have K5 := Lib.hid k5
    have BL := Lib.hid (HB45.out)
    clear k5
    go_wp2
    refine bodyPost_ret (results_ct rfl _ _ b 42 _ (0, 0) _ rfl (two_set K5.out _ _) Try.underlying42 rfl (by kernel_rfl)) rfl ?_
    have q1 := HS.out
    have q2 := S2.out
    have q3 := S3.out
    have q4 := BL.out.size
    have q5 := HBD.out
    refine ⟨?_, by simp [World.setCell]; omega, H.out.joinset HB.out (R3'.out.below BL.out) (q := b) (by omega) (by omega) ?_ ?_⟩
    · (have hE : bestV (decide ((4 : Int) = 4)) (M.map (·.2)) = v ∧ some? (M.map (·.2)) = bb := by simpa using HE.out
       have h0 := HR0.out
       have h1 := HR1.out
       have hn := HN.out
       have hs := HSUM.out.2.2
       have hl : (M.map (·.2)).length = nM := by rw [List.length_map, hn]
       have e : readV 4 tr (M.map (·.2)) = (r0, r1) := by
         rw [h0, h1, ← hE.1, ← hE.2]
         clear hE h0 h1
         by_cases hz : nM = 0
         · subst hz; simp [readV, some?, hl]
         · have hp : 0 < nM := by omega
           have hx : readV 4 tr (M.map (·.2)) = (0, bestV (decide ((4 : Int) = 4)) (M.map (·.2))) := by simp [readV, hl, hz]
           have hy : some? (M.map (·.2)) = true := by unfold some?; rw [hl]; exact decide_eq_true hp
           rw [hx, hy]
           simp
       rw [e]
       simp)
    · exact ((Kept.refl _ (fun k => k = b)).setCell (p := ⟨b, 0, none⟩) (.inl rfl) _).setCell (p := ⟨b, 1, none⟩) (.inl rfl) _
    · exact ((Below.refl 0 _).setCell (p := ⟨b, 0, none⟩) (Nat.zero_le _) _).setCell (p := ⟨b, 1, none⟩) (Nat.zero_le _) _
  · go_wp2_with fail
    refine (fix_Whole.calls (nM : Int) ((nM : Int) * 1000000) _ (by have := HN.out; have := HFEW.out; unfold fix_Whole.f; rw [if_pos (by constructor <;> omega)]; unfold heldI; rw [if_neg (by omega), if_neg (by omega)])).mono ?_
    rintro e w4 ⟨rfl, b4⟩
    have k4 := blk_below K3.out b4
    have HB45 := Lib.hid b4
    clear b4
    have v0 := (blk_cell k4 0).trans rfl
    have v1 := (blk_cell k4 1).trans rfl
    have f0 := blk_frozen k4 0
    have f1 := blk_frozen k4 1
    have K5 := Lib.hid k4
    have BL := Lib.hid (HB45.out)
    clear k4
    go_wp2
    refine bodyPost_ret (results_ct rfl _ _ b 42 _ (0, 0) _ rfl (two_set K5.out _ _) Try.underlying42 rfl (by kernel_rfl)) rfl ?_
    have q1 := HS.out
    have q2 := S2.out
    have q3 := S3.out
    have q4 := BL.out.size
    have q5 := HBD.out
    refine ⟨?_, by simp [World.setCell]; omega, H.out.joinset HB.out (R3'.out.below BL.out) (q := b) (by omega) (by omega) ?_ ?_⟩
    · (have hn := HN.out
       have e : readV 5 tr (M.map (·.2)) = (0, (nM : Int) * 1000000) := by
         unfold readV
         rw [if_neg (by decide), if_pos rfl, List.length_map, hn]
       rw [e]
       simp)
    · exact ((Kept.refl _ (fun k => k = b)).setCell (p := ⟨b, 0, none⟩) (.inl rfl) _).setCell (p := ⟨b, 1, none⟩) (.inl rfl) _
    · exact ((Below.refl 0 _).setCell (p := ⟨b, 0, none⟩) (Nat.zero_le _) _).setCell (p := ⟨b, 1, none⟩) (Nat.zero_le _) _
  · go_wp2
    go_region_held3 (fun w' => w'.cell? ⟨g, 10, none⟩ = some O ∧ w'.cell? ⟨g, 4, none⟩ = some (.int .i64 tr)) (first | exact ⟨e10, e4⟩ | (simp [go_sem, d10, d4]; done)) (first
      | (go_at_call 36; refine (ran_by (R3'.out.below (Below.refl _ _).drew) rfl tr).mono ?_; rintro e w4 ⟨⟨S, hS1, hS2, he⟩, b4⟩; obtain ⟨v, bb, he2⟩ : ∃ v bb, e = .returned (.tuple #[.int .i64 v, .bool bb]) := ⟨_, _, he⟩; have HE := Lib.hid (he.symm.trans he2); subst he2; clear he; have e10 := (b4.cell (p := ⟨g, 10, none⟩) (by have := R3'.out.lt; simpa using this)).trans d10; have e4 := (b4.cell (p := ⟨g, 4, none⟩) (by have := R3'.out.lt; simpa using this)).trans d4; have B4 := Lib.hid b4; have HSS := Lib.hid (srt_unique hS1 hS2); clear b4 hS1 hS2))
    have b4 := (Below.refl _ _).drew.trans B4.out
    go_wp2_with fail
    refine (told_val _ _ _ _).mono ?_
    rintro e w5 ⟨⟨r0, r1, rfl, hr0, hr1⟩, b5⟩
    have HR0 := Lib.hid hr0
    have HR1 := Lib.hid hr1
    clear hr0 hr1
    have k5 := blk_below (blk_below K3.out b4) b5
    have b45 := b4.trans (b5.mono b4.size)
    have HB45 := Lib.hid b45
    clear b4 b5 b45
    have v0 := (blk_cell k5 0).trans rfl
    have v1 := (blk_cell k5 1).trans rfl
    have f0 := blk_frozen k5 0
    have f1 := blk_frozen k5 1
    have K5 := Lib.hid k5
    have BL := Lib.hid (HB45.out)
    clear k5
    go_wp2
    refine bodyPost_ret (results_ct rfl _ _ b 42 _ (0, 0) _ rfl (two_set K5.out _ _) Try.underlying42 rfl (by kernel_rfl)) rfl ?_
    have q1 := HS.out
    have q2 := S2.out
    have q3 := S3.out
    have q4 := BL.out.size
    have q5 := HBD.out
    refine ⟨?_, by simp [World.setCell]; omega, H.out.joinset HB.out (R3'.out.below BL.out) (q := b) (by omega) (by omega) ?_ ?_⟩
    · (have hE : byV S tr = v ∧ askB S tr = bb := by simpa using HE.out
       have h0 := HR0.out
       have h1 := HR1.out
       have hn := HN.out
       have hs := HSUM.out.2.2
       have hl : (M.map (·.2)).length = nM := by rw [List.length_map, hn]
       have e : readV 6 tr (M.map (·.2)) = (r0, r1) := by
         have hS := HSS.out
         have hr : 1 ≤ tr ∧ tr ≤ 100000000 := by have := HR.out; simpa using this
         rw [h0, h1, ← hE.1, ← hE.2, hS]
         clear hE h0 h1
         have hk : (srt (M.map (·.2))).length = nM := by rw [srt_len, hl]
         by_cases hz : nM = 0
         · have hq : askB (srt (M.map (·.2))) tr = false := decide_eq_false (by omega)
           have hx : readV 6 tr (M.map (·.2)) = (1, 0) := by simp [readV, hl, hz]
           rw [hx, hq]
           simp
         · have hq : askB (srt (M.map (·.2))) tr = true := decide_eq_true (by omega)
           have hx : readV 6 tr (M.map (·.2)) = (0, byV (srt (M.map (·.2))) tr) := by simp [readV, hl, hz]
           rw [hx, hq]
           simp
       rw [e]
       simp)
    · exact ((Kept.refl _ (fun k => k = b)).setCell (p := ⟨b, 0, none⟩) (.inl rfl) _).setCell (p := ⟨b, 1, none⟩) (.inl rfl) _
    · exact ((Below.refl 0 _).setCell (p := ⟨b, 0, none⟩) (Nat.zero_le _) _).setCell (p := ⟨b, 1, none⟩) (Nat.zero_le _) _
end
end Go.Proofs.Ytgfnlhigmncdmaa

end
section
namespace Go.Proofs.Ytgfnlhigmncdmaa
set_option linter.unusedVariables false
set_option linter.unusedSimpArgs false
open Go.RowKit Go.Proofs.Ytgfnlhigmncdmaa.XMono Go.Proofs.YtgfnlhigmncdmaaW.PrintWords Go.Proofs.YtgfnlhigmncdmaaW.PrintLast Go.Proofs.YtgfnlhigmncdmaaW.PrintMore

/-- A sample as the printed texts name it. -/
def toS (y : Int × Int) : XWinA.S38 := ⟨y.1, y.2⟩
section
variable {w0 w w' : World} {g gr : Nat} {B O : Value} {ok Fr Fb Fo : Nat → Prop} {tm ta ts tr ck : Int} {bg : Bool} {L : List (Int × Int)} {N : Int}
end
end Go.Proofs.Ytgfnlhigmncdmaa

end
section
namespace Go.Proofs.Ytgfnlhigmncdmaa
set_option linter.unusedVariables false
set_option linter.unusedSimpArgs false
open Go.RowKit Go.Proofs.Ytgfnlhigmncdmaa.XRef01 Go.Proofs.YtgfnlhigmncdmaaW.PrintWords Go.Proofs.YtgfnlhigmncdmaaW.PrintLast Go.Proofs.YtgfnlhigmncdmaaW.PrintMore

end Go.Proofs.Ytgfnlhigmncdmaa

end
section
namespace Go.Proofs.Ytgfnlhigmncdmaa
set_option linter.unusedVariables false
set_option linter.unusedSimpArgs false
open Go.RowKit Go.Proofs.YtgfnlhigmncdmaaW.PrintWords Go.Proofs.YtgfnlhigmncdmaaW.PrintLast Go.Proofs.YtgfnlhigmncdmaaW.PrintMore

/-- The reference's window at block h has taken all these samples. -/
structure RefW (w : World) (h : Nat) (ok : Nat → Prop) (tm ta ts tr ck : Int) (bg : Bool) (All : List (Int × Int)) : Prop where
  ex : ∃ A c, w.heap[h]? = some (.cells #[.int .i64 tm, .int .i64 ta, .int .i64 ts, .int .i64 tr, .slice A All.length c, .int .i64 ck, .bool bg] 36 (0, 0)) ∧ Kd.Q XWinA.k38 38 w 0 ok (.slice A All.length c) (All.map toS)
  away : ∀ k, ok k → k ≠ h
  lt : h < w.heap.size
section
variable {w w' : World} {h : Nat} {ok : Nat → Prop} {tm ta ts tr ck : Int} {bg : Bool} {All : List (Int × Int)}
theorem RefW.below (i : RefW w h ok tm ta ts tr ck bg All) (hb : Below w.heap.size w w') : RefW w' h ok tm ta ts tr ck bg All := by
  obtain ⟨⟨A, c, h1, h2⟩, h3, h4⟩ := i
  exact ⟨⟨A, c, (hb.block h h4).trans h1, Kd.Q_below h2 hb⟩, h3, Nat.lt_of_lt_of_le h4 hb.size⟩
theorem RefW.kept {S : Nat → Prop} (i : RefW w h ok tm ta ts tr ck bg All) (hk : Kept w w' S) (hg : ¬ S h) (hs : ∀ k, ok k → ¬ S k) : RefW w' h ok tm ta ts tr ck bg All := by
  obtain ⟨⟨A, c, h1, h2⟩, h3, h4⟩ := i
  exact ⟨⟨A, c, blk_kept h1 hk hg, Kd.Q_kept h2 hk hs⟩, h3, Nat.lt_of_lt_of_le h4 hk.1⟩
theorem RefW.tight (i : RefW w h ok tm ta ts tr ck bg All) : RefW w h (fun k => ok k ∧ k < w.heap.size) tm ta ts tr ck bg All := by
  obtain ⟨⟨A, c, h1, h2⟩, h3, h4⟩ := i
  exact ⟨⟨A, c, h1, Kd.Q_mono (Kd.Q_bound h2) (fun k hk => ⟨hk.1, hk.2.2.1⟩)⟩, fun k hk => h3 k hk.1, h4⟩
end
end Go.Proofs.Ytgfnlhigmncdmaa

end
section
namespace Go.Proofs.Ytgfnlhigmncdmaa
set_option linter.unusedVariables false
set_option linter.unusedSimpArgs false
open Go.RowKit Go.Proofs.Ytgfnlhigmncdmaa.XMono Go.Proofs.YtgfnlhigmncdmaaW.PrintWords Go.Proofs.YtgfnlhigmncdmaaW.PrintLast Go.Proofs.YtgfnlhigmncdmaaW.PrintMore

/-- The terms that are right. -/
def RightT (tm ta ts tr : Int) : Prop := 0 ≤ tm ∧ 1 ≤ ta ∧ ta ≤ 6 ∧ 1 ≤ ts ∧ ts ≤ 604800 ∧ (ta = 6 → 1 ≤ tr ∧ tr ≤ 100000000) ∧ (ta ≠ 6 → tr = 0)
instance (tm ta ts tr : Int) : Decidable (RightT tm ta ts tr) := by unfold RightT; infer_instance
theorem right_prog (tm ta ts tr : Int) : XWinA.window_Right.f tm ta ts tr = some (decide (RightT tm ta ts tr)) := by
  unfold XWinA.window_Right.f RightT
  by_cases h6 : ta = 6
  · rw [if_pos h6]
    by_cases h1 : tr ≥ 1
    · rw [if_pos h1]
      by_cases h2 : tm ≥ 0 <;> by_cases h3 : ta ≥ 1 <;> by_cases h4 : ta ≤ 6 <;> by_cases h5 : ts ≥ 1 <;> by_cases h7 : ts ≤ 604800 <;> simp [*] <;> omega
    · rw [if_neg h1]
      by_cases h2 : tm ≥ 0 <;> by_cases h3 : ta ≥ 1 <;> by_cases h4 : ta ≤ 6 <;> by_cases h5 : ts ≥ 1 <;> by_cases h7 : ts ≤ 604800 <;> simp [*] <;> omega
  · rw [if_neg h6]
    by_cases h2 : tm ≥ 0 <;> by_cases h3 : ta ≥ 1 <;> by_cases h4 : ta ≤ 6 <;> by_cases h5 : ts ≥ 1 <;> by_cases h7 : ts ≤ 604800 <;> simp [*] <;> try omega
    rw [Bool.eq_iff_iff]
    simp
theorem ran_made {w w' : World} {g gr : Nat} {tm ta ts tr : Int} {B O : Value} {Fb Fo : Nat → Prop} (hb : w'.heap[g]? = some (.cells (winCells gr tm ta ts tr 0 false 0 0 B O) 69 (0, 0))) (hr : RingIsS w' gr (fun _ => False) 4096 [])
    (hB : BestIs w' ta B Fb [] 0) (hO : OrderIs w' ta O Fo []) (h0 : w.heap.size ≤ gr) (h1 : gr < g) (hF : ∀ k, Fb k ∨ Fo k → g < k ∧ k < w'.heap.size) (hn : ∀ k, Fb k → ¬ Fo k) (bel : Below w.heap.size w w') : RanL w w' (fun _ => False) g gr B O tm ta ts tr 0 false [] 0 := by
  have hl := blk_lt hb
  refine ⟨⟨fun k => k = gr, Fb, Fo, ⟨⟨0, 0, ⟨rfl, rfl⟩, hb⟩, ⟨_, hr, rfl, fun k hk => hk.elim⟩, hB, hO, ?_, ?_⟩, ?_⟩, Kept.of_below bel _, bel.mono (Nat.zero_le _)⟩
  · rintro k (hk | hk)
    · subst hk; omega
    · have := hF k hk; omega
  · intro k
    refine ⟨fun hk => ⟨fun h => ?_, fun h => ?_⟩, hn k⟩
    · have := hF k (.inl h); omega
    · have := hF k (.inr h); omega
  · rintro k (hk | hk | hk)
    · exact .inr (by omega)
    · exact .inr (by omega)
    · have := hF k hk; exact .inr (by omega)
set_option maxHeartbeats 8000000 in
set_option maxRecDepth 100000 in
theorem win_new {tm ta ts tr : Int} (w : World) (h : RightT tm ta ts tr) : Calls Try.prog 9 #[.agg #[.int .i64 tm, .int .i64 ta, .int .i64 ts, .int .i64 tr]] w fun e w' =>
    ∃ g gr B O, e = .returned (.tuple #[.pointer (some ⟨g, 0, none⟩), .int .i64 0]) ∧ w.heap.size ≤ w'.heap.size ∧ RanL w w' (fun _ => False) g gr B O tm ta ts tr 0 false [] 0 := by
  have H := Lib.hid h
  clear h
  obtain ⟨w1, hw1⟩ : ∃ w1, w.alloc (.cells #[.int .i64 tm, .int .i64 ta, .int .i64 ts, .int .i64 tr] 27) = w1 := ⟨_, rfl⟩
  obtain ⟨b, hbdef⟩ : ∃ b, w.heap.size = b := ⟨_, rfl⟩
  have hbel : Below w.heap.size w w1 := by subst hw1; exact below_alloc (Below.refl _ _) _
  have hblk : w1.heap[b]? = some (.cells #[.int .i64 tm, .int .i64 ta, .int .i64 ts, .int .i64 tr] 27 (0, 0)) := by subst hw1 hbdef; exact blk_new _ _
  have HB := Lib.hid hbel
  have HK := Lib.hid hblk
  have c0 := (blk_cell hblk 0).trans rfl
  have c1 := (blk_cell hblk 1).trans rfl
  have c2 := (blk_cell hblk 2).trans rfl
  have c3 := (blk_cell hblk 3).trans rfl
  clear hbel hblk
  go_enter Try.func9, Try.ntmps9
  go_wp2_with fail
  refine (XWinA.window_Right.calls tm ta ts tr true _ (by rw [right_prog, decide_eq_true H.out])).mono ?_
  rintro e w2 ⟨rfl, b2⟩
  have B2 := Lib.hid b2
  have K2 := Lib.hid (blk_below HK.out b2)
  clear b2 c0 c1 c2 c3
  go_wp2_with fail
  refine (ringsS_new 4096 w2 (by decide) (by decide)).mono ?_
  rintro e w3 ⟨gr, rfl, hgr, r3, b3⟩
  have k3 := blk_below K2.out b3
  have c0 := (blk_cell k3 0).trans rfl
  have c1 := (blk_cell k3 1).trans rfl
  have c2 := (blk_cell k3 2).trans rfl
  have c3 := (blk_cell k3 3).trans rfl
  have K3 := Lib.hid k3
  have R3 := Lib.hid r3
  have B3 := Lib.hid b3
  have HGR := Lib.hid hgr
  clear k3 r3 b3 hgr
  obtain ⟨w4, hw4⟩ : ∃ w4, w3.alloc (.cells #[.pointer (some ⟨gr, 0, none⟩), .int .i64 tm, .int .i64 ta, .int .i64 ts, .int .i64 tr, .int .i64 0, .bool false, .int .u64 0, .int .u64 0, .pointer none, .pointer none] 69) = w4 := ⟨_, rfl⟩
  obtain ⟨g, hg⟩ : ∃ g, w3.heap.size = g := ⟨_, rfl⟩
  have b4 : Below w3.heap.size w3 w4 := by subst hw4; exact below_alloc (Below.refl _ _) _
  have k4 : w4.heap[g]? = some (.cells #[.pointer (some ⟨gr, 0, none⟩), .int .i64 tm, .int .i64 ta, .int .i64 ts, .int .i64 tr, .int .i64 0, .bool false, .int .u64 0, .int .u64 0, .pointer none, .pointer none] 69 (0, 0)) := by subst hw4 hg; exact blk_new _ _
  have HG := Lib.hid hg
  have x1 := (b4.cell (p := ⟨b, 1, none⟩) (blk_lt K3.out)).trans c1
  have d9 := (blk_cell k4 9).trans rfl
  have d10 := (blk_cell k4 10).trans rfl
  have f9 := blk_frozen k4 9
  have f10 := blk_frozen k4 10
  have K4 := Lib.hid k4
  have B4 := Lib.hid b4
  have R4 := Lib.hid (R3.out.below b4)
  have Q := Lib.hid (show w.heap.size ≤ w2.heap.size from Nat.le_trans HB.out.size B2.out.size)
  have BW := Lib.hid (show Below w.heap.size w w4 from ((HB.out.trans (B2.out.mono HB.out.size)).trans (B3.out.mono (by have := HB.out.size; have := B2.out.size; omega))).trans (b4.mono (by have := HB.out.size; have := B2.out.size; have := B3.out.size; omega)))
  have HLT := Lib.hid (show gr < g ∧ g < w4.heap.size from ⟨by rw [← hg]; exact R3.out.lt, blk_lt k4⟩)
  clear k4 b4
  have HGR2 := Lib.hid (show w.heap.size ≤ gr from Nat.le_trans Q.out HGR.out)
  go_upto_region 5 with fail
  obtain ⟨-, ha1, ha2, -, -, -, -⟩ := H.out
  obtain h5 | h5 | h5 | rfl : ta = 3 ∨ ta = 4 ∨ (ta = 1 ∨ ta = 2 ∨ ta = 5) ∨ ta = 6 := by omega
  · subst h5
    clear ha1 ha2
    go_wp2_with fail
    refine (is_new false w4).mono ?_
    rintro e w5 ⟨gb, rfl, hgb, m5, b5⟩
    have k5 := blk_below K4.out b5
    have y9 := (blk_cell k5 9).trans rfl
    have z9 := blk_frozen k5 9
    have K5 := Lib.hid k5
    have M5 := Lib.hid m5
    have B5 := Lib.hid b5
    have HGB := Lib.hid hgb
    clear k5 m5 b5 hgb
    go_wp2
    go_ret2
    have hk : Kept w5 (w5.setCell ⟨g, 9, none⟩ (.pointer (some ⟨gb, 0, none⟩))) (fun k => k = g) := (Kept.refl w5 (fun k => k = g)).setCell (p := ⟨g, 9, none⟩) (.inl rfl) _
    have l1 := HLT.out
    have l2 := HGB.out
    have l3 := HGR2.out
    have l4 := BW.out.size
    have l5 := B5.out.size
    have l6 := M5.out.lt
    refine ⟨g, gr, _, _, by simp, by simp [World.setCell]; omega, ran_made (blk_set K5.out 9 _) ((R4.out.below B5.out).kept hk (by omega) (fun _ h => h.elim)) (Fb := fun k => k = gb) (Fo := fun _ => False) (.inl ⟨.inl rfl, gb, _, 0, rfl, M5.out.kept hk (by omega) (fun _ h => h.elim), by simp, rfl, fun _ h => h.elim⟩) (.inr ⟨by decide, rfl⟩) HGR2.out HLT.out.1 ?_ (fun _ _ h => h) ?_⟩
    · rintro k (h | h)
      · subst h; simp [World.setCell]; omega
      · exact h.elim
    · exact (BW.out.trans (B5.out.mono BW.out.size)).setCell (p := ⟨g, 9, none⟩) (by show _ ≤ g; omega) _
  · subst h5
    clear ha1 ha2
    go_wp2_with fail
    refine (is_new true w4).mono ?_
    rintro e w5 ⟨gb, rfl, hgb, m5, b5⟩
    have k5 := blk_below K4.out b5
    have y9 := (blk_cell k5 9).trans rfl
    have z9 := blk_frozen k5 9
    have K5 := Lib.hid k5
    have M5 := Lib.hid m5
    have B5 := Lib.hid b5
    have HGB := Lib.hid hgb
    clear k5 m5 b5 hgb
    go_wp2
    go_ret2
    have hk : Kept w5 (w5.setCell ⟨g, 9, none⟩ (.pointer (some ⟨gb, 0, none⟩))) (fun k => k = g) := (Kept.refl w5 (fun k => k = g)).setCell (p := ⟨g, 9, none⟩) (.inl rfl) _
    have l1 := HLT.out
    have l2 := HGB.out
    have l3 := HGR2.out
    have l4 := BW.out.size
    have l5 := B5.out.size
    have l6 := M5.out.lt
    refine ⟨g, gr, _, _, by simp, by simp [World.setCell]; omega, ran_made (blk_set K5.out 9 _) ((R4.out.below B5.out).kept hk (by omega) (fun _ h => h.elim)) (Fb := fun k => k = gb) (Fo := fun _ => False) (.inl ⟨.inr rfl, gb, _, 0, rfl, M5.out.kept hk (by omega) (fun _ h => h.elim), by simp, rfl, fun _ h => h.elim⟩) (.inr ⟨by decide, rfl⟩) HGR2.out HLT.out.1 ?_ (fun _ _ h => h) ?_⟩
    · rintro k (h | h)
      · subst h; simp [World.setCell]; omega
      · exact h.elim
    · exact (BW.out.trans (B5.out.mono BW.out.size)).setCell (p := ⟨g, 9, none⟩) (by show _ ≤ g; omega) _
  · rcases h5 with rfl | rfl | rfl
    all_goals
      clear ha1 ha2
      go_wp2
      go_ret2
      have l1 := HLT.out
      have l3 := HGR2.out
      have l4 := BW.out.size
      exact ⟨g, gr, _, _, by simp, by omega, ran_made K4.out R4.out (Fb := fun _ => False) (Fo := fun _ => False) (.inr ⟨by omega, rfl⟩) (.inr ⟨by omega, rfl⟩) HGR2.out HLT.out.1 (fun k h => by rcases h with h | h <;> exact h.elim) (fun _ _ h => h) BW.out⟩
  · clear ha1 ha2
    go_wp2_with fail
    refine (rank_new w4).mono ?_
    rintro e w5 ⟨gb, rfl, hgb, m5, b5⟩
    have k5 := blk_below K4.out b5
    have y10 := (blk_cell k5 10).trans rfl
    have z10 := blk_frozen k5 10
    have K5 := Lib.hid k5
    have M5 := Lib.hid m5
    have B5 := Lib.hid b5
    have HGB := Lib.hid hgb
    clear k5 m5 b5 hgb
    go_wp2
    go_ret2
    have hk : Kept w5 (w5.setCell ⟨g, 10, none⟩ (.pointer (some ⟨gb, 0, none⟩))) (fun k => k = g) := (Kept.refl w5 (fun k => k = g)).setCell (p := ⟨g, 10, none⟩) (.inl rfl) _
    have l1 := HLT.out
    have l2 := HGB.out
    have l3 := HGR2.out
    have l4 := BW.out.size
    have l5 := B5.out.size
    have l6 := M5.out.lt
    refine ⟨g, gr, _, _, by simp, by simp [World.setCell]; omega, ran_made (blk_set K5.out 10 _) ((R4.out.below B5.out).kept hk (by omega) (fun _ h => h.elim)) (Fo := fun k => k = gb) (Fb := fun _ => False) (.inr ⟨by decide, rfl⟩) (.inl ⟨rfl, gb, _, [], rfl, M5.out.kept hk (by omega) (fun _ h => h.elim), List.Perm.refl _, rfl, fun _ h => h.elim⟩) HGR2.out HLT.out.1 ?_ (fun _ h => h.elim) ?_⟩
    · rintro k (h | h)
      · exact h.elim
      · subst h; simp [World.setCell]; omega
    · exact (BW.out.trans (B5.out.mono BW.out.size)).setCell (p := ⟨g, 10, none⟩) (by show _ ≤ g; omega) _
end Go.Proofs.Ytgfnlhigmncdmaa

end
section
namespace Go.Proofs.Ytgfnlhigmncdmaa
set_option linter.unusedVariables false
set_option linter.unusedSimpArgs false
open Go.RowKit Go.Proofs.Ytgfnlhigmncdmaa.XRef01 Go.Proofs.YtgfnlhigmncdmaaW.PrintWords Go.Proofs.YtgfnlhigmncdmaaW.PrintLast Go.Proofs.YtgfnlhigmncdmaaW.PrintMore

end Go.Proofs.Ytgfnlhigmncdmaa

end
section
namespace Go.Proofs.Ytgfnlhigmncdmaa
set_option linter.unusedVariables false
set_option linter.unusedSimpArgs false
open Go.RowKit Go.Proofs.YtgfnlhigmncdmaaW.PrintWords Go.Proofs.YtgfnlhigmncdmaaW.PrintLast Go.Proofs.YtgfnlhigmncdmaaW.PrintMore

section
variable {w w' : World} {h : Nat} {ok : Nat → Prop} {tm ta ts tr ck : Int} {bg : Bool} {All : List (Int × Int)}
end
end Go.Proofs.Ytgfnlhigmncdmaa

end
section
namespace Go.Proofs.Ytgfnlhigmncdmaa
set_option linter.unusedVariables false
set_option linter.unusedSimpArgs false
open Go.RowKit Go.Proofs.Ytgfnlhigmncdmaa.XMono Go.Proofs.YtgfnlhigmncdmaaW.PrintWords Go.Proofs.YtgfnlhigmncdmaaW.PrintLast Go.Proofs.YtgfnlhigmncdmaaW.PrintMore

/-- From a window's way to a frame: what was there is as it was. -/
theorem Ran.bel0 {w0 w : World} {g gr : Nat} {B O : Value} {tm ta ts tr ck : Int} {bg : Bool} {Lr : List (Int × Int)} {s : Int} {Lb Lo : List Int} {N : Int} (h : Ran w0 w (fun _ => False) g gr B O tm ta ts tr ck bg Lr s Lb Lo N) : Below w0.heap.size w0 w :=
  ⟨h.bel.os, h.bel.tape, h.bel.output, h.bel.size, fun k hk => h.kept.2 k hk (fun h => h)⟩
set_option maxHeartbeats 4000000 in
set_option maxRecDepth 100000 in
theorem awake08 (w : World) : Calls Try.prog 8 #[] w fun e w' => e = .returned (.bool true) ∧ Below w.heap.size w w' := by
  go_enter Try.func8, Try.ntmps8
  go_wp2_with fail
  refine (win_new (tm := 0) (ta := 1) (ts := 10) (tr := 0) w (by decide)).mono ?_
  rintro e w1 ⟨g, gr, B, O, rfl, s1, r1⟩
  have R1 := Lib.hid r1
  clear s1 r1
  go_wp2_with fail
  refine (win_put (t := 0) (x := 5) R1.out (by decide) (fun y hy => by cases hy) (fun h => by cases h) (by decide)).mono ?_
  rintro e w2 ⟨rfl, s2, r2⟩
  have R2 := Lib.hid r2
  clear s2 r2
  go_wp2_with fail
  refine (win_put (t := 4) (x := 6) R2.out (by decide) (by decide) (fun _ => by decide) (by decide)).mono ?_
  rintro e w3 ⟨rfl, s3, r3⟩
  have R3 := Lib.hid r3
  clear s3 r3
  go_wp2_with fail
  refine (win_read (t := 10) R3.out (by unfold SmpOk; decide) (by decide) (by decide) (by decide) (by decide) (by decide) (fun _ => by decide)).mono ?_
  rintro e w4 ⟨rfl, s4, r4⟩
  have R4 := Lib.hid r4.bel0
  rw [show readV 1 0 ((expP 10 10 (pushP (pushP [] (0, 5)) (4, 6))).map (·.2)) = (0, 6) by decide]
  clear s4 r4
  go_wp2
  go_ret
  exact ⟨by simp, below_alloc R4.out _⟩
end Go.Proofs.Ytgfnlhigmncdmaa

end
