/-
  RankBounds: the law's call over what can be read as data; and a slice of whole numbers as a list.
-/
import Derived.Test.YtfojfgnhblgckaaRankBoundsLaw
import Derived.Test.YtfojfgnhblgckaaOpens
namespace Go.Proofs.Ytfojfgnhblgckaa
open Go.RowKit Go.Proofs.YtfojfgnhblgckaaW.PrintWords Go.Proofs.YtfojfgnhblgckaaW.PrintLast Go.Proofs.YtfojfgnhblgckaaW.PrintMore

theorem ints_c {P : Program} {T : TypeId} {okE : World → Int → Prop} {W : World} {s : Sl Int} (hs : Sl.ok P T (fun n : Int => [.int .i64 n]) okE W s) (hcell : P.cellsOf T = 1) :
    (s.all.take s.len).length = s.len ∧ Kd.C (Kd.int .i64) W s.at_ (s.all.take s.len).length (s.all.take s.len) := by
  obtain ⟨h1, h2, h3, h4, h5, h6⟩ := hs
  have hl : (s.all.take s.len).length = s.len := by rw [List.length_take]; omega
  refine ⟨hl, rfl, by rw [hl]; simp only [maxLen] at h2; omega, fun hp => ?_⟩
  rw [hl] at hp
  rcases h6 with ⟨_, h6⟩ | ⟨a, ha, hc⟩
  · omega
  refine ⟨a, ha, fun j p hj => ⟨[.int .i64 p], rfl, rfl, fun i u hu => ?_⟩⟩
  rw [List.getElem?_take] at hj
  split at hj
  · have hz := cells_get (hc j p hj) i u hu
    rw [hcell, Addr.add_add] at hz
    exact hz
  · cases hj
theorem RankBounds_row {H : Type} {enc : TypeId × Value → H} {base : Nat} {d : DataW H} {p : List MemPlace} (v : Value) (pc : Int) (W : World) (hval : Value.okWide Try.prog W .any base 22 v)
    (h : DataW.Trod enc Try.prog W 0 (fun _ => true) true 22 v d p) (y : ∀ n ∈ DataW.weights Try.prog 22 d, n ≤ reachBytes) (wf : (Lit.int .i64 pc).wf = true) :
    Calls Try.prog 3 #[v, .int .i64 pc] W fun e w' => e = .returned (.bool true) ∧ Below W.heap.size W w' := by
  obtain ⟨a, len, cap, rfl⟩ := WideShapes.okWide_slice Try.underlying22 hval
  obtain ⟨fuel, hf⟩ := h
  obtain ⟨s, hs, hok⟩ := opn_slice Try.underlying22 (opn_int Try.underlying2) hf y
  simp [Value.cells] at hs
  obtain ⟨rfl, rfl, rfl⟩ := hs
  obtain ⟨hl, hc⟩ := ints_c hok (by kernel_rfl)
  have := RankBounds_c s.at_ s.cap (s.all.take s.len) pc W hc
  rw [hl] at this
  exact this
end Go.Proofs.Ytfojfgnhblgckaa
