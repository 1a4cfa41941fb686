/-
  RingKeeps: the law's call over what can be read as data.
-/
import Derived.Test.YtmlnbmbobkoipaaRingKeepsLaw
import Derived.Test.YtmlnbmbobkoipaaBulk
namespace Go.Proofs.Ytmlnbmbobkoipaa
open Go.RowKit Go.Proofs.Ytmlnbmbobkoipaa.XMono Go.Proofs.YtmlnbmbobkoipaaW.PrintWords Go.Proofs.YtmlnbmbobkoipaaW.PrintLast Go.Proofs.YtmlnbmbobkoipaaW.PrintMore

theorem RingKeeps_row {H : Type} {enc : TypeId × Value → H} {base : Nat} {d d2 : DataW H} {p p2 : List MemPlace} (v v2 : Value) (W : World) (hval : Value.okWide Try.prog W .any base 22 v)
    (h : DataW.Trod enc Try.prog W 0 (fun _ => true) true 22 v d p) (y : ∀ n ∈ DataW.weights Try.prog 22 d, n ≤ reachBytes) (hval2 : Value.okWide Try.prog W .any base 22 v2)
    (h2 : DataW.Trod enc Try.prog W 0 (fun _ => true) true 22 v2 d2 p2) (y2 : ∀ n ∈ DataW.weights Try.prog 22 d2, n ≤ reachBytes) :
    Calls Try.prog 9 #[v, v2] W fun e w' => e = .returned (.bool true) ∧ Below W.heap.size W w' := by
  have e : Try.prog.bytesOf 2 = 8 := by kernel_rfl
  have e2 : reachBytes = 140737488351232 := rfl
  obtain ⟨a, len, cap, rfl⟩ := WideShapes.okWide_slice Try.underlying22 hval
  obtain ⟨fuel, hf⟩ := h
  obtain ⟨s, hs, hok⟩ := opn_slice Try.underlying22 (opn_int Try.underlying2) hf y
  simp [Value.cells] at hs
  obtain ⟨rfl, rfl, rfl⟩ := hs
  obtain ⟨hl, hc⟩ := ints_c hok (by kernel_rfl)
  obtain ⟨a2, len2, cap2, rfl⟩ := WideShapes.okWide_slice Try.underlying22 hval2
  obtain ⟨fuel2, hf2⟩ := h2
  obtain ⟨s2, hs2, hok2⟩ := opn_slice Try.underlying22 (opn_int Try.underlying2) hf2 y2
  simp [Value.cells] at hs2
  obtain ⟨rfl, rfl, rfl⟩ := hs2
  obtain ⟨hl2, hc2⟩ := ints_c hok2 (by kernel_rfl)
  have h1 := hok.1
  have h3 := hok.2.2.2.1
  have h4 := hok2.1
  have h5 := hok2.2.2.2.1
  rw [e, e2] at h3 h5
  have := RingKeeps_c s.at_ s.cap (s.all.take s.len) s2.at_ s2.cap (s2.all.take s2.len) W hc (by omega) hc2 (by omega) (by omega)
  rw [hl, hl2] at this
  exact this
end Go.Proofs.Ytmlnbmbobkoipaa
