/-
  MonoKept: the law's call over what can be read as data.
-/
import Derived.Test.YtmlnbmbobkoipaaMonoKeptLaw
import Derived.Test.YtmlnbmbobkoipaaBulk
namespace Go.Proofs.Ytmlnbmbobkoipaa
open Go.RowKit Go.Proofs.Ytmlnbmbobkoipaa.XMono Go.Proofs.YtmlnbmbobkoipaaW.PrintWords Go.Proofs.YtmlnbmbobkoipaaW.PrintLast Go.Proofs.YtmlnbmbobkoipaaW.PrintMore

theorem wf64 {n : Int} (h : (Lit.int .i64 n).wf = true) : -9223372036854775808 ≤ n ∧ n ≤ 9223372036854775807 := by
  simp [Lit.wf, IntKind.min, IntKind.max, IntKind.signed, IntKind.bits] at h
  omega
theorem MonoKept_row {H : Type} {enc : TypeId × Value → H} {base : Nat} {d x : DataW H} {p : List MemPlace} (v : Value) (off : Int) (W : World) (hval : Value.okWide Try.prog W .any base 22 v)
    (h : DataW.Trod enc Try.prog W 0 (fun _ => true) true 22 v d p) (y : ∀ n ∈ DataW.weights Try.prog 22 d, n ≤ reachBytes) (wf : (Lit.int .i64 off).wf = true) (hk : Rows.uptoBulkAll [d, x] ≤ 1048576) :
    Calls Try.prog 5 #[v, .int .i64 off] W fun e w' => e = .returned (.bool true) ∧ Below W.heap.size W w' := by
  obtain ⟨a, len, cap, rfl⟩ := WideShapes.okWide_slice Try.underlying22 hval
  obtain ⟨fuel, hf⟩ := h
  have hb : cap ≤ Rows.uptoBulk d := bulk_cap Try.underlying22 hf
  have hb2 := bulk_first (x := x) (d := d)
  obtain ⟨s, hs, hok⟩ := opn_slice Try.underlying22 (opn_int Try.underlying2) hf y
  simp [Value.cells] at hs
  obtain ⟨rfl, rfl, rfl⟩ := hs
  obtain ⟨hl, hc⟩ := ints_c hok (by kernel_rfl)
  have h1 := hok.1
  have h2 := hok.2.1
  simp only [maxLen] at h2
  have := MonoKept_c s.at_ s.cap (s.all.take s.len) off W hc (by omega) (by omega) (fun z hz => wf64 (hok.2.2.2.2.1 z (List.mem_of_mem_take hz))) (wf64 wf)
  rw [hl] at this
  exact this
end Go.Proofs.Ytmlnbmbobkoipaa
