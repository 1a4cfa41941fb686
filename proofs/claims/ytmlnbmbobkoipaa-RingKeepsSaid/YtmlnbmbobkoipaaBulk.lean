/-
  What the bound of an '..UptoSaid' statement gives, and a slice of whole numbers as a list. (The first two laws: after the guide's UptoLemmas.)
-/
import Derived.Test.YtmlnbmbobkoipaaRows
import Derived.Test.YtmlnbmbobkoipaaOpens
import Derived.Test.YtmlnbmbobkoipaaWWords
namespace Go.Proofs.Ytmlnbmbobkoipaa
open Go.RowKit Go.Proofs.YtmlnbmbobkoipaaW.PrintWords

theorem bulk_one {H : Type} (d : DataW H) : 1 ≤ Rows.uptoBulk d := by
  cases d with
  | lit l => cases l <;> simp [Rows.uptoBulk]
  | nil => simp [Rows.uptoBulk]
  | ptr d => simp [Rows.uptoBulk]
  | slice elems spare => simp [Rows.uptoBulk]
  | agg parts => simp [Rows.uptoBulk]
  | iface t d => simp [Rows.uptoBulk]
  | map entries => simp [Rows.uptoBulk]
  | held h => simp [Rows.uptoBulk]
theorem bulk_len {H : Type} (l : List (DataW H)) : l.length ≤ Rows.uptoBulkAll l := by
  induction l with
  | nil => simp [Rows.uptoBulkAll]
  | cons x r ih => have := bulk_one x; simp only [Rows.uptoBulkAll, List.length_cons]; omega
theorem bulk_cap {H : Type} {enc : TypeId × Value → H} {P : Program} {W : World} {t e : TypeId} {fuel len cap : Nat} {A : Option Addr} {x : DataW H × List MemPlace} (ht : P.underlying t = some (.slice e))
    (h : DataW.trod enc P W 0 (fun _ => true) true fuel t [.slice A len cap] = some x) : cap ≤ Rows.uptoBulk x.1 := by
  rcases DataW.trod_slice ht h with ⟨hc, rfl⟩ | ⟨a, l, c, elems, rest, n, rfl, hc, rfl, _, hlc, hcm, hel, h1, h2, _⟩
  · simp at hc
    obtain ⟨_, _, rfl⟩ := hc
    exact Nat.zero_le _
  · simp at hc
    obtain ⟨_, rfl, rfl⟩ := hc
    obtain ⟨hrl, _⟩ := h2 rfl
    have e1 := bulk_len (elems.map (·.1))
    have e2 := bulk_len (rest.map (·.1))
    rw [List.length_map] at e1 e2
    simp only [Rows.uptoBulk]
    omega
theorem bulk_last {H : Type} {x d : DataW H} : Rows.uptoBulk d ≤ Rows.uptoBulkAll [x, d] := by
  simp only [Rows.uptoBulkAll]
  omega
theorem bulk_first {H : Type} {x d : DataW H} : Rows.uptoBulk d ≤ Rows.uptoBulkAll [d, x] := by
  simp only [Rows.uptoBulkAll]
  omega
theorem ints_c {P : Program} {T : TypeId} {okE : World → Int → Prop} {W : World} {s : Sl Int} (hs : Sl.ok P T (fun n : Int => [.int .i64 n]) okE W s) (hcell : P.cellsOf T = 1) :
    (s.all.take s.len).length = s.len ∧ Kd.C (Kd.int .i64) W s.at_ (s.all.take s.len).length (s.all.take s.len) := by
  obtain ⟨h1, h2, h3, h4, h5, h6⟩ := hs
  have hl : (s.all.take s.len).length = s.len := by rw [List.length_take]; omega
  refine ⟨hl, rfl, by rw [hl]; simp only [maxLen] at h2; omega, fun hp => ?_⟩
  rw [hl] at hp
  rcases h6 with ⟨_, h6⟩ | ⟨a, ha, hc⟩
  · omega
  refine ⟨a, ha, fun j p hj => ⟨[.int .i64 p], rfl, rfl, fun i u hu => ?_⟩⟩
  rw [List.getElem?_take] at hj
  split at hj
  · have hz := cells_get (hc j p hj) i u hu
    rw [hcell, Addr.add_add] at hz
    exact hz
  · cases hj
end Go.Proofs.Ytmlnbmbobkoipaa
