/-
  Plain laws: the kept numbers rise, begin with the best and end with the newest; turned about for the greatest. No program in sight.
-/
import Derived.Test.YtmlnbmbobkoipaaMonoPure
namespace Go.Proofs.Ytmlnbmbobkoipaa
open Go.RowKit Go.Proofs.Ytmlnbmbobkoipaa.XMono Go.Proofs.YtmlnbmbobkoipaaW.PrintWords Go.Proofs.YtmlnbmbobkoipaaW.PrintLast Go.Proofs.YtmlnbmbobkoipaaW.PrintMore

theorem keptV_eq (high : Bool) (x : Int) (L : List Int) : keptV high (x :: L) = (match keptV high L with | [] => [x] | h :: t => if beatsB high x h then x :: h :: t else h :: t) := rfl
theorem keptV_neg : ∀ L : List Int, keptV true (L.map fun x => -x) = (keptV false L).map fun x => -x
  | [] => rfl
  | x :: L => by
    have ih := keptV_neg L
    rw [List.map_cons, keptV_eq, keptV_eq, ih]
    cases keptV false L with
    | nil => rfl
    | cons h t =>
      have hb : beatsB true (-x) (-h) = beatsB false x h := by simp [beatsB]
      simp only [List.map_cons, hb]
      split <;> rfl
theorem keptV_sorted (L : List Int) : ∀ k, k + 1 < (keptV false L).length → (keptV false L).getD k 0 < (keptV false L).getD (k + 1) 0 := by
  induction L with
  | nil => intro k hk; exact absurd hk (by simp [keptV])
  | cons x L ih =>
    rw [keptV_eq]
    cases hK : keptV false L with
    | nil => intro k hk; exact absurd hk (by simp)
    | cons h t =>
      rw [hK] at ih
      simp only
      split
      · rename_i hb
        have hb' : x < h := by simpa [beatsB] using hb
        intro k hk
        cases k with
        | zero => exact hb'
        | succ k => exact ih k (by simpa using hk)
      · exact ih
theorem keptV_last (high : Bool) (v : Int) : ∀ L : List Int, ∃ P, keptV high (L ++ [v]) = P ++ [v]
  | [] => ⟨[], rfl⟩
  | x :: L => by
    obtain ⟨P, hP⟩ := keptV_last high v L
    rw [List.cons_append, keptV_eq, hP]
    cases hQ : P ++ [v] with
    | nil => simp at hQ
    | cons h t =>
      simp only
      split
      · exact ⟨x :: P, by rw [List.cons_append, hQ]⟩
      · exact ⟨P, hQ.symm⟩
theorem keptV_pos (high : Bool) (L : List Int) : (0 < (keptV high L).length) = (0 < L.length) := by
  cases L with
  | nil => rfl
  | cons x L =>
    have := List.length_pos_iff.2 (keptV_ne high x L)
    simp [this]
/-- A queue that has not let the newest go. -/
theorem keptV_lastD (high : Bool) (v : Int) (L : List Int) (h : ∃ M, L = M ++ [v]) : (keptV high L).getD ((keptV high L).length - 1) 0 = v := by
  obtain ⟨M, rfl⟩ := h
  obtain ⟨P, hP⟩ := keptV_last high v M
  rw [hP, List.getD_eq_getElem?_getD, List.getElem?_append_right (by simp)]
  simp
theorem keptV_mem (high : Bool) : ∀ (L : List Int), ∀ y ∈ keptV high L, y ∈ L
  | [] => fun y h => by cases h
  | x :: L => by
    have ih := keptV_mem high L
    intro y hy
    rw [keptV_eq] at hy
    cases hK : keptV high L with
    | nil =>
      rw [hK] at hy
      rw [List.mem_singleton.1 hy]
      exact List.mem_cons_self
    | cons h t =>
      rw [hK] at hy ih
      simp only at hy
      split at hy
      · rcases List.mem_cons.1 hy with rfl | hy
        · exact List.mem_cons_self
        · exact List.mem_cons_of_mem _ (ih y hy)
      · exact List.mem_cons_of_mem _ (ih y hy)
theorem rd_map_neg (L : List Int) (j : Nat) (h : j < L.length) : rd (L.map fun x => -x) (j : Int) = -(rd L (j : Int)) := by
  rw [rd_nat, rd_nat, List.getD_eq_getElem?_getD, List.getD_eq_getElem?_getD, List.getElem?_map, List.getElem?_eq_getElem h]
  rfl
end Go.Proofs.Ytmlnbmbobkoipaa
