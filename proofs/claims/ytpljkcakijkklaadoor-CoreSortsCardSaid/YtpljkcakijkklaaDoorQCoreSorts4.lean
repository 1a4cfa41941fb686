/-
  Texts of this seat, joined, less what CoreSorts does not lean on: Opens.
-/
import Derived.OpenShut
import Derived.ChangeArms
import Derived.SizedLaws
import Derived.ChangeShapes
section
namespace Go.Proofs.YtpljkcakijkklaaDoor
set_option linter.unusedVariables false
set_option linter.unusedSimpArgs false
open Go.RowKit

/-- Cells of type t that can be read are those of an x, and ok says what lies behind them. -/
def Opn (P : Program) (t : TypeId) {α : Type} (c : α → List Value) (ok : World → α → Prop) : Prop :=
  ∀ {H : Type} {enc : TypeId × Value → H} {w : World} {fuel : Nat} {cs : List Value} {x : DataW H × List MemPlace},
    DataW.trod enc P w 0 (fun _ => true) true fuel t cs = some x → (∀ n ∈ x.1.weights P t, n ≤ reachBytes) → ∃ a : α, cs = c a ∧ ok w a

theorem opn_int {P : Program} {t : TypeId} {k : IntKind} (ht : P.underlying t = some (.int k)) : Opn P t (fun n : Int => [.int k n]) (fun _ n => (Lit.int k n).wf = true) := by
  intro H enc w fuel cs x h _
  cases fuel with
  | zero => simp [DataW.trod] at h
  | succ n =>
    unfold DataW.trod at h
    rw [ht] at h
    split at h <;> simp_all
/-- A slice: header and the elements up to its capacity. -/
structure Sl (α : Type) where
  at_ : Option Addr
  len : Nat
  cap : Nat
  all : List α
def Sl.ok {α : Type} (P : Program) (e : TypeId) (c : α → List Value) (okE : World → α → Prop) (w : World) (s : Sl α) : Prop :=
  s.len ≤ s.cap ∧ s.cap ≤ maxLen ∧ s.all.length = s.cap ∧ s.cap * P.bytesOf e ≤ reachBytes ∧ (∀ z ∈ s.all, okE w z) ∧
    ((s.at_ = none ∧ s.cap = 0) ∨ ∃ a, s.at_ = some a ∧ ∀ i z, s.all[i]? = some z → w.cells? 0 (a.add (i * P.cellsOf e)) (P.cellsOf e) = some (c z))

theorem exists_list {α β : Type} (n : Nat) (R : Nat → α → Prop) (h : ∀ i, i < n → ∃ a, R i a) : ∃ l : List α, l.length = n ∧ ∀ i a, l[i]? = some a → R i a := by
  induction n with
  | zero => exact ⟨[], rfl, fun i a h => by simp at h⟩
  | succ n ih =>
    obtain ⟨l, hl, hr⟩ := ih (fun i hi => h i (by omega))
    obtain ⟨a, ha⟩ := h n (by omega)
    refine ⟨l ++ [a], by simp [hl], fun i b hb => ?_⟩
    by_cases hi : i < l.length
    · rw [List.getElem?_append_left hi] at hb
      exact hr i b hb
    · rw [List.getElem?_append_right (by omega)] at hb
      have : i - l.length = 0 := by
        rcases Nat.eq_zero_or_pos (i - l.length) with h0 | h0
        · exact h0
        · rw [List.getElem?_eq_none (by simp; omega)] at hb; cases hb
      rw [this] at hb
      simp at hb
      subst hb
      have : i = n := by omega
      subst this
      exact ha

theorem mem_weightsAll {H : Type} {P : Program} {e : TypeId} : ∀ {ds : List (DataW H)} {d : DataW H}, d ∈ ds → ∀ n ∈ d.weights P e, n ∈ DataW.weightsAll P e ds
  | [], _, h, _, _ => by cases h
  | d0 :: ds, d, h, n, hn => by
    unfold DataW.weightsAll
    rw [List.mem_append]
    rcases List.mem_cons.1 h with rfl | h
    · exact .inl hn
    · exact .inr (mem_weightsAll h n hn)

theorem Opn.map {P : Program} {t : TypeId} {α β : Type} {c : α → List Value} {ok : World → α → Prop} (h : Opn P t c ok) (f : α → β) {d : β → List Value} {okB : World → β → Prop} (hc : ∀ a, c a = d (f a)) (hok : ∀ w a, ok w a → okB w (f a)) : Opn P t d okB := by
  intro H enc w fuel cs x hx hw
  obtain ⟨a, ha, hk⟩ := h hx hw
  exact ⟨f a, by rw [ha, hc], hok w a hk⟩
/-- One cell of a range that is read. -/
theorem cells_get {w : World} {a : Addr} {n : Nat} {cs : List Value} (h : w.cells? 0 a n = some cs) (j : Nat) (u : Value) (hj : cs[j]? = some u) : w.cell? (a.add j) = some u := by
  obtain ⟨h1, h2, h3⟩ := World.cells?_some h
  have hl : j < n := by
    rw [← h2]
    exact (List.getElem?_eq_some_iff.1 hj).1
  rw [h3 j hl, hj]
end Go.Proofs.YtpljkcakijkklaaDoor

end
