/-
  Texts of this seat, joined: RingPure.
-/
import Derived.Test.YtgfnlhigmncdmaaWWords
section
/-
  Plain laws on a ring of places: what it holds, oldest first. No program in sight.
-/
namespace Go.Proofs.Ytgfnlhigmncdmaa
set_option linter.unusedVariables false
set_option linter.unusedSimpArgs false
open Go.RowKit Go.Proofs.YtgfnlhigmncdmaaW.PrintWords

section
variable {α : Type} (z : α)
/-- What a ring of places P holds: n of them, from f on. -/
def view (P : List α) (f n : Nat) : List α := (List.range n).map fun i => P.getD ((f + i) % P.length) z
variable {P Q : List α} {f n : Nat} {v : α}
theorem view_len : (view z P f n).length = n := by simp [view]
theorem view_get {i : Nat} (h : i < n) : (view z P f n)[i]? = some (P.getD ((f + i) % P.length) z) := by
  simp [view, h]
theorem view_zero : view z P f 0 = [] := rfl
theorem mod_lt' {a m : Nat} (h : 0 < m) : a % m < m := Nat.mod_lt _ h
theorem mod_step {f i m : Nat} (hf : f < m) : ((f + 1) % m + i) % m = (f + (i + 1)) % m := by
  rw [Nat.mod_add_mod]
  congr 1
  omega
theorem mod_ne {f i m : Nat} (hf : f < m) (h0 : 0 < i) (hi : i < m) : (f + i) % m ≠ f := by
  intro h
  have h1 := Nat.div_add_mod (f + i) m
  rw [h] at h1
  have h2 : m * ((f + i) / m) = i := by omega
  rcases Nat.eq_zero_or_pos ((f + i) / m) with h3 | h3
  · rw [h3] at h2; omega
  · have := Nat.mul_le_mul_left m h3; omega
theorem mod_ne2 {f i n m : Nat} (hf : f < m) (hi : i < n) (hn : n < m) : (f + n) % m ≠ (f + i) % m := by
  intro h
  have h1 := Nat.div_add_mod (f + i) m
  have h2 := Nat.div_add_mod (f + n) m
  rw [h] at h2
  have h3 : m * ((f + n) / m) = m * ((f + i) / m) + (n - i) := by omega
  have h4 : (f + i) / m < (f + n) / m := by
    rcases Nat.lt_or_ge ((f + i) / m) ((f + n) / m) with h5 | h5
    · exact h5
    · have := Nat.mul_le_mul_left m h5; omega
  have h5 : m * ((f + i) / m) + m ≤ m * ((f + n) / m) := by rw [← Nat.mul_succ]; exact Nat.mul_le_mul_left m h4
  omega
/-- The oldest one goes; its place is made empty. -/
theorem view_drop (hf : f < P.length) (hn : n + 1 ≤ P.length) : view z P f (n + 1) = P.getD f z :: view z (P.set f z) ((f + 1) % P.length) n := by
  unfold view
  rw [List.range_succ_eq_map, List.map_cons, List.map_map]
  congr 1
  · rw [Nat.add_zero, Nat.mod_eq_of_lt hf]
  · apply List.map_congr_left
    intro i hi
    have hi' := List.mem_range.1 hi
    simp only [Function.comp, List.length_set]
    rw [mod_step hf]
    rw [List.getD_eq_getElem?_getD, List.getD_eq_getElem?_getD, List.getElem?_set_ne]
    exact fun h => mod_ne hf (Nat.succ_pos i) (by omega) h.symm
/-- One more behind the newest. -/
theorem view_push (hf : f < P.length) (hn : n < P.length) : view z (P.set ((f + n) % P.length) v) f (n + 1) = view z P f n ++ [v] := by
  unfold view
  rw [List.range_succ, List.map_append]
  congr 1
  · apply List.map_congr_left
    intro i hi
    have hi' := List.mem_range.1 hi
    simp only [List.length_set]
    rw [List.getD_eq_getElem?_getD, List.getD_eq_getElem?_getD, List.getElem?_set_ne]
    exact mod_ne2 hf hi' hn
  · have hl : (f + n) % P.length < P.length := Nat.mod_lt _ (by omega)
    simp only [List.map_cons, List.map_nil, List.length_set, List.getD_eq_getElem?_getD]
    rw [List.getElem?_set_self hl]
    rfl
/-- More places: what was held lies at their begin. -/
theorem view_grow (hn : n ≤ Q.length) (h : ∀ i, i < n → Q.getD i z = P.getD ((f + i) % P.length) z) : view z Q 0 n = view z P f n := by
  unfold view
  apply List.map_congr_left
  intro i hi
  have hi' := List.mem_range.1 hi
  rw [← h i hi', Nat.zero_add, Nat.mod_eq_of_lt (by omega)]
end

section
variable {α : Type} (enc : α → List Value)
/-- The cells of a list of elements. -/
def cellsOf (P : List α) : Array Value := (P.flatMap enc).toArray
variable {enc} {P : List α}
theorem flat_len {sz : Nat} (hl : ∀ x, (enc x).length = sz) : ∀ P : List α, (P.flatMap enc).length = P.length * sz
  | [] => by simp
  | x :: P => by rw [List.flatMap_cons, List.length_append, hl, flat_len hl P, List.length_cons, Nat.succ_mul]; omega
theorem flat_get {sz : Nat} (hl : ∀ x, (enc x).length = sz) : ∀ (P : List α) (i j : Nat) (x : α), P[i]? = some x → j < sz → (P.flatMap enc)[i * sz + j]? = (enc x)[j]?
  | [], i, j, x, h, _ => by simp at h
  | y :: P, 0, j, x, h, hj => by
    simp at h
    subst h
    rw [List.flatMap_cons, Nat.zero_mul, Nat.zero_add, List.getElem?_append_left (by rw [hl]; exact hj)]
  | y :: P, i + 1, j, x, h, hj => by
    rw [List.flatMap_cons, List.getElem?_append_right (by rw [hl, Nat.succ_mul]; omega), hl, Nat.succ_mul]
    rw [show i * sz + sz + j - sz = i * sz + j by omega]
    exact flat_get hl P i j x (by simpa using h) hj
theorem cells_get_of {sz : Nat} (hl : ∀ x, (enc x).length = sz) {i j : Nat} {x : α} (h : P[i]? = some x) (hj : j < sz) : (cellsOf enc P)[i * sz + j]? = (enc x)[j]? := by
  unfold cellsOf
  rw [List.getElem?_toArray]
  exact flat_get hl P i j x h hj
theorem len_two {β : Type} : ∀ {l : List β}, l.length = 2 → ∃ a b, l = [a, b]
  | [a, b], _ => ⟨a, b, rfl⟩
theorem flat_set1 (hl : ∀ x, (enc x).length = 1) {u : Value} {x : α} (he : enc x = [u]) : ∀ (P : List α) (i : Nat), (P.flatMap enc).set i u = (P.set i x).flatMap enc
  | [], i => by simp
  | y :: P, 0 => by
    have hy := hl y
    obtain ⟨c, hc⟩ := List.length_eq_one_iff.1 hy
    simp [hc, he]
  | y :: P, i + 1 => by
    have hy := hl y
    obtain ⟨c, hc⟩ := List.length_eq_one_iff.1 hy
    simp [hc, flat_set1 hl he P i]
theorem flat_set2 (hl : ∀ x, (enc x).length = 2) {u0 u1 : Value} {x : α} (he : enc x = [u0, u1]) : ∀ (P : List α) (i : Nat), ((P.flatMap enc).set (i * 2) u0).set (i * 2 + 1) u1 = (P.set i x).flatMap enc
  | [], i => by simp
  | y :: P, 0 => by
    obtain ⟨c, d, hc⟩ := len_two (hl y)
    simp [hc, he]
  | y :: P, i + 1 => by
    obtain ⟨c, d, hc⟩ := len_two (hl y)
    have e : (i + 1) * 2 = i * 2 + 1 + 1 := by omega
    simp only [List.flatMap_cons, hc, e, List.cons_append, List.nil_append, List.set_cons_succ]
    rw [flat_set2 hl he P i]
theorem cells_set1 (hl : ∀ x, (enc x).length = 1) {u : Value} {x : α} (he : enc x = [u]) (i : Nat) : (cellsOf enc P).setIfInBounds i u = cellsOf enc (P.set i x) := by
  unfold cellsOf
  rw [List.setIfInBounds_toArray, flat_set1 hl he]
theorem cells_set2 (hl : ∀ x, (enc x).length = 2) {u0 u1 : Value} {x : α} (he : enc x = [u0, u1]) (i : Nat) : ((cellsOf enc P).setIfInBounds (i * 2) u0).setIfInBounds (i * 2 + 1) u1 = cellsOf enc (P.set i x) := by
  unfold cellsOf
  rw [List.setIfInBounds_toArray, List.setIfInBounds_toArray, flat_set2 hl he]
/-- New places. -/
theorem cells_made {zc : Array Value} {z : α} (he : enc z = zc.toList) (hp : 0 < zc.size) (m : Nat) : madeCells zc (m * zc.size) = cellsOf enc (List.replicate m z) := by
  have h := Kd.reps_made (R := fun x cs => cs = enc x) (z := .agg zc) (size := zc.size) (z0 := z)
  apply Array.ext'
  unfold cellsOf
  have hlen : (enc z).length = zc.size := by rw [he, Array.length_toList]
  apply List.ext_getElem?
  intro k
  by_cases hk : k < m * zc.size
  · have hq : k / zc.size < m := Nat.div_lt_of_lt_mul (by rw [Nat.mul_comm]; exact hk)
    have hr : k % zc.size < zc.size := Nat.mod_lt _ hp
    have hk2 : k = k / zc.size * zc.size + k % zc.size := by rw [Nat.mul_comm]; exact (Nat.div_add_mod k zc.size).symm
    have e1 : (List.replicate m z).flatMap enc = (List.replicate m (enc z)).flatten := by rw [List.flatMap_def, List.map_replicate]
    have e2 : ((List.replicate m z).flatMap enc)[k]? = (enc z)[k % zc.size]? := by
      have h1 : ∀ (m q r : Nat), q < m → r < zc.size → ((List.replicate m z).flatMap enc)[q * zc.size + r]? = (enc z)[r]? := by
        intro m
        induction m with
        | zero => intro q r h; omega
        | succ m ih =>
          intro q r h hr
          rw [List.replicate_succ, List.flatMap_cons]
          cases q with
          | zero => rw [Nat.zero_mul, Nat.zero_add, List.getElem?_append_left (by rw [hlen]; exact hr)]
          | succ q =>
            rw [List.getElem?_append_right (by rw [hlen, Nat.succ_mul]; omega), hlen, Nat.succ_mul]
            rw [show q * zc.size + zc.size + r - zc.size = q * zc.size + r by omega]
            exact ih q r (by omega) hr
      rw [hk2]
      rw [h1 m _ _ hq hr]
      congr 1
      rw [Nat.add_mod, Nat.mul_mod_left, Nat.zero_add, Nat.mod_mod, Nat.mod_eq_of_lt hr]
    rw [List.toList_toArray, e2, he]
    simp [madeCells, hk]
    rw [getElem!_pos zc _ hr]
    rw [Array.getElem?_eq_getElem hr]
  · have e1 : ((List.replicate m z).flatMap enc).length = m * zc.size := by
      clear h
      clear hk
      induction m with
      | zero => simp
      | succ m ih => rw [List.replicate_succ, List.flatMap_cons, List.length_append, ih, hlen, Nat.succ_mul]; omega
    rw [List.getElem?_eq_none (by simp [size_madeCells]; omega), List.toList_toArray, List.getElem?_eq_none (by omega)]
end
section
variable {w : World} {g : Nat} {t : TypeId} {a b c d : Value}
/-- A block of four cells. -/
theorem four_set1 (h : w.heap[g]? = some (.cells #[a, b, c, d] t (0, 0))) (u : Value) : (w.setCell ⟨g, 1, none⟩ u).heap[g]? = some (.cells #[a, u, c, d] t (0, 0)) := by simpa using blk_set h 1 u
theorem four_set2 (h : w.heap[g]? = some (.cells #[a, b, c, d] t (0, 0))) (u : Value) : (w.setCell ⟨g, 2, none⟩ u).heap[g]? = some (.cells #[a, b, u, d] t (0, 0)) := by simpa using blk_set h 2 u
theorem four_set3 (h : w.heap[g]? = some (.cells #[a, b, c, d] t (0, 0))) (u : Value) : (w.setCell ⟨g, 3, none⟩ u).heap[g]? = some (.cells #[a, b, c, u] t (0, 0)) := by simpa using blk_set h 3 u
end
end Go.Proofs.Ytgfnlhigmncdmaa
end
