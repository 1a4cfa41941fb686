/-
  Texts of this seat, joined, less what WindowAgrees does not lean on: Base, RankPure, RankFns1, RingS1, RingS2, RingS3, RingS4, Allocs.
-/
import Derived.Test.YtgfnlhigmncdmaaProg
import Derived.Below
import Derived.Deep.Draws
import Derived.Deep.AppendLies
import Derived.Maps.AppendAt
import Derived.OwnWalk
import Derived.Laws.BytesArg
import Derived.Laws.MakeOwn
import Derived.Laws.OwnMore
import Derived.Deep.OwnRows
import Derived.Tactics
import Derived.Lib.ConvBytes
import Derived.Laws.Slices
import Derived.WalkKit
import Derived.KernelRfl
import Derived.RowKit3
import Derived.Deep.LoopGhost
import Derived.Deep.QuietTactic
import Derived.BigQuiet
import Derived.WideLaws
import Derived.Deep.DeepCutAuto
import Derived.Deep.CutBlock
import Derived.Deep.RegionHeld3
import Derived.Laws.Rows
import Derived.Lib.AppendStr
import Derived.ArgAppend
import Derived.Laws.IdiomCopy
import Derived.OrdersHeld
import Derived.Laws.BitsLemmas
import Derived.RowKit
import Derived.Test.YtgfnlhigmncdmaaQWindowAgrees1
import Derived.Test.YtgfnlhigmncdmaaQWindowAgrees5
import Derived.Test.YtgfnlhigmncdmaaQWindowAgrees6
import Derived.Test.YtgfnlhigmncdmaaQWindowAgrees9
import Derived.ProofKit
import Derived.Lib.Hide
import Derived.WalkMore
import Derived.Deep.RegionHeldLaw
import Derived.Deep.RegionLaw
import Derived.BigRegion
import Derived.StillTailTactics
import Derived.Test.YtgfnlhigmncdmaaQWindowAgrees7
section

end
section
namespace Go.Proofs.Ytgfnlhigmncdmaa
set_option linter.unusedVariables false
set_option linter.unusedSimpArgs false
open Go.RowKit Go.Proofs.YtgfnlhigmncdmaaW.PrintWords
/-- In rising order. -/
def Rising (L : List Int) : Prop := ∀ i j, i < j → j < L.length → L.getD i 0 ≤ L.getD j 0
/-- How many are lower. -/
def lower (v : Int) (L : List Int) : Nat := (L.filter fun x => decide (x < v)).length
theorem lower_le (v : Int) (L : List Int) : lower v L ≤ L.length := List.length_filter_le _ _
theorem rising_nil : Rising [] := fun i j h1 h2 => by simp at h2
theorem rising_cons {x : Int} {L : List Int} : Rising (x :: L) ↔ (∀ y ∈ L, x ≤ y) ∧ Rising L := by
  constructor
  · intro h
    refine ⟨fun y hy => ?_, fun i j h1 h2 => ?_⟩
    · obtain ⟨i, hi, rfl⟩ := List.getElem_of_mem hy
      have := h 0 (i + 1) (by omega) (by simpa using hi)
      simpa [List.getD_eq_getElem?_getD, List.getElem?_eq_getElem hi] using this
    · have := h (i + 1) (j + 1) (by omega) (by simpa using h2)
      simpa using this
  · rintro ⟨h1, h2⟩ i j hij hj
    cases j with
    | zero => omega
    | succ j =>
      have hjl : j < L.length := by simpa using hj
      cases i with
      | zero =>
        have := h1 L[j] (List.getElem_mem hjl)
        simpa [List.getD_eq_getElem?_getD, List.getElem?_eq_getElem hjl] using this
      | succ i => simpa using h2 i j (by omega) hjl
theorem lower_cons (v x : Int) (L : List Int) : lower v (x :: L) = (if x < v then 1 else 0) + lower v L := by
  unfold lower
  rw [List.filter_cons]
  by_cases h : x < v
  · simp [h]; omega
  · simp [h]
theorem lower_zero {v : Int} : ∀ {L : List Int}, (∀ y ∈ L, v ≤ y) → lower v L = 0
  | [], _ => rfl
  | x :: L, h => by
    rw [lower_cons, if_neg (by have := h x List.mem_cons_self; omega), lower_zero (fun y hy => h y (List.mem_cons_of_mem _ hy))]
/-- Of numbers in rising order just those ahead of that place are lower. -/
theorem lower_at {v : Int} : ∀ {L : List Int}, Rising L → ∀ k, k < L.length → (L.getD k 0 < v ↔ k < lower v L)
  | [], _, k, hk => by simp at hk
  | x :: L, h, k, hk => by
    obtain ⟨h1, h2⟩ := rising_cons.1 h
    rw [lower_cons]
    cases k with
    | zero =>
      by_cases hx : x < v
      · simp [hx]; omega
      · have := lower_zero (v := v) (L := L) (fun y hy => by have := h1 y hy; omega)
        simp [hx, this]
    | succ k =>
      have hk' : k < L.length := by simpa using hk
      have ih := lower_at (v := v) h2 k hk'
      by_cases hx : x < v
      · simp [hx] at ih ⊢
        rw [ih]
        omega
      · have h0 := lower_zero (v := v) (L := L) (fun y hy => by have := h1 y hy; omega)
        rw [h0] at ih ⊢
        simp [hx] at ih ⊢
        exact ih
/-- A search's bounds. -/
theorem lower_up {v : Int} {L : List Int} (h : Rising L) {k : Nat} (hk : k < L.length) (hv : L.getD k 0 < v) : k + 1 ≤ lower v L := (lower_at h k hk).1 hv
theorem lower_down {v : Int} {L : List Int} (h : Rising L) {k : Nat} (hk : k < L.length) (hv : ¬ L.getD k 0 < v) : lower v L ≤ k := by
  have := lower_at (v := v) h k hk
  omega
/-- One more, in its place. -/
def putL (v : Int) (L : List Int) : List Int := L.take (lower v L) ++ v :: L.drop (lower v L)
theorem put_cons (v x : Int) (L : List Int) (h : Rising (x :: L)) : putL v (x :: L) = if x < v then x :: putL v L else v :: x :: L := by
  obtain ⟨h1, h2⟩ := rising_cons.1 h
  unfold putL
  rw [lower_cons]
  by_cases hx : x < v
  · rw [if_pos hx, if_pos hx, Nat.add_comm, List.take_succ_cons, List.drop_succ_cons]
    rfl
  · rw [if_neg hx, if_neg hx, lower_zero (fun y hy => by have := h1 y hy; omega)]
    rfl
theorem put_len (v : Int) (L : List Int) : (putL v L).length = L.length + 1 := by
  have := lower_le v L
  unfold putL
  simp
  omega
theorem mem_put {v y : Int} {L : List Int} : y ∈ putL v L ↔ y = v ∨ y ∈ L := by
  have e : y ∈ L ↔ y ∈ L.take (lower v L) ∨ y ∈ L.drop (lower v L) := by rw [← List.mem_append, List.take_append_drop]
  unfold putL
  rw [List.mem_append, List.mem_cons, e]
  constructor
  · rintro (h | h | h)
    · exact .inr (.inl h)
    · exact .inl h
    · exact .inr (.inr h)
  · rintro (h | h | h)
    · exact .inr (.inl h)
    · exact .inl h
    · exact .inr (.inr h)
theorem put_rising (v : Int) : ∀ L : List Int, Rising L → Rising (putL v L)
  | [], _ => by
    rw [show putL v [] = [v] from rfl]
    exact rising_cons.2 ⟨fun y hy => by simp at hy, rising_nil⟩
  | x :: L, h => by
    obtain ⟨h1, h2⟩ := rising_cons.1 h
    rw [put_cons v x L h]
    by_cases hx : x < v
    · rw [if_pos hx]
      refine rising_cons.2 ⟨fun y hy => ?_, put_rising v L h2⟩
      rcases mem_put.1 hy with rfl | hy
      · omega
      · exact h1 y hy
    · rw [if_neg hx]
      refine rising_cons.2 ⟨fun y hy => ?_, h⟩
      rcases List.mem_cons.1 hy with rfl | hy
      · omega
      · have := h1 y hy; omega
theorem put_perm (v : Int) (L : List Int) : (putL v L).Perm (v :: L) := by
  unfold putL
  refine List.perm_middle.trans ?_
  rw [List.take_append_drop]
/-- Is a number among them? -/
def hasL (v : Int) (L : List Int) : Bool := decide (lower v L < L.length ∧ L.getD (lower v L) 0 = v)
/-- Without one of it, if there is one. -/
def takeL (v : Int) (L : List Int) : List Int := if hasL v L then L.take (lower v L) ++ L.drop (lower v L + 1) else L
theorem has_iff {v : Int} : ∀ {L : List Int}, Rising L → (hasL v L = true ↔ v ∈ L) := by
  intro L h
  unfold hasL
  rw [decide_eq_true_iff]
  constructor
  · rintro ⟨h1, h2⟩
    rw [List.getD_eq_getElem?_getD, List.getElem?_eq_getElem h1] at h2
    rw [← show L[lower v L] = v from h2]
    exact List.getElem_mem h1
  · intro hm
    obtain ⟨i, hi, he⟩ := List.getElem_of_mem hm
    have hg : L.getD i 0 = v := by rw [List.getD_eq_getElem?_getD, List.getElem?_eq_getElem hi]; exact he
    have h1 : lower v L ≤ i := lower_down h hi (by omega)
    have h2 : lower v L < L.length := by omega
    refine ⟨h2, ?_⟩
    have h3 : ¬ L.getD (lower v L) 0 < v := fun hh => absurd ((lower_at h _ h2).1 hh) (Nat.lt_irrefl _)
    rcases Nat.eq_or_lt_of_le h1 with e | h4
    · rw [e]; exact hg
    · have := h _ _ h4 hi
      omega
theorem take_perm {v : Int} {L : List Int} (h : hasL v L = true) : L.Perm (v :: takeL v L) := by
  unfold takeL
  rw [if_pos h]
  unfold hasL at h
  obtain ⟨h1, h2⟩ := of_decide_eq_true h
  refine List.Perm.trans ?_ List.perm_middle
  have e : L.drop (lower v L) = v :: L.drop (lower v L + 1) := by
    rw [List.drop_eq_getElem_cons h1]
    congr 1
    rw [List.getD_eq_getElem?_getD, List.getElem?_eq_getElem h1] at h2
    exact h2
  rw [← e, List.take_append_drop]
theorem take_rising {v : Int} {L : List Int} (h : Rising L) : Rising (takeL v L) := by
  unfold takeL
  split
  · intro i j hij hj
    have hle := lower_le v L
    rw [List.length_append, List.length_take, List.length_drop, Nat.min_eq_left hle] at hj
    have g : ∀ k, (L.take (lower v L) ++ L.drop (lower v L + 1)).getD k 0 = L.getD (if k < lower v L then k else k + 1) 0 := by
      intro k
      rw [List.getD_eq_getElem?_getD, List.getD_eq_getElem?_getD]
      by_cases hk : k < lower v L
      · rw [if_pos hk, List.getElem?_append_left (by rw [List.length_take]; omega), List.getElem?_take, if_pos hk]
      · rw [if_neg hk, List.getElem?_append_right (by rw [List.length_take]; omega), List.length_take, Nat.min_eq_left hle, List.getElem?_drop]
        congr 2
        omega
    rw [g, g]
    refine h _ _ ?_ ?_
    · split <;> split <;> omega
    · split <;> omega
  · exact h
end Go.Proofs.Ytgfnlhigmncdmaa

end
section
namespace Go.Proofs.Ytgfnlhigmncdmaa
set_option linter.unusedVariables false
set_option linter.unusedSimpArgs false
open Go.RowKit Go.Proofs.YtgfnlhigmncdmaaW.PrintWords Go.Proofs.YtgfnlhigmncdmaaW.PrintLast Go.Proofs.YtgfnlhigmncdmaaW.PrintMore

theorem cmp_nan (a : Int) (w : World) : Calls Try.prog 83 #[.int .i64 a] w fun e w' => e = .returned (.bool false) ∧ w = w' := by
  go_enter Try.func83, Try.ntmps83
  go_wp2
  go_ret
  exact ⟨by simp, rfl⟩
theorem slices_nan (a : Int) (w : World) : Calls Try.prog 72 #[.int .i64 a] w fun e w' => e = .returned (.bool false) ∧ w = w' := by
  go_enter Try.func72, Try.ntmps72
  go_wp2
  go_ret
  exact ⟨by simp, rfl⟩
set_option maxRecDepth 100000 in
theorem cmp_less (a b : Int) (w : World) : Calls Try.prog 71 #[.int .i64 a, .int .i64 b] w fun e w' => e = .returned (.bool (decide (a < b))) ∧ w = w' := by
  go_enter Try.func71, Try.ntmps71
  go_wp2_with fail
  refine (cmp_nan _ _).mono ?_
  rintro e w1 ⟨rfl, rfl⟩
  go_wp2
  go_ret
  exact ⟨by simp, rfl⟩
set_option maxHeartbeats 4000000 in
set_option maxRecDepth 100000 in
theorem search {w : World} {A : Option Addr} {c : Nat} {L : List Int} (v : Int) (hc : Kd.C (Kd.int .i64) w A L.length L) (hl : L.length ≤ 17592186044416) (hr : Rising L) :
    Calls Try.prog 51 #[.slice A L.length c, .int .i64 v] w fun e w' => e = .returned (.tuple #[.int .i64 (lower v L : Nat), .bool (hasL v L)]) ∧ w = w' := by
  have HC := Lib.hid hc
  have HR := Lib.hid hr
  have HL := Lib.hid hl
  have HLE := Lib.hid (lower_le v L)
  clear hc hr hl
  go_enter Try.func51, Try.ntmps51
  go_wp2
  go_loopg [7, 8] L.length (fun kq v7 v8 w' => ∃ (i j : Nat), v7 = .int .i64 i ∧ v8 = .int .i64 j ∧ Aside0 (j - i ≤ kq) ∧ Aside0 (i ≤ lower v L ∧ lower v L ≤ j ∧ j ≤ L.length) ∧ Aside0 (w = w'))
  case atStart => exact ⟨0, L.length, rfl, rfl, ⟨by omega⟩, ⟨Nat.zero_le _, HLE.out, Nat.le_refl _⟩, ⟨rfl⟩⟩
  case round =>
    obtain ⟨i, j, rfl, rfl, hk, hb, hw⟩ := hrel
    obtain rfl := hw.out
    by_cases hij : i < j
    · have c0 : decide (i < j) = true := decide_eq_true hij
      obtain ⟨h, hh⟩ : ∃ h : Nat, (i + j) / 2 = h := ⟨_, rfl⟩
      have hi1 : i ≤ h := by omega
      have hj1 : h < j := by omega
      have hjl := hb.out.2.2
      have hll := HL.out
      have hq : ((i : Int) + (j : Int)) / 2 = (h : Int) := by omega
      obtain ⟨ad, rfl, r0⟩ := Kd.at_int HC.out (h : Int) (by omega) (by omega)
      rw [Int.toNat_natCast] at r0
      have f1 := eq_true (show (0 : Int) ≤ (h : Int) by omega)
      have f2 : ((h : Int) < (L.length : Int)) = True := eq_true (by omega)
      have f3 := eq_true (show h < L.length by omega)
      obtain ⟨x, hx⟩ : ∃ x, rd L (h : Int) = x := ⟨_, rfl⟩
      rw [hx] at r0
      have hx2 : L.getD h 0 = x := by rw [← hx]; unfold rd; rw [Int.toNat_natCast]
      have HJ := Lib.hid (And.intro hi1 hj1)
      have Hij := Lib.hid hij
      by_cases hv : x < v
      · have hlo : h + 1 ≤ lower v L := lower_up HR.out (by omega) (by rw [hx2]; exact hv)
        have d1 : decide (x < v) = true := decide_eq_true hv
        have HLO := Lib.hid hlo
        have HW := Lib.hid (show wrap64 ((h : Int) + 1) = ((h + 1 : Nat) : Int) by unfold wrap64; omega)
        clear hlo hv hx hx2 hh hi1 hj1
        go_wp2_with fail
        refine (cmp_less _ _ _).mono ?_
        rintro e w1 ⟨rfl, rfl⟩
        rw [d1]
        clear hq
        go_wp2
        go_roundg (gk - 1)
        case measure => have := hk.out; have := Hij.out; omega
        case rel => exact ⟨h + 1, j, by first | rfl | rw [HW.out] | simp, rfl, ⟨by have := hk.out; have := HJ.out; omega⟩, ⟨HLO.out, hb.out.2.1, hb.out.2.2⟩, ⟨rfl⟩⟩
      · have hlo : lower v L ≤ h := lower_down HR.out (by omega) (by rw [hx2]; exact hv)
        have d1 : decide (x < v) = false := decide_eq_false hv
        have HLO := Lib.hid hlo
        clear hlo hv hx hx2 hh hi1 hj1
        have HJL := Lib.hid hjl
        go_wp2_with fail
        refine (cmp_less _ _ _).mono ?_
        rintro e w1 ⟨rfl, rfl⟩
        rw [d1]
        clear hq
        go_wp2
        go_roundg (gk - 1)
        case measure => have := hk.out; have := Hij.out; omega
        case rel => exact ⟨i, h, rfl, rfl, ⟨by have := hk.out; have := HJ.out; omega⟩, ⟨hb.out.1, HLO.out, by have := HJL.out; have := HJ.out; omega⟩, ⟨rfl⟩⟩
    · have c0 : decide (i < j) = false := decide_eq_false hij
      have hi : i = lower v L := by have := hb.out; omega
      have HI := Lib.hid hi
      have hle : i ≤ L.length := by have := hb.out; omega
      by_cases hil : i < L.length
      · obtain ⟨ad, rfl, r0⟩ := Kd.at_int HC.out (i : Int) (by omega) (by omega)
        rw [Int.toNat_natCast] at r0
        have f1 := eq_true (show (0 : Int) ≤ (i : Int) by omega)
        have f2 : ((i : Int) < (L.length : Int)) = True := eq_true (by omega)
        have f3 := eq_true hil
        have d2 : decide (i < L.length) = true := decide_eq_true hil
        obtain ⟨x, hx⟩ : ∃ x, rd L (i : Int) = x := ⟨_, rfl⟩
        rw [hx] at r0
        have hx2 : L.getD i 0 = x := by rw [← hx]; unfold rd; rw [Int.toNat_natCast]
        by_cases hv : x = v
        · have hh : hasL v L = true := by
            unfold hasL
            rw [← hi]
            exact decide_eq_true ⟨hil, hx2.trans hv⟩
          have HH := Lib.hid hh
          have d1 : (x == v) = true := by simp [hv]
          clear hv hx hx2 hij hi hh hle hil
          go_wp2
          go_ret2
          exact ⟨by rw [HH.out, ← HI.out]; simp, rfl⟩
        · have hh : hasL v L = false := by
            unfold hasL
            rw [← hi]
            exact decide_eq_false (fun hc => hv (hx2.symm.trans hc.2))
          have HH := Lib.hid hh
          have d1 : (x == v) = false := by simp [hv]
          clear hv hx hx2 hij hi hh hle hil
          go_wp2_with fail
          refine (slices_nan _ _).mono ?_
          rintro e w1 ⟨rfl, rfl⟩
          go_wp2
          go_ret2
          exact ⟨by rw [HH.out, ← HI.out]; simp, rfl⟩
      · have hh : hasL v L = false := by
          unfold hasL
          rw [← hi]
          exact decide_eq_false (fun hc => hil hc.1)
        have HH := Lib.hid hh
        have d2 : decide (i < L.length) = false := decide_eq_false hil
        clear hij hi hh hle hil
        go_wp2
        go_ret2
        exact ⟨by rw [HH.out, ← HI.out]; simp, rfl⟩
end Go.Proofs.Ytgfnlhigmncdmaa

end
section
namespace Go.Proofs.Ytgfnlhigmncdmaa
open Go.RowKit Go.Proofs.YtgfnlhigmncdmaaW.PrintWords Go.Proofs.YtgfnlhigmncdmaaW.PrintLast Go.Proofs.YtgfnlhigmncdmaaW.PrintMore

def encS (x : Int × Int) : List Value := [.int .i64 x.1, .int .i64 x.2]
theorem encS_len : ∀ x, (encS x).length = 2 := fun _ => rfl
abbrev valS (x : Int × Int) : Value := .agg #[.int .i64 x.1, .int .i64 x.2]
abbrev zeroS : Int × Int := (0, 0)
/-- A ring at block g: its places' block is one of those that ok names. -/
structure RingAtS (w : World) (g : Nat) (ok : Nat → Prop) (room : Int) (f n : Nat) (P : List (Int × Int)) : Prop where
  ex : ∃ A, w.heap[g]? = some (.cells #[.int .i64 room, .int .i64 f, .int .i64 n, .slice A P.length P.length] 89 (0, 0)) ∧
    (P = [] ∧ A = none ∨ ∃ h, A = some ⟨h, 0, none⟩ ∧ ok h ∧ w.heap[h]? = some (.cells (cellsOf encS P) 38 (0, 0)))
  away : ∀ k, ok k → k ≠ g
  lt : g < w.heap.size
structure RingOkS (room : Int) (f n m : Nat) : Prop where
  le : n ≤ m
  at_ : f < m ∨ m = 0 ∧ f = 0
  room_ : (m : Int) ≤ room
  most : room ≤ 4096

theorem two_set {w : World} {g : Nat} {t : TypeId} {a b : Value} (h : w.heap[g]? = some (.cells #[a, b] t (0, 0))) (u v : Value) : ((w.setCell ⟨g, 0, none⟩ u).setCell ⟨g, 1, none⟩ v).heap[g]? = some (.cells #[u, v] t (0, 0)) := by simpa using blk_set (blk_set h 0 u) 1 v
theorem ringS_len {w : World} {g : Nat} {ok : Nat → Prop} {room : Int} {f n : Nat} {P : List (Int × Int)} (h : RingAtS w g ok room f n P) :
    Calls Try.prog 31 #[.pointer (some ⟨g, 0, none⟩)] w fun e w' => e = .returned (.int .i64 n) ∧ w = w' := by
  obtain ⟨A, hb, hq⟩ := h.ex
  have c2 := (blk_cell hb 2).trans rfl
  clear hb hq h
  go_enter Try.func31, Try.ntmps31
  go_wp2
  go_ret
  exact ⟨by simp, rfl⟩
theorem ringS_room {w : World} {g : Nat} {ok : Nat → Prop} {room : Int} {f n : Nat} {P : List (Int × Int)} (h : RingAtS w g ok room f n P) :
    Calls Try.prog 43 #[.pointer (some ⟨g, 0, none⟩)] w fun e w' => e = .returned (.int .i64 room) ∧ w = w' := by
  obtain ⟨A, hb, hq⟩ := h.ex
  have c0 := (blk_cell hb 0).trans rfl
  clear hb hq h
  go_enter Try.func43, Try.ntmps43
  go_wp2
  go_ret
  exact ⟨by simp, rfl⟩
theorem cellsS {w : World} {h : Nat} {P : List (Int × Int)} {t : TypeId} (hq : w.heap[h]? = some (.cells (cellsOf encS P) t (0, 0))) {q : Nat} (hql : q < P.length) :
    w.cell? ⟨h, q * 2, none⟩ = some (.int .i64 (P.getD q zeroS).1) ∧ w.cell? ⟨h, q * 2 + 1, none⟩ = some (.int .i64 (P.getD q zeroS).2) := by
  have e : P[q]? = some (P.getD q zeroS) := by rw [List.getD_eq_getElem?_getD, List.getElem?_eq_getElem hql]; rfl
  exact ⟨(blk_cell hq (q * 2)).trans (cells_get_of (enc := encS) (j := 0) encS_len e (by decide)), (blk_cell hq (q * 2 + 1)).trans (cells_get_of (enc := encS) (j := 1) encS_len e (by decide))⟩
theorem ringWrapsS (f n q m : Nat) (h1 : f < 4611686018427387904) (h2 : n < 4611686018427387904) (h3 : q < 4611686018427387904) (h : (f + n) % m = q) :
    (((f : Int) + (n : Int)).tmod (m : Int)) = (q : Int) ∧ IntKind.i64.wrap ((f : Int) + (n : Int)) = (f : Int) + (n : Int) ∧ IntKind.i64.wrap ((q : Nat) : Int) = (q : Int) := by
  refine ⟨by rw [← h, ← Int.natCast_add, Int.ofNat_tmod], ?_, ?_⟩
  · rw [i64_w]; unfold wrap64; omega
  · rw [i64_w]; unfold wrap64; omega
theorem RingAtS.below {w w' : World} {g : Nat} {ok : Nat → Prop} {room : Int} {f n : Nat} {P : List (Int × Int)} (h : RingAtS w g ok room f n P) (hb : Below w.heap.size w w') : RingAtS w' g ok room f n P := by
  obtain ⟨⟨A, h1, h2⟩, h3, h4⟩ := h
  refine ⟨⟨A, (hb.block g h4).trans h1, ?_⟩, h3, Nat.lt_of_lt_of_le h4 hb.size⟩
  rcases h2 with h2 | ⟨hh, e, hok, hq⟩
  · exact .inl h2
  · exact .inr ⟨hh, e, hok, (hb.block hh (blk_lt hq)).trans hq⟩
set_option maxHeartbeats 4000000 in
set_option maxRecDepth 100000 in
theorem ringS_at {w : World} {g : Nat} {ok : Nat → Prop} {room : Int} {f n : Nat} {P : List (Int × Int)} (h : RingAtS w g ok room f n P) (ho : RingOkS room f n P.length) (i : Int) (h0 : 0 ≤ i) (h1 : i < n) :
    Calls Try.prog 52 #[.pointer (some ⟨g, 0, none⟩), .int .i64 i] w fun e w' => e = .returned (.tuple #[valS (P.getD ((f + i.toNat) % P.length) zeroS), .bool true]) ∧ Below w.heap.size w w' := by
  obtain ⟨k, rfl⟩ := Int.eq_ofNat_of_zero_le h0
  have hk : k < n := by omega
  rw [Int.toNat_natCast]
  have hm := ho.le
  have hmm := ho.room_
  have hmx := ho.most
  have hf : f < P.length := by rcases ho.at_ with hf | ⟨h2, _⟩ <;> omega
  have hlt := h.lt
  obtain ⟨A, hb, hq⟩ := h.ex
  rcases hq with ⟨hp, _⟩ | ⟨hh, rfl, hok, hq⟩
  · subst hp; simp at hm; omega
  obtain ⟨q, hqq⟩ : ∃ q, (f + k) % P.length = q := ⟨_, rfl⟩
  have hql : q < P.length := hqq ▸ Nat.mod_lt _ (by omega)
  have HCC := Lib.hid (cellsS hq hql)
  rw [hqq]
  have HWR := Lib.hid (ringWrapsS f k q P.length (by omega) (by omega) (by omega) hqq)
  have HB := Lib.hid hb
  have HHL := Lib.hid (blk_lt hq)
  have e1 := eq_true (show (0 : Int) ≤ (q : Int) by omega)
  have e2 : ((q : Int) < (P.length : Int)) = True := eq_true (by omega)
  have e3 := eq_true hql
  have d1 : decide ((k : Int) < 0) = false := decide_eq_false (by omega)
  have d2 : decide ((n : Int) ≤ (k : Int)) = false := decide_eq_false (by omega)
  have d3 : decide (n ≤ k) = false := decide_eq_false (by omega)
  have d4 : ((P.length : Int) == 0) = false := beq_eq_false_iff_ne.2 (by omega)
  have d5 : ¬ (P.length : Int) = 0 := by omega
  have d8 : ¬ P = [] := by rintro rfl; simp at hf
  have HH := Lib.hid h
  have HLT := Lib.hid hlt
  clear h ho hb hq h0 h1 hk hm hmm hmx hf hqq hql hok hlt
  obtain ⟨x, hx⟩ : ∃ x, P.getD q zeroS = x := ⟨_, rfl⟩
  rw [hx] at HCC
  rw [hx]
  clear hx
  go_enter Try.func52, Try.ntmps52
  go_wp2_with fail
  generalize hw1 : w.alloc _ = w1
  have B1 : Below w.heap.size w w1 := by rw [← hw1]; exact below_alloc (Below.refl _ _) _
  have K1 : w1.heap[w.heap.size]? = some (.cells #[.int .i64 0, .int .i64 0] 38 (0, 0)) := by rw [← hw1]; exact blk_new _ _
  clear hw1
  refine (ringS_len (HH.out.below B1)).mono ?_
  rintro e w2 ⟨rfl, rfl⟩
  have hbg := (B1.block g HLT.out).trans HB.out
  have c1 := (blk_cell hbg 1).trans rfl
  have c3 := (blk_cell hbg 3).trans rfl
  have q0 := (B1.cell (p := ⟨hh, q * 2, none⟩) HHL.out).trans HCC.out.1
  have q1 := (B1.cell (p := ⟨hh, q * 2 + 1, none⟩) HHL.out).trans HCC.out.2
  have b0 := (blk_cell K1 0).trans rfl
  have b1 := (blk_cell K1 1).trans rfl
  have g0 := blk_frozen K1 0
  have g1 := blk_frozen K1 1
  have hr := HWR.out.1
  have hsum := HWR.out.2.1
  have hrw := HWR.out.2.2
  have HB1 := Lib.hid B1
  have HK1 := Lib.hid K1
  clear hbg B1 K1
  go_wp2
  refine still_tail 18 (by kernel_rfl) (by kernel_rfl) ?_
  simp only [List.take_succ_cons, List.take_zero, List.drop_succ_cons, List.drop_zero]
  repeat still_step
  refine wpStill_nil ?_
  clear hr hsum hrw e1 e2 d4 d5
  go_wp2
  refine bodyPost_ret (results_ct rfl _ _ w.heap.size 38 #[.int .i64 x.1, .int .i64 x.2] (0, 0) _ rfl (two_set HK1.out _ _) Try.underlying38 rfl (by kernel_rfl)) rfl ?_
  · exact ⟨by first | rfl | simp, below_drew (Below.setCell (p := ⟨w.heap.size, 1, none⟩) (Below.setCell (p := ⟨w.heap.size, 0, none⟩) HB1.out (Nat.le_refl _) _) (Nat.le_refl _) _)⟩
set_option maxHeartbeats 4000000 in
set_option maxRecDepth 100000 in
theorem ringS_drop {w : World} {g : Nat} {ok : Nat → Prop} {room : Int} {f n : Nat} {P : List (Int × Int)} (h : RingAtS w g ok room f n P) (ho : RingOkS room f n P.length) (hn : 0 < n) :
    Calls Try.prog 44 #[.pointer (some ⟨g, 0, none⟩)] w fun e w' => e = .returned (.tuple #[valS (P.getD f zeroS), .bool true]) ∧ Below 0 w w' ∧ Kept w w' (fun k => k = g ∨ ok k) ∧
      RingAtS w' g ok room ((f + 1) % P.length) (n - 1) (P.set f zeroS) := by
  have hm := ho.le
  have hmm := ho.room_
  have hmx := ho.most
  have hf : f < P.length := by rcases ho.at_ with hf | ⟨h2, _⟩ <;> omega
  obtain ⟨A, hb, hq⟩ := h.ex
  rcases hq with ⟨hp, _⟩ | ⟨hh, rfl, hok, hq⟩
  · subst hp; simp at hf
  obtain ⟨n1, hn1⟩ : ∃ m, n - 1 = m := ⟨_, rfl⟩
  rw [hn1]
  have HCC := Lib.hid (cellsS hq hf)
  have HST := Lib.hid (cells_set2 (P := P) encS_len (show encS zeroS = [.int .i64 0, .int .i64 0] from rfl) f)
  obtain ⟨q, hqq⟩ : ∃ q, (f + 1) % P.length = q := ⟨_, rfl⟩
  have hql : q < P.length := hqq ▸ Nat.mod_lt _ (by omega)
  rw [hqq]
  have HWR := Lib.hid (show (((f : Int) + 1).tmod (P.length : Int)) = (q : Int) ∧ IntKind.i64.wrap ((f : Int) + 1) = (f : Int) + 1 ∧ IntKind.i64.wrap ((q : Nat) : Int) = (q : Int) from ringWrapsS f 1 q P.length (by omega) (by omega) (by omega) hqq)
  have HW2 := Lib.hid (show wrap64 ((n : Int) - 1) = (n1 : Int) by unfold wrap64; omega)
  have HHL := Lib.hid (blk_lt hq)
  have HLT := Lib.hid h.lt
  have e1 := eq_true (show (0 : Int) ≤ (f : Int) by omega)
  have e2 : ((f : Int) < (P.length : Int)) = True := eq_true (by omega)
  have e3 := eq_true hf
  have hne : ¬ hh = g := h.away _ hok
  have hne2 : ¬ g = hh := fun e => hne e.symm
  have d4 : ((P.length : Int) == 0) = false := beq_eq_false_iff_ne.2 (by omega)
  have d5 : ¬ (P.length : Int) = 0 := by omega
  have d8 : ¬ P = [] := by rintro rfl; simp at hf
  have d6 : ((n : Int) == 0) = false := beq_eq_false_iff_ne.2 (by omega)
  have d7 : ¬ n = 0 := by omega
  have HH := Lib.hid h
  have HB := Lib.hid hb
  have HQ := Lib.hid hq
  have HOK := Lib.hid hok
  clear h ho hb hq hn hm hmm hmx hf hqq hql hok hn1
  obtain ⟨x, hx⟩ : ∃ x, P.getD f zeroS = x := ⟨_, rfl⟩
  rw [hx] at HCC
  rw [hx]
  clear hx
  go_enter Try.func44, Try.ntmps44
  go_wp2_with fail
  generalize hw1 : w.alloc _ = w1
  have B1 : Below w.heap.size w w1 := by rw [← hw1]; exact below_alloc (Below.refl _ _) _
  have K1 : w1.heap[w.heap.size]? = some (.cells #[.int .i64 0, .int .i64 0] 38 (0, 0)) := by rw [← hw1]; exact blk_new _ _
  clear hw1
  refine (ringS_len (HH.out.below B1)).mono ?_
  rintro e w2 ⟨rfl, rfl⟩
  obtain ⟨bx, hbx⟩ : ∃ bx, w.heap.size = bx := ⟨_, rfl⟩
  have hbg := (B1.block g HLT.out).trans HB.out
  have hbq := (B1.block hh HHL.out).trans HQ.out
  have n1' : ¬ hh = bx := by have := HHL.out; omega
  have n2' : ¬ bx = hh := fun e => n1' e.symm
  have n3' : ¬ g = bx := by have := HLT.out; omega
  have n4' : ¬ bx = g := fun e => n3' e.symm
  have c1 := (blk_cell hbg 1).trans rfl
  have c2 := (blk_cell hbg 2).trans rfl
  have c3 := (blk_cell hbg 3).trans rfl
  have f1 := blk_frozen hbg 1
  have f2 := blk_frozen hbg 2
  have q0 := (B1.cell (p := ⟨hh, f * 2, none⟩) HHL.out).trans HCC.out.1
  have q1 := (B1.cell (p := ⟨hh, f * 2 + 1, none⟩) HHL.out).trans HCC.out.2
  have qf0 := blk_frozen hbq (f * 2)
  have qf1 := blk_frozen hbq (f * 2 + 1)
  rw [hbx] at K1 ⊢
  have b0 := (blk_cell K1 0).trans rfl
  have b1 := (blk_cell K1 1).trans rfl
  have g0 := blk_frozen K1 0
  have g1 := blk_frozen K1 1
  have hr := HWR.out.1
  have hsum := HWR.out.2.1
  have hrw := HWR.out.2.2
  have hw2 := HW2.out
  have HB1 := Lib.hid B1
  have HK1 := Lib.hid K1
  have HBX := Lib.hid hbx
  have HBG := Lib.hid hbg
  have HBQ := Lib.hid hbq
  clear hbg B1 K1 hbx hbq
  go_wp2
  go_region
  go_wp2
  refine still_tail 14 (by kernel_rfl) (by kernel_rfl) ?_
  simp only [List.take_succ_cons, List.take_zero, List.drop_succ_cons, List.drop_zero]
  repeat still_step
  refine wpStill_nil ?_
  clear hr hsum hrw e1 e2 d4 d5
  go_wp2
  have hle : w.heap.size ≤ bx := Nat.le_of_eq HBX.out
  obtain ⟨W8, hW8⟩ : ∃ W8, W8 = (((((((w1.setCell ⟨bx, 0, none⟩ (.int .i64 x.1)).setCell ⟨bx, 1, none⟩ (.int .i64 x.2)).setCell ⟨hh, f * 2, none⟩ (.int .i64 0)).setCell ⟨hh, f * 2 + 1, none⟩ (.int .i64 0)).setCell ⟨g, 1, none⟩ (.int .i64 q)).setCell ⟨g, 2, none⟩ (.int .i64 n1)).setCell ⟨bx, 0, none⟩ (.int .i64 x.1)).setCell ⟨bx, 1, none⟩ (.int .i64 x.2) := ⟨_, rfl⟩
  rw [← hW8]
  have r1 : W8.heap[bx]? = some (.cells #[.int .i64 x.1, .int .i64 x.2] 38 (0, 0)) := by
    rw [hW8]
    exact two_set (blk_far (p := ⟨g, 2, none⟩) (blk_far (p := ⟨g, 1, none⟩) (blk_far (p := ⟨hh, f * 2 + 1, none⟩) (blk_far (p := ⟨hh, f * 2, none⟩) (two_set HK1.out _ _) n2' _) n2' _) n4' _) n4' _) _ _
  have r2 : Below 0 w W8 := by
    rw [hW8]
    exact Below.setCell (p := ⟨bx, 1, none⟩) (Below.setCell (p := ⟨bx, 0, none⟩) (Below.setCell (p := ⟨g, 2, none⟩) (Below.setCell (p := ⟨g, 1, none⟩) (Below.setCell (p := ⟨hh, f * 2 + 1, none⟩) (Below.setCell (p := ⟨hh, f * 2, none⟩) (Below.setCell (p := ⟨bx, 1, none⟩) (Below.setCell (p := ⟨bx, 0, none⟩) (HB1.out.mono (Nat.zero_le _)) (Nat.zero_le _) _) (Nat.zero_le _) _) (Nat.zero_le _) _) (Nat.zero_le _) _) (Nat.zero_le _) _) (Nat.zero_le _) _) (Nat.zero_le _) _) (Nat.zero_le _) _
  have r3 : Kept w W8 (fun k => k = g ∨ ok k) := by
    rw [hW8]
    exact Kept.setCell (p := ⟨bx, 1, none⟩) (Kept.setCell (p := ⟨bx, 0, none⟩) (Kept.setCell (p := ⟨g, 2, none⟩) (Kept.setCell (p := ⟨g, 1, none⟩) (Kept.setCell (p := ⟨hh, f * 2 + 1, none⟩) (Kept.setCell (p := ⟨hh, f * 2, none⟩) (Kept.setCell (p := ⟨bx, 1, none⟩) (Kept.setCell (p := ⟨bx, 0, none⟩) (Kept.of_below HB1.out _) (.inr hle) _) (.inr hle) _) (.inl (.inr HOK.out)) _) (.inl (.inr HOK.out)) _) (.inl (.inl rfl)) _) (.inl (.inl rfl)) _) (.inr hle) _) (.inr hle) _
  have r4 : W8.heap[g]? = some (.cells #[.int .i64 room, .int .i64 q, .int .i64 n1, .slice (some ⟨hh, 0, none⟩) (P.set f zeroS).length (P.set f zeroS).length] 89 (0, 0)) := by
    rw [hW8, List.length_set]
    exact blk_far (p := ⟨bx, 1, none⟩) (blk_far (p := ⟨bx, 0, none⟩) (four_set2 (four_set1 (blk_far (p := ⟨hh, f * 2 + 1, none⟩) (blk_far (p := ⟨hh, f * 2, none⟩) (blk_far (p := ⟨bx, 1, none⟩) (blk_far (p := ⟨bx, 0, none⟩) HBG.out n3' _) n3' _) hne2 _) hne2 _) _) _) n3' _) n3' _
  have r5 : W8.heap[hh]? = some (.cells (cellsOf encS (P.set f zeroS)) 38 (0, 0)) := by
    rw [hW8, ← HST.out]
    exact blk_far (p := ⟨bx, 1, none⟩) (blk_far (p := ⟨bx, 0, none⟩) (blk_far (p := ⟨g, 2, none⟩) (blk_far (p := ⟨g, 1, none⟩) (blk_set (blk_set (blk_far (p := ⟨bx, 1, none⟩) (blk_far (p := ⟨bx, 0, none⟩) HBQ.out n1' _) n1' _) (f * 2) _) (f * 2 + 1) _) hne _) hne _) n1' _) n1' _
  clear hW8
  refine bodyPost_ret (results_ct rfl _ _ bx 38 #[.int .i64 x.1, .int .i64 x.2] (0, 0) _ rfl r1 Try.underlying38 rfl (by kernel_rfl)) rfl ?_
  exact ⟨by first | rfl | simp, below_drew (below_drew r2), r3.drew.drew, ⟨some ⟨hh, 0, none⟩, r4, .inr ⟨hh, rfl, HOK.out, r5⟩⟩, HH.out.away, blk_lt r4⟩
end Go.Proofs.Ytgfnlhigmncdmaa

end
section
namespace Go.Proofs.Ytgfnlhigmncdmaa
open Go.RowKit Go.Proofs.YtgfnlhigmncdmaaW.PrintWords Go.Proofs.YtgfnlhigmncdmaaW.PrintLast Go.Proofs.YtgfnlhigmncdmaaW.PrintMore

set_option maxRecDepth 100000 in
theorem ringS_grow_no {w : World} {g : Nat} {ok : Nat → Prop} {room : Int} {f n : Nat} {P : List (Int × Int)} (h : RingAtS w g ok room f n P) (hn : n < P.length) :
    Calls Try.prog 45 #[.pointer (some ⟨g, 0, none⟩)] w fun e w' => e = .returned (.tuple #[]) ∧ Below w.heap.size w w' := by
  obtain ⟨A, hb, hq⟩ := h.ex
  have c2 := (blk_cell hb 2).trans rfl
  have c3 := (blk_cell hb 3).trans rfl
  have d1 : decide (n < P.length) = true := decide_eq_true hn
  have d2 : decide ((n : Int) < (P.length : Int)) = true := decide_eq_true (by omega)
  clear h hb hq hn
  go_enter Try.func45, Try.ntmps45
  go_wp2
  go_quiet (fail)
  go_wp2
  refine bodyPost_ret (results_none rfl _ _ _) rfl ?_
  exact ⟨rfl, pw_below_drewN (Below.refl _ _) _⟩
theorem infoS : (Try.prog.info? 38).map (fun i => (i.zero, i.size, i.bytes)) = some (some (.agg #[.int .i64 0, .int .i64 0]), 2, 16) := by kernel_rfl
theorem ringS_make (c : Nat) (hc : c * 16 ≤ 281474976710656) (W : World) : (Instr.makeSlice 34 (.int .i64 (c : Int)) (.int .i64 (c : Int))).run Try.prog W = .ok (.slice (some ⟨W.heap.size, 0, none⟩) c c) (W.alloc (.cells (cellsOf encS (List.replicate c zeroS)) 38)) := by
  obtain ⟨i0, hi, hzz⟩ := Option.map_eq_some_iff.1 infoS
  simp only [Prod.mk.injEq] at hzz
  obtain ⟨hz0, hz1, hz2⟩ := hzz
  have h := run_make (P := Try.prog) W 34 38 i0 (.agg #[.int .i64 0, .int .i64 0]) Try.underlying34 hi hz0 .i64 .i64 (c : Int) (c : Int) (by omega) (by omega) (by rw [hz2]; omega) (by omega)
  have e := cells_made (enc := encS) (zc := #[.int .i64 0, .int .i64 0]) (z := zeroS) rfl (by decide) c
  rw [← e]
  simpa [hz1, Value.cells] using h

set_option maxHeartbeats 4000000 in
set_option maxRecDepth 100000 in
theorem ringS_grow_yes {w : World} {g : Nat} {ok : Nat → Prop} {room : Int} {f n : Nat} {P : List (Int × Int)} (h : RingAtS w g ok room f n P) (ho : RingOkS room f n P.length) (hn : n = P.length) (hr : (n : Int) < room) :
    Calls Try.prog 45 #[.pointer (some ⟨g, 0, none⟩)] w fun e w' => e = .returned (.tuple #[]) ∧ Below 0 w w' ∧ Kept w w' (fun k => k = g) ∧ ∃ Q : List (Int × Int),
      RingAtS w' g (fun k => ok k ∨ w.heap.size ≤ k) room 0 n Q ∧ RingOkS room 0 n Q.length ∧ n < Q.length ∧ view zeroS Q 0 n = view zeroS P f n := by
  have hmm := ho.room_
  have hmx := ho.most
  obtain ⟨A, hb, hq⟩ := h.ex
  have c0 := (blk_cell hb 0).trans rfl
  have c1 := (blk_cell hb 1).trans rfl
  have c2 := (blk_cell hb 2).trans rfl
  have c3 := (blk_cell hb 3).trans rfl
  have d1 : decide (n < P.length) = false := decide_eq_false (by omega)
  have d2 : decide ((n : Int) < (P.length : Int)) = false := decide_eq_false (by omega)
  have hmul : IntKind.i64.wrap (2 * (P.length : Int)) = 2 * (P.length : Int) := by rw [i64_w]; unfold wrap64; omega
  have hadd : IntKind.i64.wrap (2 * (P.length : Int) + 4) = 2 * (P.length : Int) + 4 := by rw [i64_w]; unfold wrap64; omega
  obtain ⟨M, hM⟩ : ∃ M : Nat, (if 2 * (P.length : Int) + 4 < room then 2 * (P.length : Int) + 4 else room) = (M : Int) := by
    split
    · exact ⟨2 * P.length + 4, by omega⟩
    · exact ⟨room.toNat, by omega⟩
  have HM := Lib.hid (show n < M ∧ (M : Int) ≤ room by
    rw [← hM]
    split <;> omega)
  have hmk := ringS_make M (by omega)
  have hlt := Lib.hid h.lt
  have HB := Lib.hid hb
  have HQ := Lib.hid hq
  have HH := Lib.hid h
  have HO := Lib.hid ho
  have HN := Lib.hid hn
  have HR := Lib.hid hr
  clear h ho hb hq hn hr hmm hmx
  go_enter Try.func45, Try.ntmps45
  go_wp2
  go_quiet (fail)
  go_wp2
  refine still_tail 12 (by kernel_rfl) (by kernel_rfl) ?_
  simp only [List.take_succ_cons, List.take_zero, List.drop_succ_cons, List.drop_zero]
  repeat still_step
  refine wpStill_nil ?_
  obtain ⟨w2, hw2⟩ : ∃ w2, w2 = (w.drewN nq).drew := ⟨_, rfl⟩
  rw [← hw2]
  have q1 : w2.cell? ⟨g, 1, none⟩ = some (.int .i64 f) := by rw [hw2]; exact c1
  have q2 : w2.cell? ⟨g, 2, none⟩ = some (.int .i64 n) := by rw [hw2]; exact c2
  have q3 : w2.cell? ⟨g, 3, none⟩ = some (.slice A P.length P.length) := by rw [hw2]; exact c3
  have B2 := Lib.hid (show Below w.heap.size w w2 by rw [hw2]; exact below_drew (pw_below_drewN (Below.refl _ _) _))
  have S2 := Lib.hid (show w2.heap.size = w.heap.size by rw [hw2]; rfl)
  have hne : ¬ g = w2.heap.size := by have := S2.out; have := hlt.out; omega
  have hne2 : ¬ w2.heap.size = g := fun e => hne e.symm
  have hlt2 : g < w2.heap.size := by have := S2.out; have := hlt.out; omega
  clear hmul hadd d1 d2 hw2 c0 c1 c2 c3
  go_wp2
  go_loopg [3, 31] n (fun kq v3 v31 w' => ∃ (i : Nat) (Q : List (Int × Int)), v31 = .int .i64 i ∧ Aside0 (i + kq = n) ∧ Aside0 (Q.length = M ∧ ∀ j, j < i → Q.getD j zeroS = P.getD ((f + j) % P.length) zeroS) ∧ Aside0 (w'.heap[w2.heap.size]? = some (.cells (cellsOf encS Q) 38 (0, 0))) ∧ Aside0 (Below w2.heap.size w2 w'))
  case atStart => exact ⟨0, List.replicate M zeroS, rfl, ⟨by omega⟩, ⟨by simp, fun j hj => by omega⟩, ⟨blk_new _ _⟩, ⟨below_alloc (Below.refl _ _) _⟩⟩
  case round =>
    obtain ⟨i, Q, rfl, hk, hQ, hbq, hbel⟩ := hrel
    clear hmk q1 q2 q3 hne hne2 hM
    have hlt3 : g < w2.heap.size := hlt2
    clear hlt2
    by_cases hi : i < n
    · obtain ⟨hh, rfl, hok, hq⟩ : ∃ h, A = some ⟨h, 0, none⟩ ∧ ok h ∧ w.heap[h]? = some (.cells (cellsOf encS P) 38 (0, 0)) := by
        rcases HQ.out with ⟨hp, _⟩ | hq
        · have := HN.out
          rw [hp] at this
          simp at this
          omega
        · exact hq
      have hf := (HO.out.at_ : f < P.length ∨ P.length = 0 ∧ f = 0)
      have hn := HN.out
      obtain ⟨q, hqq⟩ : ∃ q, (f + i) % P.length = q := ⟨_, rfl⟩
      have hql : q < P.length := hqq ▸ Nat.mod_lt _ (by omega)
      have hmx := HO.out.most
      have hmm := HO.out.room_
      have hM := HM.out
      have c1 : wr.cell? ⟨g, 1, none⟩ = some (.int .i64 f) := (hbel.out.cell (p := ⟨g, 1, none⟩) hlt3).trans ((B2.out.cell (p := ⟨g, 1, none⟩) hlt.out).trans ((blk_cell HB.out 1).trans rfl))
      have c3 : wr.cell? ⟨g, 3, none⟩ = some (.slice (some ⟨hh, 0, none⟩) P.length P.length) := (hbel.out.cell (p := ⟨g, 3, none⟩) hlt3).trans ((B2.out.cell (p := ⟨g, 3, none⟩) hlt.out).trans ((blk_cell HB.out 3).trans rfl))
      have hhl := blk_lt hq
      have hhl2 : hh < w2.heap.size := by rw [S2.out]; exact hhl
      have hcc := cellsS hq hql
      have c4 : wr.cell? ⟨hh, q * 2, none⟩ = some (.int .i64 (P.getD q zeroS).1) := (hbel.out.cell (p := ⟨hh, q * 2, none⟩) hhl2).trans ((B2.out.cell (p := ⟨hh, q * 2, none⟩) hhl).trans hcc.1)
      have c4' : wr.cell? ⟨hh, q * 2 + 1, none⟩ = some (.int .i64 (P.getD q zeroS).2) := (hbel.out.cell (p := ⟨hh, q * 2 + 1, none⟩) hhl2).trans ((B2.out.cell (p := ⟨hh, q * 2 + 1, none⟩) hhl).trans hcc.2)
      have hiQ : i < Q.length := by have := hQ.out.1; omega
      obtain ⟨c5, c5'⟩ := cellsS hbq.out hiQ
      have f5 := blk_frozen hbq.out (i * 2)
      have f5' := blk_frozen hbq.out (i * 2 + 1)
      obtain ⟨x, hx⟩ : ∃ x, P.getD q zeroS = x := ⟨_, rfl⟩
      rw [hx] at c4 c4'
      have HREL := Lib.hid (show (Q.set i x).length = M ∧ ∀ j, j < i + 1 → (Q.set i x).getD j zeroS = P.getD ((f + j) % P.length) zeroS from ⟨by rw [List.length_set]; exact hQ.out.1, fun j hj => by
        by_cases hji : j = i
        · rw [hji, hqq, hx, List.getD_eq_getElem?_getD, List.getElem?_set_self hiQ]; rfl
        · rw [← hQ.out.2 j (by omega), List.getD_eq_getElem?_getD, List.getD_eq_getElem?_getD, List.getElem?_set_ne (fun e => hji e.symm)]⟩)
      have HSET := Lib.hid (cells_set2 (P := Q) encS_len (show encS x = [.int .i64 x.1, .int .i64 x.2] from rfl) i)
      have d0 : decide (i < n) = true := decide_eq_true hi
      have d1 : decide ((i : Int) < (n : Int)) = true := decide_eq_true (by omega)
      have e1 := eq_true (show (0 : Int) ≤ (q : Int) by omega)
      have e2 : ((q : Int) < (P.length : Int)) = True := eq_true (by omega)
      have e3 := eq_true hql
      have e4 := eq_true (show (0 : Int) ≤ (i : Int) by omega)
      have e5 : ((i : Int) < (M : Int)) = True := eq_true (by omega)
      have e6 := eq_true (show i < M by omega)
      have d5 : ¬ (P.length : Int) = 0 := by omega
      have d8 : ¬ P = [] := by rintro rfl; simp at hql
      have hr : (((f : Int) + (i : Int)).tmod (P.length : Int)) = (q : Int) := by
        rw [← hqq, ← Int.natCast_add, Int.ofNat_tmod]
      have hsum : IntKind.i64.wrap ((f : Int) + (i : Int)) = (f : Int) + (i : Int) := by rw [i64_w]; unfold wrap64; omega
      have hrw : IntKind.i64.wrap ((q : Nat) : Int) = (q : Int) := by rw [i64_w]; unfold wrap64; omega
      have HWI := Lib.hid (show wrap64 ((i : Int) + 1) = ((i + 1 : Nat) : Int) by unfold wrap64; omega)
      have HI := Lib.hid hi
      clear hi hf hn hqq hql hmx hmm hM hx hiQ hok hq hhl hhl2 hcc
      go_wp2
      refine still_tail 21 (by kernel_rfl) (by kernel_rfl) ?_
      simp only [List.take_succ_cons, List.take_zero, List.drop_succ_cons, List.drop_zero]
      repeat still_step
      refine wpStill_nil ?_
      clear hr hsum hrw e1 e2 d5
      go_wp2
      go_roundg (gk - 1)
      case measure => have := hk.out; have := HI.out; omega
      case rel =>
        refine ⟨i + 1, Q.set i x, by first | rfl | rw [HWI.out], ⟨by have := hk.out; have := HI.out; omega⟩, ⟨HREL.out⟩, ⟨?_⟩, ⟨?_⟩⟩
        · exact (blk_set (blk_set hbq.out (i * 2) _) (i * 2 + 1) _).trans (by rw [HSET.out])
        · exact below_drew (Below.setCell (p := ⟨w2.heap.size, i * 2 + 1, none⟩) (Below.setCell (p := ⟨w2.heap.size, i * 2, none⟩) hbel.out (Nat.le_refl _) _) (Nat.le_refl _) _)
    · have d0 : decide (i < n) = false := decide_eq_false hi
      have d1 : decide ((i : Int) < (n : Int)) = false := decide_eq_false (by omega)
      have hin : i = n := by have := hk.out; omega
      subst hin
      clear hi
      have hbg := (hbel.out.block g hlt3).trans ((B2.out.block g hlt.out).trans HB.out)
      have k1 := (blk_cell hbg 1).trans rfl
      have k3 := (blk_cell hbg 3).trans rfl
      have f1 := blk_frozen hbg 1
      have f3 := blk_frozen hbg 3
      have HG := Lib.hid hbg
      have hne : ¬ w2.heap.size = g := by omega
      clear hbg
      go_wp2
      go_end0
      have hz := S2.out
      have hbw : Below w.heap.size w wr := B2.out.trans (hbel.out.mono (by omega))
      refine ⟨rfl, ?_, ?_, Q, ⟨⟨some ⟨w2.heap.size, 0, none⟩, ?_, .inr ⟨w2.heap.size, rfl, .inr (by omega), ?_⟩⟩, ?_, ?_⟩, ⟨?_, ?_, ?_, HO.out.most⟩, ?_, ?_⟩
      · exact Below.setCell (p := ⟨g, 1, none⟩) (Below.setCell (p := ⟨g, 3, none⟩) (hbw.mono (Nat.zero_le _)) (Nat.zero_le _) _) (Nat.zero_le _) _
      · exact Kept.setCell (S := fun k => k = g) (p := ⟨g, 1, none⟩) (Kept.setCell (S := fun k => k = g) (p := ⟨g, 3, none⟩) (Kept.of_below hbw _) (.inl rfl) _) (.inl rfl) _
      · rw [hQ.out.1]
        exact four_set1 (four_set3 HG.out _) _
      · exact blk_far (p := ⟨g, 1, none⟩) (blk_far (p := ⟨g, 3, none⟩) hbq.out hne _) hne _
      · rintro k (hk | hk)
        · exact HH.out.away k hk
        · have := hlt.out; omega
      · have := blk_lt HG.out
        simpa using this
      · have := hQ.out.1; have := HM.out; omega
      · have := hQ.out.1; have := HM.out; omega
      · have := hQ.out.1; have := HM.out; omega
      · have := hQ.out.1; have := HM.out; omega
      · exact view_grow zeroS (by have := hQ.out.1; have := HM.out; omega) hQ.out.2
end Go.Proofs.Ytgfnlhigmncdmaa

end
section
namespace Go.Proofs.Ytgfnlhigmncdmaa
open Go.RowKit Go.Proofs.YtgfnlhigmncdmaaW.PrintWords Go.Proofs.YtgfnlhigmncdmaaW.PrintLast Go.Proofs.YtgfnlhigmncdmaaW.PrintMore
theorem ringS_grow {w : World} {g : Nat} {ok : Nat → Prop} {room : Int} {f n : Nat} {P : List (Int × Int)} (h : RingAtS w g ok room f n P) (ho : RingOkS room f n P.length) (hr : (n : Int) < room) :
    Calls Try.prog 45 #[.pointer (some ⟨g, 0, none⟩)] w fun e w' => e = .returned (.tuple #[]) ∧ Below 0 w w' ∧ Kept w w' (fun k => k = g) ∧ ∃ (f' : Nat) (Q : List (Int × Int)),
      RingAtS w' g (fun k => ok k ∨ w.heap.size ≤ k) room f' n Q ∧ RingOkS room f' n Q.length ∧ n < Q.length ∧ view zeroS Q f' n = view zeroS P f n := by
  by_cases hn : n < P.length
  · refine (ringS_grow_no h hn).mono ?_
    rintro e w' ⟨rfl, hb⟩
    refine ⟨rfl, hb.mono (Nat.zero_le _), Kept.of_below hb _, f, P, ?_, ho, hn, rfl⟩
    obtain ⟨⟨A, h1, h2⟩, h3, h4⟩ := h
    refine ⟨⟨A, (hb.block g h4).trans h1, ?_⟩, ?_, Nat.lt_of_lt_of_le h4 hb.size⟩
    · rcases h2 with h2 | ⟨hh, e, hok, hq⟩
      · exact .inl h2
      · exact .inr ⟨hh, e, .inl hok, (hb.block hh (blk_lt hq)).trans hq⟩
    · rintro k (hk | hk)
      · exact h3 k hk
      · omega
  · refine (ringS_grow_yes h ho (by have := ho.le; omega) hr).mono ?_
    rintro e w' ⟨rfl, h1, h2, Q, h3, h4, h5, h6⟩
    exact ⟨rfl, h1, h2, 0, Q, h3, h4, h5, h6⟩
theorem RingAtS.tight {w : World} {g : Nat} {ok : Nat → Prop} {room : Int} {f n : Nat} {P : List (Int × Int)} (h : RingAtS w g ok room f n P) : RingAtS w g (fun k => ok k ∧ k < w.heap.size) room f n P := by
  obtain ⟨⟨A, h1, hq⟩, h3, h4⟩ := h
  refine ⟨⟨A, h1, ?_⟩, fun k hk => h3 k hk.1, h4⟩
  rcases hq with hq | ⟨hh, e, hok, hq⟩
  · exact .inl hq
  · exact .inr ⟨hh, e, ⟨hok, blk_lt hq⟩, hq⟩
theorem RingAtS.kept {w w' : World} {g : Nat} {ok : Nat → Prop} {room : Int} {f n : Nat} {P : List (Int × Int)} {S : Nat → Prop} (h : RingAtS w g ok room f n P) (hk : Kept w w' S) (hg : ¬ S g) (hs : ∀ k, ok k → ¬ S k) : RingAtS w' g ok room f n P := by
  obtain ⟨⟨A, h1, h2⟩, h3, h4⟩ := h
  refine ⟨⟨A, blk_kept h1 hk hg, ?_⟩, h3, Nat.lt_of_lt_of_le h4 hk.1⟩
  rcases h2 with h2 | ⟨hh, e, hok, hq⟩
  · exact .inl h2
  · exact .inr ⟨hh, e, hok, blk_kept hq hk (hs _ hok)⟩
set_option maxHeartbeats 8000000 in
set_option maxRecDepth 100000 in
theorem ringS_push_room {w : World} {g : Nat} {ok : Nat → Prop} {room : Int} {f n : Nat} {P : List (Int × Int)} (v : Int × Int) (h : RingAtS w g ok room f n P) (ho : RingOkS room f n P.length) (hr : 0 < room) (hlt : (n : Int) < room) :
    Calls Try.prog 24 #[.pointer (some ⟨g, 0, none⟩), valS v] w fun e w' => e = .returned (.tuple #[valS zeroS, .bool false]) ∧ Below 0 w w' ∧ Kept w w' (fun k => k = g ∨ ok k) ∧ ∃ (f' : Nat) (Q : List (Int × Int)),
      RingAtS w' g (fun k => ok k ∨ w.heap.size ≤ k) room f' (n + 1) Q ∧ RingOkS room f' (n + 1) Q.length ∧ view zeroS Q f' (n + 1) = view zeroS P f n ++ [v] := by
  obtain ⟨A, hb, hq⟩ := h.ex
  have d0 : (room == 0) = false := beq_eq_false_iff_ne.2 (by omega)
  have d1 : ((n : Int) == room) = false := beq_eq_false_iff_ne.2 (by omega)
  have HB0 := Lib.hid hb
  have HH := Lib.hid h
  have HO := Lib.hid ho
  have HR := Lib.hid hr
  have HL := Lib.hid hlt
  have HLT := Lib.hid h.lt
  clear h ho hb hq hr hlt
  go_enter Try.func24, Try.ntmps24
  go_wp2_with fail
  generalize hw0 : World.alloc (World.alloc w _) _ = w0
  obtain ⟨bv, hbv⟩ : ∃ bv, w.heap.size = bv := ⟨_, rfl⟩
  obtain ⟨bo, hbo⟩ : ∃ bo, bv + 1 = bo := ⟨_, rfl⟩
  have b0 : Below w.heap.size w w0 := by rw [← hw0]; exact below_alloc (below_alloc (Below.refl _ _) _) _
  have vb0 : w0.heap[bv]? = some (.cells #[.int .i64 v.1, .int .i64 v.2] 38 (0, 0)) := by rw [← hw0, ← hbv]; exact blk_alloc (blk_new w _) _
  have ob0 : w0.heap[bo]? = some (.cells #[.int .i64 0, .int .i64 0] 38 (0, 0)) := by
    rw [← hw0, ← hbo, ← hbv]
    have := blk_new (w.alloc (.cells #[.int .i64 v.1, .int .i64 v.2] 38 (0, 0))) (.cells #[.int .i64 0, .int .i64 0] 38 (0, 0))
    rw [World.size_alloc] at this
    exact this
  have s0 : w0.heap.size = w.heap.size + 2 := by rw [← hw0, World.size_alloc, World.size_alloc]
  rw [hbv, hbo]
  have HBV := Lib.hid hbv
  have HBO := Lib.hid (show bo = w.heap.size + 1 by omega)
  clear hw0 hbv hbo
  refine (ringS_room (HH.out.below b0)).mono ?_
  rintro e wz ⟨rfl, rfl⟩
  have hbg := (b0.block g HLT.out).trans HB0.out
  have c0 := (blk_cell hbg 0).trans rfl
  have c2 := (blk_cell hbg 2).trans rfl
  have BB0 := Lib.hid b0
  have VB0 := Lib.hid vb0
  have OB0 := Lib.hid ob0
  have SS0 := Lib.hid s0
  clear hbg b0 vb0 ob0 s0
  go_wp2_with fail
  go_quiet (fail)
  clear c0 c2
  obtain ⟨w1, hw1⟩ : ∃ w1, w1 = w0.drewN nq := ⟨_, rfl⟩
  rw [← hw1]
  have bw : Below w.heap.size w w1 := by rw [hw1]; exact pw_below_drewN BB0.out _
  have b1 : Below 0 w w1 := bw.mono (Nat.zero_le _)
  have k1 : Kept w w1 (fun k => k = g ∨ ok k) := Kept.of_below bw _
  have m1 : RingAtS w1 g (fun k => ok k ∧ k < w.heap.size) room f n P := HH.out.tight.below bw
  have m2 := HO.out
  have m3 := HL.out
  have vb : w1.heap[bv]? = some (.cells #[.int .i64 v.1, .int .i64 v.2] 38 (0, 0)) := by rw [hw1]; exact VB0.out
  have ob : w1.heap[bo]? = some (.cells #[.int .i64 0, .int .i64 0] 38 (0, 0)) := by rw [hw1]; exact OB0.out
  have sz : w.heap.size + 2 ≤ w1.heap.size := by rw [hw1]; exact Nat.le_of_eq SS0.out.symm
  clear hw1 bw d0 d1
  have M1 := Lib.hid m1
  have M2 := Lib.hid m2
  have M3 := Lib.hid m3
  have B1 := Lib.hid b1
  have K1 := Lib.hid k1
  have VB := Lib.hid vb
  have OB := Lib.hid ob
  have SZ := Lib.hid sz
  clear m1 m2 m3 b1 k1 vb ob sz
  go_wp2_with fail
  refine (ringS_grow M1.out M2.out M3.out).mono ?_
  rintro e w2 ⟨rfl, b2, k2, f2, Q, a2, o2, l2, v2⟩
  obtain ⟨A, hb, hq⟩ := a2.ex
  obtain ⟨hh, rfl, hok, hq⟩ : ∃ h, A = some ⟨h, 0, none⟩ ∧ (ok h ∧ h < w.heap.size ∨ w1.heap.size ≤ h) ∧ w2.heap[h]? = some (.cells (cellsOf encS Q) 38 (0, 0)) := by
    rcases hq with ⟨hp, _⟩ | hq
    · rw [hp] at l2
      simp at l2
    · exact hq
  have hf : f2 < Q.length := by rcases o2.at_ with hf | ⟨h2, _⟩ <;> omega
  have hmm := o2.room_
  have hmx := o2.most
  obtain ⟨q, hqq⟩ : ∃ q, (f2 + n) % Q.length = q := ⟨_, rfl⟩
  have hql : q < Q.length := hqq ▸ Nat.mod_lt _ (by omega)
  have hcc := cellsS hq hql
  have qc0 := hcc.1
  have qc1 := hcc.2
  have HST := Lib.hid (cells_set2 (P := Q) encS_len (show encS v = [.int .i64 v.1, .int .i64 v.2] from rfl) q)
  have VW := Lib.hid (show view zeroS (Q.set q v) f2 (n + 1) = view zeroS Q f2 n ++ [v] by rw [← hqq]; exact view_push zeroS hf l2)
  have qf0 := blk_frozen hq (q * 2)
  have qf1 := blk_frozen hq (q * 2 + 1)
  obtain ⟨N1, hN1⟩ : ∃ N1, n + 1 = N1 := ⟨_, rfl⟩
  have HW2 := Lib.hid (show wrap64 ((n : Int) + 1) = (N1 : Int) by unfold wrap64; omega)
  have c1 := (blk_cell hb 1).trans rfl
  have c2 := (blk_cell hb 2).trans rfl
  have c3 := (blk_cell hb 3).trans rfl
  have g2 := blk_frozen hb 2
  have e1 := eq_true (show (0 : Int) ≤ (q : Int) by omega)
  have e2 : ((q : Int) < (Q.length : Int)) = True := eq_true (by omega)
  have e3 := eq_true hql
  have hne : ¬ hh = g := a2.away _ hok
  have hne2 : ¬ g = hh := fun e => hne e.symm
  have hlg := HLT.out
  have sz := SZ.out
  have x1 : ¬ bv = g := by have := HBV.out; omega
  have x2 : ¬ bo = g := by have := HBO.out; omega
  have x1' : ¬ g = bv := fun e => x1 e.symm
  have x2' : ¬ g = bo := fun e => x2 e.symm
  have x3 : ¬ bv = hh := by have := HBV.out; rcases hok with hok | hok <;> omega
  have x4 : ¬ bo = hh := by have := HBO.out; rcases hok with hok | hok <;> omega
  have x3' : ¬ hh = bv := fun e => x3 e.symm
  have x4' : ¬ hh = bo := fun e => x4 e.symm
  have hvb := blk_kept VB.out k2 x1
  have hob := blk_kept OB.out k2 x2
  have v0 := (blk_cell hvb 0).trans rfl
  have v1 := (blk_cell hvb 1).trans rfl
  have o0 := (blk_cell hob 0).trans rfl
  have o1 := (blk_cell hob 1).trans rfl
  have of0 := blk_frozen hob 0
  have of1 := blk_frozen hob 1
  have d5 : ¬ (Q.length : Int) = 0 := by omega
  have d8 : ¬ Q = [] := by rintro rfl; simp at hf
  have OK2 := Lib.hid (show RingOkS room f2 N1 Q.length from ⟨by omega, .inl hf, hmm, hmx⟩)
  have WR := Lib.hid (ringWrapsS f2 n q Q.length (by omega) (by omega) (by omega) hqq)
  have A2 := Lib.hid a2
  have HB := Lib.hid hb
  have HQ := Lib.hid hq
  have HOK := Lib.hid hok
  have B2 := Lib.hid b2
  have K2 := Lib.hid k2
  have V2 := Lib.hid v2
  have HN1 := Lib.hid hN1
  have HOB := Lib.hid hob
  clear a2 hb hq hok b2 k2 v2 o2 l2 hf hmm hmx hqq hql hN1 hcc hvb hob hlg sz
  have hr := WR.out.1
  have hsum := WR.out.2.1
  have hrw := WR.out.2.2
  have hw2 := HW2.out
  go_wp2
  refine still_tail 21 (by kernel_rfl) (by kernel_rfl) ?_
  simp only [List.take_succ_cons, List.take_zero, List.drop_succ_cons, List.drop_zero]
  repeat still_step
  refine wpStill_nil ?_
  clear hr hsum hrw e1 e2 d5
  go_wp2
  obtain ⟨W8, hW8⟩ : ∃ W8, W8 = ((((w2.setCell ⟨hh, q * 2, none⟩ (.int .i64 v.1)).setCell ⟨hh, q * 2 + 1, none⟩ (.int .i64 v.2)).setCell ⟨g, 2, none⟩ (.int .i64 N1)).setCell ⟨bo, 0, none⟩ (.int .i64 0)).setCell ⟨bo, 1, none⟩ (.int .i64 0) := ⟨_, rfl⟩
  rw [← hW8]
  have r1 : W8.heap[bo]? = some (.cells #[(.int .i64 0), (.int .i64 0)] 38 (0, 0)) := by
    rw [hW8]
    exact two_set (blk_far (p := ⟨g, 2, none⟩) (blk_far (p := ⟨hh, q * 2 + 1, none⟩) (blk_far (p := ⟨hh, q * 2, none⟩) HOB.out x4 _) x4 _) x2 _) _ _
  have r2 : Below 0 w W8 := by
    rw [hW8]
    exact Below.setCell (p := ⟨bo, 1, none⟩) (Below.setCell (p := ⟨bo, 0, none⟩) (Below.setCell (p := ⟨g, 2, none⟩) (Below.setCell (p := ⟨hh, q * 2 + 1, none⟩) (Below.setCell (p := ⟨hh, q * 2, none⟩) (B1.out.trans B2.out) (Nat.zero_le _) _) (Nat.zero_le _) _) (Nat.zero_le _) _) (Nat.zero_le _) _) (Nat.zero_le _) _
  have hS : (k : Nat) → (ok k ∧ k < w.heap.size ∨ w1.heap.size ≤ k) → (k = g ∨ ok k) ∨ w.heap.size ≤ k := by
    rintro k (hk | hk)
    · exact .inl (.inr hk.1)
    · exact .inr (Nat.le_trans K1.out.1 hk)
  have hbo : w.heap.size ≤ bo := by have := HBO.out; omega
  have r3 : Kept w W8 (fun k => k = g ∨ ok k) := by
    rw [hW8]
    exact Kept.setCell (p := ⟨bo, 1, none⟩) (Kept.setCell (p := ⟨bo, 0, none⟩) (Kept.setCell (p := ⟨g, 2, none⟩) (Kept.setCell (p := ⟨hh, q * 2 + 1, none⟩) (Kept.setCell (p := ⟨hh, q * 2, none⟩) (Kept.then_ K1.out K2.out (fun k hk => .inl (.inl hk))) (hS hh HOK.out) _) (hS hh HOK.out) _) (.inl (.inl rfl)) _) (.inr hbo) _) (.inr hbo) _
  have r4 : W8.heap[g]? = some (.cells #[.int .i64 room, .int .i64 f2, .int .i64 N1, .slice (some ⟨hh, 0, none⟩) (Q.set q v).length (Q.set q v).length] 89 (0, 0)) := by
    rw [hW8, List.length_set]
    exact blk_far (p := ⟨bo, 1, none⟩) (blk_far (p := ⟨bo, 0, none⟩) (four_set2 (blk_far (p := ⟨hh, q * 2 + 1, none⟩) (blk_far (p := ⟨hh, q * 2, none⟩) HB.out hne2 _) hne2 _) _) x2' _) x2' _
  have r5 : W8.heap[hh]? = some (.cells (cellsOf encS (Q.set q v)) 38 (0, 0)) := by
    rw [hW8, ← HST.out]
    exact blk_far (p := ⟨bo, 1, none⟩) (blk_far (p := ⟨bo, 0, none⟩) (blk_far (p := ⟨g, 2, none⟩) (blk_set (blk_set HQ.out (q * 2) _) (q * 2 + 1) _) hne _) x4' _) x4' _
  clear hW8
  refine bodyPost_ret (results_ct rfl _ _ bo 38 #[(.int .i64 0), (.int .i64 0)] (0, 0) _ rfl r1 Try.underlying38 rfl (by kernel_rfl)) rfl ?_
  refine ⟨by first | rfl | simp, below_drew r2, r3.drew, f2, Q.set q v, ⟨⟨some ⟨hh, 0, none⟩, ?_, .inr ⟨hh, rfl, ?_, r5⟩⟩, ?_, blk_lt r4⟩, ?_, ?_⟩
  · rw [HN1.out]
    exact r4
  · rcases HOK.out with h1 | h1
    · exact .inl h1.1
    · exact .inr (Nat.le_trans K1.out.1 h1)
  · rintro k (hk | hk)
    · exact HH.out.away k hk
    · have := HLT.out; omega
  · rw [List.length_set, HN1.out]
    exact OK2.out
  · rw [VW.out, V2.out]
set_option maxHeartbeats 8000000 in
set_option maxRecDepth 100000 in
theorem ringS_push_full {w : World} {g : Nat} {ok : Nat → Prop} {room : Int} {f n : Nat} {P : List (Int × Int)} (v : Int × Int) (h : RingAtS w g ok room f n P) (ho : RingOkS room f n P.length) (hr : 0 < room) (hlt : (n : Int) = room) :
    Calls Try.prog 24 #[.pointer (some ⟨g, 0, none⟩), valS v] w fun e w' => e = .returned (.tuple #[valS (P.getD f zeroS), .bool true]) ∧ Below 0 w w' ∧ Kept w w' (fun k => k = g ∨ ok k) ∧ ∃ (f' : Nat) (Q : List (Int × Int)),
      RingAtS w' g (fun k => ok k ∨ w.heap.size ≤ k) room f' (n) Q ∧ RingOkS room f' (n) Q.length ∧ view zeroS Q f' (n) = (view zeroS P f n).tail ++ [v] := by
  obtain ⟨A, hb, hq⟩ := h.ex
  have d0 : (room == 0) = false := beq_eq_false_iff_ne.2 (by omega)
  have d1 : ((n : Int) == room) = true := by simp [hlt]
  have HB0 := Lib.hid hb
  have HH := Lib.hid h
  have HO := Lib.hid ho
  have HR := Lib.hid hr
  have HL := Lib.hid hlt
  have HLT := Lib.hid h.lt
  clear h ho hb hq hr hlt
  go_enter Try.func24, Try.ntmps24
  go_wp2_with fail
  generalize hw0 : World.alloc (World.alloc w _) _ = w0
  obtain ⟨bv, hbv⟩ : ∃ bv, w.heap.size = bv := ⟨_, rfl⟩
  obtain ⟨bo, hbo⟩ : ∃ bo, bv + 1 = bo := ⟨_, rfl⟩
  have b0 : Below w.heap.size w w0 := by rw [← hw0]; exact below_alloc (below_alloc (Below.refl _ _) _) _
  have vb0 : w0.heap[bv]? = some (.cells #[.int .i64 v.1, .int .i64 v.2] 38 (0, 0)) := by rw [← hw0, ← hbv]; exact blk_alloc (blk_new w _) _
  have ob0 : w0.heap[bo]? = some (.cells #[.int .i64 0, .int .i64 0] 38 (0, 0)) := by
    rw [← hw0, ← hbo, ← hbv]
    have := blk_new (w.alloc (.cells #[.int .i64 v.1, .int .i64 v.2] 38 (0, 0))) (.cells #[.int .i64 0, .int .i64 0] 38 (0, 0))
    rw [World.size_alloc] at this
    exact this
  have s0 : w0.heap.size = w.heap.size + 2 := by rw [← hw0, World.size_alloc, World.size_alloc]
  rw [hbv, hbo]
  have HBV := Lib.hid hbv
  have HBO := Lib.hid (show bo = w.heap.size + 1 by omega)
  clear hw0 hbv hbo
  refine (ringS_room (HH.out.below b0)).mono ?_
  rintro e wz ⟨rfl, rfl⟩
  have hbg := (b0.block g HLT.out).trans HB0.out
  have c0 := (blk_cell hbg 0).trans rfl
  have c2 := (blk_cell hbg 2).trans rfl
  have BB0 := Lib.hid b0
  have VB0 := Lib.hid vb0
  have OB0 := Lib.hid ob0
  have SS0 := Lib.hid s0
  clear hbg b0 vb0 ob0 s0
  go_wp2_with fail
  go_quiet (fail)
  clear c0 c2
  obtain ⟨n1, hn1⟩ : ∃ n1, n = n1 + 1 := ⟨n - 1, by have := HR.out; have := HL.out; omega⟩
  have HNN := Lib.hid hn1
  have ht : RingAtS (w0.drewN nq) g (fun k => ok k ∧ k < w.heap.size) room f n P := HH.out.tight.below (pw_below_drewN BB0.out _)
  go_wp2_with fail
  refine (ringS_drop ht HO.out (by omega)).mono ?_
  rintro e w1 ⟨rfl, b1, k1, m1⟩
  have b1 : Below 0 w w1 := (pw_below_drewN (BB0.out.mono (Nat.zero_le _)) nq).trans b1
  have hb2 := HBV.out
  have hb3 := HBO.out
  have hlg := HLT.out
  have nx : ∀ k, w.heap.size ≤ k → ¬ (k = g ∨ ok k ∧ k < w.heap.size) := by
    rintro k hk (rfl | ⟨_, h2⟩) <;> omega
  have vb : w1.heap[bv]? = some (.cells #[.int .i64 v.1, .int .i64 v.2] 38 (0, 0)) := blk_kept (W := w0.drewN nq) VB0.out k1 (nx bv (by omega))
  have ob' : w1.heap[bo]? = some (.cells #[.int .i64 0, .int .i64 0] 38 (0, 0)) := blk_kept (W := w0.drewN nq) OB0.out k1 (nx bo (by omega))
  have sz : w.heap.size + 2 ≤ w1.heap.size := Nat.le_trans (Nat.le_of_eq SS0.out.symm) k1.1
  have k1 : Kept w w1 (fun k => k = g ∨ ok k) := Kept.then_ (Kept.of_below (pw_below_drewN BB0.out nq) _) k1 (fun k hk => .inl (by rcases hk with hk | hk; exact .inl hk; exact .inr hk.1))
  have hm := HO.out.le
  have hf : f < P.length := by rcases HO.out.at_ with hf | ⟨h2, _⟩ <;> omega
  have hrl := HO.out.room_
  have hrm := HO.out.most
  have m2 : RingOkS room ((f + 1) % P.length) n1 (P.set f zeroS).length := by
    rw [List.length_set]
    exact ⟨by omega, .inl (Nat.mod_lt _ (by omega)), hrl, hrm⟩
  have m3 : (n1 : Int) < room := by have := HL.out; omega
  have v1 : view zeroS (P.set f zeroS) ((f + 1) % P.length) n1 = (view zeroS P f n).tail := by
    rw [hn1, view_drop zeroS hf (by omega)]
    rfl
  rw [show n - 1 = n1 by omega] at m1
  obtain ⟨P1, hP1⟩ : ∃ P1, P.set f zeroS = P1 := ⟨_, rfl⟩
  obtain ⟨f1, hf1⟩ : ∃ f1, (f + 1) % P.length = f1 := ⟨_, rfl⟩
  rw [hP1, hf1] at m1 m2 v1
  obtain ⟨o, ho⟩ : ∃ o, P.getD f zeroS = o := ⟨_, rfl⟩
  have HOO := Lib.hid ho
  rw [ho]
  have hng : ¬ bo = g := by omega
  have hng' : ¬ g = bo := by omega
  have b1' := blk_cell ob' 0
  have b2' := blk_cell ob' 1
  have t1' := blk_frozen ob' 0
  have t2' := blk_frozen ob' 1
  have HM1 := Lib.hid m1
  have HM2 := Lib.hid m2
  have HM3 := Lib.hid m3
  have HV1 := Lib.hid v1
  have HVB := Lib.hid vb
  have HOB' := Lib.hid ob'
  have HSZ := Lib.hid sz
  have HK1 := Lib.hid k1
  have HB1 := Lib.hid b1
  clear hm hf hrl hrm hn1 hP1 hf1 ho d0 d1 ht m1 m2 m3 v1 vb ob' sz k1 b1 nx hb2 hb3 hlg
  go_wp2_with fail
  obtain ⟨w1', hw1'⟩ : ∃ w1', w1' = (w1.setCell ⟨bo, 0, none⟩ (.int .i64 o.1)).setCell ⟨bo, 1, none⟩ (.int .i64 o.2) := ⟨_, rfl⟩
  rw [← hw1']
  have kk : Kept w1 w1' (fun k => k = bo) := by
    rw [hw1']
    exact Kept.setCell (S := fun k => k = bo) (p := ⟨bo, 1, none⟩) (Kept.setCell (S := fun k => k = bo) (p := ⟨bo, 0, none⟩) (Kept.refl _ _) (.inl rfl) _) (.inl rfl) _
  have ob : w1'.heap[bo]? = some (.cells #[.int .i64 o.1, .int .i64 o.2] 38 (0, 0)) := by rw [hw1']; exact two_set HOB'.out _ _
  have hb3 := HBO.out
  have hbv := HBV.out
  have vb : w1'.heap[bv]? = some (.cells #[.int .i64 v.1, .int .i64 v.2] 38 (0, 0)) := blk_kept HVB.out kk (by omega)
  have m1 := HM1.out.kept kk hng' (fun k hk e => by have := hk.2; omega)
  have m2 := HM2.out
  have m3 := HM3.out
  have v1 := HV1.out
  have b1 : Below 0 w w1' := by
    rw [hw1']
    exact Below.setCell (p := ⟨bo, 1, none⟩) (Below.setCell (p := ⟨bo, 0, none⟩) HB1.out (Nat.zero_le _) _) (Nat.zero_le _) _
  have k1 : Kept w w1' (fun k => k = g ∨ ok k) := Kept.then_ HK1.out kk (fun k hk => .inr (by omega))
  have sz : w.heap.size + 2 ≤ w1'.heap.size := Nat.le_trans HSZ.out kk.1
  clear hw1' kk hb3 hbv b1' b2' t1' t2' hng hng'
  have M1 := Lib.hid m1
  have M2 := Lib.hid m2
  have M3 := Lib.hid m3
  have B1 := Lib.hid b1
  have K1 := Lib.hid k1
  have VB := Lib.hid vb
  have OB := Lib.hid ob
  have SZ := Lib.hid sz
  have V1 := Lib.hid v1
  clear v1
  clear m1 m2 m3 b1 k1 vb ob sz
  go_wp2_with fail
  refine (ringS_grow M1.out M2.out M3.out).mono ?_
  rintro e w2 ⟨rfl, b2, k2, f2, Q, a2, o2, l2, v2⟩
  obtain ⟨A, hb, hq⟩ := a2.ex
  obtain ⟨hh, rfl, hok, hq⟩ : ∃ h, A = some ⟨h, 0, none⟩ ∧ (ok h ∧ h < w.heap.size ∨ w1'.heap.size ≤ h) ∧ w2.heap[h]? = some (.cells (cellsOf encS Q) 38 (0, 0)) := by
    rcases hq with ⟨hp, _⟩ | hq
    · rw [hp] at l2
      simp at l2
    · exact hq
  have hf : f2 < Q.length := by rcases o2.at_ with hf | ⟨h2, _⟩ <;> omega
  have hmm := o2.room_
  have hmx := o2.most
  obtain ⟨q, hqq⟩ : ∃ q, (f2 + n1) % Q.length = q := ⟨_, rfl⟩
  have hql : q < Q.length := hqq ▸ Nat.mod_lt _ (by omega)
  have hcc := cellsS hq hql
  have qc0 := hcc.1
  have qc1 := hcc.2
  have HST := Lib.hid (cells_set2 (P := Q) encS_len (show encS v = [.int .i64 v.1, .int .i64 v.2] from rfl) q)
  have VW := Lib.hid (show view zeroS (Q.set q v) f2 (n1 + 1) = view zeroS Q f2 n1 ++ [v] by rw [← hqq]; exact view_push zeroS hf l2)
  have qf0 := blk_frozen hq (q * 2)
  have qf1 := blk_frozen hq (q * 2 + 1)
  obtain ⟨N1, hN1⟩ : ∃ N1, n1 + 1 = N1 := ⟨_, rfl⟩
  have HW2 := Lib.hid (show wrap64 ((n1 : Int) + 1) = (N1 : Int) by unfold wrap64; omega)
  have c1 := (blk_cell hb 1).trans rfl
  have c2 := (blk_cell hb 2).trans rfl
  have c3 := (blk_cell hb 3).trans rfl
  have g2 := blk_frozen hb 2
  have e1 := eq_true (show (0 : Int) ≤ (q : Int) by omega)
  have e2 : ((q : Int) < (Q.length : Int)) = True := eq_true (by omega)
  have e3 := eq_true hql
  have hne : ¬ hh = g := a2.away _ hok
  have hne2 : ¬ g = hh := fun e => hne e.symm
  have hlg := HLT.out
  have sz := SZ.out
  have x1 : ¬ bv = g := by have := HBV.out; omega
  have x2 : ¬ bo = g := by have := HBO.out; omega
  have x1' : ¬ g = bv := fun e => x1 e.symm
  have x2' : ¬ g = bo := fun e => x2 e.symm
  have x3 : ¬ bv = hh := by have := HBV.out; rcases hok with hok | hok <;> omega
  have x4 : ¬ bo = hh := by have := HBO.out; rcases hok with hok | hok <;> omega
  have x3' : ¬ hh = bv := fun e => x3 e.symm
  have x4' : ¬ hh = bo := fun e => x4 e.symm
  have hvb := blk_kept VB.out k2 x1
  have hob := blk_kept OB.out k2 x2
  have v0 := (blk_cell hvb 0).trans rfl
  have v1' := (blk_cell hvb 1).trans rfl
  have o0 := (blk_cell hob 0).trans rfl
  have o1 := (blk_cell hob 1).trans rfl
  have of0 := blk_frozen hob 0
  have of1 := blk_frozen hob 1
  have d5 : ¬ (Q.length : Int) = 0 := by omega
  have d8 : ¬ Q = [] := by rintro rfl; simp at hf
  have OK2 := Lib.hid (show RingOkS room f2 N1 Q.length from ⟨by omega, .inl hf, hmm, hmx⟩)
  have WR := Lib.hid (ringWrapsS f2 n1 q Q.length (by omega) (by omega) (by omega) hqq)
  have A2 := Lib.hid a2
  have HB := Lib.hid hb
  have HQ := Lib.hid hq
  have HOK := Lib.hid hok
  have B2 := Lib.hid b2
  have K2 := Lib.hid k2
  have V2 := Lib.hid v2
  have HN1 := Lib.hid hN1
  have HOB := Lib.hid hob
  clear a2 hb hq hok b2 k2 v2 o2 l2 hf hmm hmx hqq hql hN1 hcc hvb hob hlg sz
  have hr := WR.out.1
  have hsum := WR.out.2.1
  have hrw := WR.out.2.2
  have hw2 := HW2.out
  go_wp2
  refine still_tail 21 (by kernel_rfl) (by kernel_rfl) ?_
  simp only [List.take_succ_cons, List.take_zero, List.drop_succ_cons, List.drop_zero]
  repeat still_step
  refine wpStill_nil ?_
  clear hr hsum hrw e1 e2 d5
  go_wp2
  obtain ⟨W8, hW8⟩ : ∃ W8, W8 = ((((w2.setCell ⟨hh, q * 2, none⟩ (.int .i64 v.1)).setCell ⟨hh, q * 2 + 1, none⟩ (.int .i64 v.2)).setCell ⟨g, 2, none⟩ (.int .i64 N1)).setCell ⟨bo, 0, none⟩ (.int .i64 o.1)).setCell ⟨bo, 1, none⟩ (.int .i64 o.2) := ⟨_, rfl⟩
  rw [← hW8]
  have r1 : W8.heap[bo]? = some (.cells #[(.int .i64 o.1), (.int .i64 o.2)] 38 (0, 0)) := by
    rw [hW8]
    exact two_set (blk_far (p := ⟨g, 2, none⟩) (blk_far (p := ⟨hh, q * 2 + 1, none⟩) (blk_far (p := ⟨hh, q * 2, none⟩) HOB.out x4 _) x4 _) x2 _) _ _
  have r2 : Below 0 w W8 := by
    rw [hW8]
    exact Below.setCell (p := ⟨bo, 1, none⟩) (Below.setCell (p := ⟨bo, 0, none⟩) (Below.setCell (p := ⟨g, 2, none⟩) (Below.setCell (p := ⟨hh, q * 2 + 1, none⟩) (Below.setCell (p := ⟨hh, q * 2, none⟩) (B1.out.trans B2.out) (Nat.zero_le _) _) (Nat.zero_le _) _) (Nat.zero_le _) _) (Nat.zero_le _) _) (Nat.zero_le _) _
  have hS : (k : Nat) → (ok k ∧ k < w.heap.size ∨ w1'.heap.size ≤ k) → (k = g ∨ ok k) ∨ w.heap.size ≤ k := by
    rintro k (hk | hk)
    · exact .inl (.inr hk.1)
    · exact .inr (Nat.le_trans K1.out.1 hk)
  have hbo : w.heap.size ≤ bo := by have := HBO.out; omega
  have r3 : Kept w W8 (fun k => k = g ∨ ok k) := by
    rw [hW8]
    exact Kept.setCell (p := ⟨bo, 1, none⟩) (Kept.setCell (p := ⟨bo, 0, none⟩) (Kept.setCell (p := ⟨g, 2, none⟩) (Kept.setCell (p := ⟨hh, q * 2 + 1, none⟩) (Kept.setCell (p := ⟨hh, q * 2, none⟩) (Kept.then_ K1.out K2.out (fun k hk => .inl (.inl hk))) (hS hh HOK.out) _) (hS hh HOK.out) _) (.inl (.inl rfl)) _) (.inr hbo) _) (.inr hbo) _
  have r4 : W8.heap[g]? = some (.cells #[.int .i64 room, .int .i64 f2, .int .i64 N1, .slice (some ⟨hh, 0, none⟩) (Q.set q v).length (Q.set q v).length] 89 (0, 0)) := by
    rw [hW8, List.length_set]
    exact blk_far (p := ⟨bo, 1, none⟩) (blk_far (p := ⟨bo, 0, none⟩) (four_set2 (blk_far (p := ⟨hh, q * 2 + 1, none⟩) (blk_far (p := ⟨hh, q * 2, none⟩) HB.out hne2 _) hne2 _) _) x2' _) x2' _
  have r5 : W8.heap[hh]? = some (.cells (cellsOf encS (Q.set q v)) 38 (0, 0)) := by
    rw [hW8, ← HST.out]
    exact blk_far (p := ⟨bo, 1, none⟩) (blk_far (p := ⟨bo, 0, none⟩) (blk_far (p := ⟨g, 2, none⟩) (blk_set (blk_set HQ.out (q * 2) _) (q * 2 + 1) _) hne _) x4' _) x4' _
  clear hW8
  refine bodyPost_ret (results_ct rfl _ _ bo 38 #[(.int .i64 o.1), (.int .i64 o.2)] (0, 0) _ rfl r1 Try.underlying38 rfl (by kernel_rfl)) rfl ?_
  refine ⟨by rw [HOO.out]; first | rfl | simp, below_drew r2, r3.drew, f2, Q.set q v, ⟨⟨some ⟨hh, 0, none⟩, ?_, .inr ⟨hh, rfl, ?_, r5⟩⟩, ?_, blk_lt r4⟩, ?_, ?_⟩
  · rw [HNN.out, HN1.out]
    exact r4
  · rcases HOK.out with h1 | h1
    · exact .inl h1.1
    · exact .inr (Nat.le_trans K1.out.1 h1)
  · rintro k (hk | hk)
    · exact HH.out.away k hk
    · have := HLT.out; omega
  · rw [List.length_set, HNN.out, HN1.out]
    exact OK2.out
  · rw [HNN.out, VW.out, V2.out, V1.out, HNN.out]
end Go.Proofs.Ytgfnlhigmncdmaa

end
section
namespace Go.Proofs.Ytgfnlhigmncdmaa
open Go.RowKit Go.Proofs.YtgfnlhigmncdmaaW.PrintWords Go.Proofs.YtgfnlhigmncdmaaW.PrintLast Go.Proofs.YtgfnlhigmncdmaaW.PrintMore
/-- The ring at block g holds L, the oldest first. -/
structure RingIsS (w : World) (g : Nat) (ok : Nat → Prop) (room : Int) (L : List (Int × Int)) : Prop where
  ex : ∃ (f : Nat) (P : List (Int × Int)), RingAtS w g ok room f L.length P ∧ RingOkS room f L.length P.length ∧ view zeroS P f L.length = L
section
variable {w w' : World} {g : Nat} {ok : Nat → Prop} {room : Int} {L : List (Int × Int)}
theorem RingIsS.below (h : RingIsS w g ok room L) (hb : Below w.heap.size w w') : RingIsS w' g ok room L := by
  obtain ⟨f, P, h1, h2, h3⟩ := h
  exact ⟨f, P, h1.below hb, h2, h3⟩
theorem RingIsS.kept {S : Nat → Prop} (h : RingIsS w g ok room L) (hk : Kept w w' S) (hg : ¬ S g) (hs : ∀ k, ok k → ¬ S k) : RingIsS w' g ok room L := by
  obtain ⟨f, P, h1, h2, h3⟩ := h
  exact ⟨f, P, h1.kept hk hg hs, h2, h3⟩
theorem RingIsS.few (h : RingIsS w g ok room L) : (L.length : Int) ≤ room ∧ room ≤ 4096 := by
  obtain ⟨f, P, h1, h2, h3⟩ := h
  have h4 := h2.room_
  have h5 := h2.le
  exact ⟨by omega, h2.most⟩
theorem RingIsS.lt (h : RingIsS w g ok room L) : g < w.heap.size := by
  obtain ⟨f, P, h1, h2, h3⟩ := h
  exact h1.lt
theorem RingIsS.away (h : RingIsS w g ok room L) : ∀ k, ok k → k ≠ g := by
  obtain ⟨f, P, h1, h2, h3⟩ := h
  exact h1.away
/-- Only blocks that are there. -/
theorem RingIsS.tight (h : RingIsS w g ok room L) : RingIsS w g (fun k => ok k ∧ k < w.heap.size) room L := by
  obtain ⟨f, P, ⟨⟨A, h1, hq⟩, h3, h4⟩, h5, h6⟩ := h
  refine ⟨f, P, ⟨⟨A, h1, ?_⟩, fun k hk => h3 k hk.1, h4⟩, h5, h6⟩
  rcases hq with hq | ⟨hh, e, hok, hq⟩
  · exact .inl hq
  · exact .inr ⟨hh, e, ⟨hok, blk_lt hq⟩, hq⟩
theorem ringsS_len (h : RingIsS w g ok room L) : Calls Try.prog 31 #[.pointer (some ⟨g, 0, none⟩)] w fun e w' => e = .returned (.int .i64 (L.length : Int)) ∧ w = w' := by
  obtain ⟨f, P, h1, h2, h3⟩ := h
  exact ringS_len h1
/-- The number at a place, and whether there is one. -/
def atS (L : List (Int × Int)) (i : Int) : Int × Int := if 0 ≤ i ∧ i < L.length then L.getD i.toNat zeroS else zeroS
def hasS (L : List (Int × Int)) (i : Int) : Bool := decide (0 ≤ i ∧ i < L.length)
set_option maxRecDepth 100000 in
theorem ringS_at_out {f n : Nat} {P : List (Int × Int)} (h : RingAtS w g ok room f n P) (i : Int) (hi : i < 0 ∨ (n : Int) ≤ i) :
    Calls Try.prog 52 #[.pointer (some ⟨g, 0, none⟩), .int .i64 i] w fun e w' => e = .returned (.tuple #[valS zeroS, .bool false]) ∧ Below w.heap.size w w' := by
  by_cases h0 : i < 0
  · have d1 : decide (i < 0) = true := decide_eq_true h0
    clear hi h0
    go_enter Try.func52, Try.ntmps52
    go_wp2
    have r1 := blk_new w (.cells #[.int .i64 0, .int .i64 0] 38 (0, 0))
    refine bodyPost_ret (results_ct rfl _ _ w.heap.size 38 #[.int .i64 0, .int .i64 0] (0, 0) _ rfl r1 Try.underlying38 rfl (by kernel_rfl)) rfl ?_
    exact ⟨by first | rfl | simp, below_alloc (Below.refl _ _) _⟩
  · have hn : (n : Int) ≤ i := by omega
    have d1 : decide (i < 0) = false := decide_eq_false h0
    have d2 : decide ((n : Int) ≤ i) = true := decide_eq_true hn
    clear hi h0 hn
    go_enter Try.func52, Try.ntmps52
    go_wp2_with fail
    generalize hw1 : w.alloc _ = w1
    have B1 : Below w.heap.size w w1 := by rw [← hw1]; exact below_alloc (Below.refl _ _) _
    have K1 : w1.heap[w.heap.size]? = some (.cells #[.int .i64 0, .int .i64 0] 38 (0, 0)) := by rw [← hw1]; exact blk_new _ _
    clear hw1
    refine (ringS_len (h.below B1)).mono ?_
    rintro e w2 ⟨rfl, rfl⟩
    have b0 := (blk_cell K1 0).trans rfl
    have b1 := (blk_cell K1 1).trans rfl
    have g0 := blk_frozen K1 0
    have g1 := blk_frozen K1 1
    have HK1 := Lib.hid K1
    have HB1 := Lib.hid B1
    clear K1 B1
    go_wp2
    refine bodyPost_ret (results_ct rfl _ _ w.heap.size 38 #[.int .i64 0, .int .i64 0] (0, 0) _ rfl (two_set HK1.out _ _) Try.underlying38 rfl (by kernel_rfl)) rfl ?_
    exact ⟨by first | rfl | simp, Below.setCell (p := ⟨w.heap.size, 1, none⟩) (Below.setCell (p := ⟨w.heap.size, 0, none⟩) HB1.out (Nat.le_refl _) _) (Nat.le_refl _) _⟩
theorem ringsS_at (h : RingIsS w g ok room L) (i : Int) : Calls Try.prog 52 #[.pointer (some ⟨g, 0, none⟩), .int .i64 i] w fun e w' => e = .returned (.tuple #[valS (atS L i), .bool (hasS L i)]) ∧ Below w.heap.size w w' := by
  obtain ⟨f, P, h1, h2, h3⟩ := h
  by_cases hi : 0 ≤ i ∧ i < L.length
  · refine (ringS_at h1 h2 i hi.1 hi.2).mono ?_
    rintro e w' ⟨rfl, hb⟩
    have e1 : hasS L i = true := decide_eq_true hi
    have e2 : atS L i = P.getD ((f + i.toNat) % P.length) zeroS := by
      unfold atS
      rw [if_pos hi]
      have := view_get zeroS (P := P) (f := f) (n := L.length) (i := i.toNat) (by omega)
      rw [h3] at this
      rw [List.getD_eq_getElem?_getD, this]
      rfl
    rw [e1, e2]
    exact ⟨rfl, hb⟩
  · refine (ringS_at_out h1 i (by omega)).mono ?_
    rintro e w' ⟨rfl, hb⟩
    have e1 : hasS L i = false := decide_eq_false hi
    have e2 : atS L i = zeroS := if_neg hi
    rw [e1, e2]
    exact ⟨rfl, hb⟩
theorem ringsS_drop {x : Int × Int} (h : RingIsS w g ok room (x :: L)) : Calls Try.prog 44 #[.pointer (some ⟨g, 0, none⟩)] w fun e w' => e = .returned (.tuple #[valS x, .bool true]) ∧ Below 0 w w' ∧ Kept w w' (fun k => k = g ∨ ok k) ∧ RingIsS w' g ok room L := by
  obtain ⟨f, P, h1, h2, h3⟩ := h
  have hm := h2.le
  simp only [List.length_cons] at hm h3
  have hf : f < P.length := by rcases h2.at_ with hf | ⟨h2, _⟩ <;> omega
  rw [view_drop zeroS hf hm] at h3
  injection h3 with e1 e2
  refine (ringS_drop h1 h2 (by simp)).mono ?_
  rintro e w' ⟨rfl, k1, k2, k3⟩
  rw [e1]
  refine ⟨rfl, k1, k2, _, _, k3, ?_, ?_⟩
  · rw [List.length_set]
    exact ⟨by omega, .inl (Nat.mod_lt _ (by omega)), h2.room_, h2.most⟩
  · exact e2
theorem ringsS_push (v : Int × Int) (h : RingIsS w g ok room L) (hr : 0 < room) : Calls Try.prog 24 #[.pointer (some ⟨g, 0, none⟩), valS v] w fun e w' =>
    e = .returned (.tuple #[valS (if (L.length : Int) = room then L.headD zeroS else zeroS), .bool (decide ((L.length : Int) = room))]) ∧ Below 0 w w' ∧ Kept w w' (fun k => k = g ∨ ok k) ∧
      RingIsS w' g (fun k => ok k ∨ w.heap.size ≤ k) room ((if (L.length : Int) = room then L.tail else L) ++ [v]) := by
  have hfew := h.few
  obtain ⟨f, P, h1, h2, h3⟩ := h
  by_cases hf : (L.length : Int) = room
  · rw [if_pos hf, if_pos hf, decide_eq_true hf]
    cases L with
    | nil => simp at hf; omega
    | cons x T =>
      refine (ringS_push_full v h1 h2 hr hf).mono ?_
      rintro e w' ⟨rfl, k1, k2, f', Q, k3, k4, k5⟩
      have hm := h2.le
      simp only [List.length_cons] at hm
      have hf1 : f < P.length := by rcases h2.at_ with hf | ⟨h2, _⟩ <;> omega
      have e0 : P.getD f zeroS = x := by
        simp only [List.length_cons] at h3
        rw [view_drop zeroS hf1 hm] at h3
        injection h3
      rw [h3] at k5
      have el : (T ++ [v]).length = (x :: T).length := by simp
      refine ⟨by rw [e0]; rfl, k1, k2, f', Q, ?_, ?_, ?_⟩
      · simp only [List.tail_cons]
        rw [el]
        exact k3
      · simp only [List.tail_cons]
        rw [el]
        exact k4
      · simp only [List.tail_cons]
        rw [el]
        exact k5
  · rw [if_neg hf, if_neg hf, decide_eq_false hf]
    refine (ringS_push_room v h1 h2 hr (by omega)).mono ?_
    rintro e w' ⟨rfl, k1, k2, f', Q, k3, k4, k5⟩
    rw [h3] at k5
    have el : (L ++ [v]).length = L.length + 1 := by simp
    refine ⟨rfl, k1, k2, f', Q, ?_, ?_, ?_⟩
    · rw [el]; exact k3
    · rw [el]; exact k4
    · rw [el]; exact k5
end
set_option maxRecDepth 100000 in
theorem ringsS_new (room : Int) (w : World) (h1 : 1 ≤ room) (h2 : room ≤ 4096) : Calls Try.prog 20 #[.int .i64 room] w fun e w' => ∃ g, e = .returned (.tuple #[.pointer (some ⟨g, 0, none⟩), .int .i64 0]) ∧ w.heap.size ≤ g ∧ RingIsS w' g (fun _ => False) room [] ∧ Below w.heap.size w w' := by
  have d1 : decide (room < 1) = false := decide_eq_false (by omega)
  have d2 : decide (4096 < room) = false := decide_eq_false (by omega)
  go_enter Try.func20, Try.ntmps20
  go_wp2
  go_ret2
  refine ⟨w.heap.size, by simp, Nat.le_refl _, ⟨0, [], ⟨⟨none, blk_new _ _, .inl ⟨rfl, rfl⟩⟩, fun _ hk => hk.elim, by simp⟩, ⟨Nat.le_refl _, .inr ⟨rfl, rfl⟩, by simp; omega, h2⟩, rfl⟩, below_alloc (Below.refl _ _) _⟩
end Go.Proofs.Ytgfnlhigmncdmaa

end
section
namespace Go.Proofs.Ytgfnlhigmncdmaa
set_option linter.unusedVariables false
set_option linter.unusedSimpArgs false
open Go.RowKit

/-- The marks of which operations have come up: those ahead, those of the new variables, those behind. -/
def lstM (p k q : Nat) (m : Nat → Bool) : Array Bool := (List.replicate p true ++ (List.range k).map m ++ List.replicate q false).toArray
def updM (m : Nat → Bool) (i : Nat) : Nat → Bool := fun j => if j = i then true else m j
theorem lst_get (p k q : Nat) (m : Nat → Bool) (j : Nat) : (List.replicate p true ++ (List.range k).map m ++ List.replicate q false)[j]? = if j < p then some true else if j < p + k then some (m (j - p)) else if j < p + k + q then some false else none := by
  rw [List.append_assoc]
  by_cases h1 : j < p
  · rw [List.getElem?_append_left (by simpa using h1)]
    simp [h1]
  · rw [List.getElem?_append_right (by simp; omega), List.length_replicate, if_neg h1]
    by_cases h2 : j < p + k
    · rw [List.getElem?_append_left (by simp; omega), List.getElem?_map, List.getElem?_range (by omega), if_pos h2]
      rfl
    · rw [List.getElem?_append_right (by simp; omega), if_neg h2, List.getElem?_replicate]
      simp
      by_cases h3 : j < p + k + q
      · rw [if_pos h3, if_pos (by omega)]
      · rw [if_neg h3, if_neg (by omega)]
theorem lstM_set {p k q : Nat} {m : Nat → Bool} {i : Nat} (hi : i < k) : (lstM p k q m).setIfInBounds (p + i) true = lstM p k q (updM m i) := by
  unfold lstM
  rw [List.setIfInBounds_toArray]
  congr 1
  apply List.ext_getElem?
  intro j
  rw [List.getElem?_set]
  by_cases hj : p + i = j
  · subst hj
    rw [if_pos rfl, if_pos (by simp; omega), List.append_assoc, List.getElem?_append_right (by simp), List.getElem?_append_left (by simp; omega)]
    simp [updM, hi]
  · rw [if_neg hj, lst_get, lst_get]
    by_cases h1 : j < p
    · simp only [h1, if_true]
    · by_cases h2 : j < p + k
      · simp only [h1, h2, if_true, if_false]
        simp [updM, show j - p ≠ i by omega]
      · simp only [h1, h2, if_false]

/-- How many are still to come. -/
def leftM (k : Nat) (m : Nat → Bool) : Nat := ((List.range k).filter fun i => !m i).length
theorem leftM_upd {k : Nat} {m : Nat → Bool} {i : Nat} (hi : i < k) (hm : m i = false) : leftM k m = leftM k (updM m i) + 1 := by
  unfold leftM
  induction k with
  | zero => omega
  | succ k ih =>
    rw [List.range_succ, List.filter_append, List.filter_append, List.length_append, List.length_append]
    by_cases hk : i = k
    · subst hk
      have e : ∀ l : List Nat, (∀ x ∈ l, x < i) → l.filter (fun j => !updM m i j) = l.filter (fun j => !m j) := fun l hl => List.filter_congr fun x hx => by
        have := hl x hx
        simp [updM, show x ≠ i by omega]
      rw [e _ (fun x hx => by simpa using hx)]
      simp [updM, hm]
    · have := ih (by omega)
      have e : [k].filter (fun j => !updM m i j) = [k].filter (fun j => !m j) := by simp [List.filter, updM, show k ≠ i by omega]
      rw [e]
      omega

/-- The variables made so far. -/
structure Made (W : World) (k : Nat) (obj : Obj) (m : Nat → Bool) (vs : List Value) (w : World) : Prop where
  len : vs.length = k
  bel : Below W.heap.size W w
  ptr : ∀ i, i < k → m i = true → ∃ g, vs[i]? = some (.pointer (some ⟨g, 0, none⟩)) ∧ W.heap.size ≤ g ∧ w.heap[g]? = some obj
  ne : ∀ i j g, i < k → j < k → i ≠ j → m i = true → m j = true → vs[i]? = some (.pointer (some ⟨g, 0, none⟩)) → vs[j]? ≠ some (.pointer (some ⟨g, 0, none⟩))

theorem heap_new (w : World) (o : Obj) : (w.alloc o).heap[w.heap.size]? = some o := heap_alloc_new w o
theorem heap_kept {w : World} {o o' : Obj} {g : Nat} (h : w.heap[g]? = some o') : (w.alloc o).heap[g]? = some o' := by
  rw [Below.heap_alloc]
  · exact h
  · exact (Array.getElem?_eq_some_iff.1 h).1
theorem heap_lt {w : World} {o' : Obj} {g : Nat} (h : w.heap[g]? = some o') : g < w.heap.size := (Array.getElem?_eq_some_iff.1 h).1

theorem Made.step {W : World} {k : Nat} {obj : Obj} {m : Nat → Bool} {vs : List Value} {w : World} (h : Made W k obj m vs w) {i : Nat} (hi : i < k) :
    Made W k obj (updM m i) (vs.set i (.pointer (some ⟨w.heap.size, 0, none⟩))) (w.alloc obj) := by
  refine ⟨by rw [List.length_set]; exact h.len, h.bel.alloc h.bel.size _, fun j hj hm => ?_, fun j l g hj hl hjl hmj hml => ?_⟩
  · by_cases hji : j = i
    · subst hji
      exact ⟨w.heap.size, by rw [List.getElem?_set_self (by rw [h.len]; exact hj)], h.bel.size, heap_new w obj⟩
    · have hm' : m j = true := by simpa [updM, hji] using hm
      obtain ⟨g, e, h1, h2⟩ := h.ptr j hj hm'
      exact ⟨g, by rw [List.getElem?_set_ne (Ne.symm hji)]; exact e, h1, heap_kept h2⟩
  · by_cases hji : j = i
    · subst hji
      rw [List.getElem?_set_self (by rw [h.len]; exact hj), List.getElem?_set_ne hjl]
      intro e
      have hm' : m l = true := by simpa [updM, Ne.symm hjl] using hml
      obtain ⟨g', e', -, h2⟩ := h.ptr l hl hm'
      have := heap_lt h2
      intro e2
      rw [e2] at e'
      simp at e e'
      omega
    · have hmj' : m j = true := by simpa [updM, hji] using hmj
      rw [List.getElem?_set_ne (Ne.symm hji)]
      by_cases hli : l = i
      · subst hli
        rw [List.getElem?_set_self (by rw [h.len]; exact hl)]
        intro e e2
        obtain ⟨g', e', -, h2⟩ := h.ptr j hj hmj'
        have := heap_lt h2
        rw [e] at e'
        simp at e2 e'
        omega
      · rw [List.getElem?_set_ne (Ne.symm hli)]
        exact h.ne j l g hj hl hjl hmj' (by simpa [updM, hli] using hml)

/-- What stands in the temporaries: those ahead, those of the new variables, those behind. -/
def actM (pre post : List Value) (df : List Deferred) (vs : List Value) : Act := { tmps := (pre ++ vs ++ post).toArray, defers := df }
theorem actM_put {pre post : List Value} {df : List Deferred} {vs : List Value} {d i : Nat} (hp : pre.length = d) (hi : i < vs.length) (v : Value) : (actM pre post df vs).put (some (d + i)) v = actM pre post df (vs.set i v) := by
  unfold actM Act.put
  simp only [List.setIfInBounds_toArray]
  congr 2
  rw [List.append_assoc, List.set_append_right _ _ (by omega), List.set_append_left _ _ (by omega), List.append_assoc]
  congr 2
  congr 1
  omega

theorem allocs_any {P : Program} {md : Region.Mode} {ops : Array Oper} {Q : Exit → Act → World → Prop} {S : World → Prop} (W : World) (p k q d : Nat) (obj : Obj) (pre post : List Value) (df : List Deferred) (hpre : pre.length = d)
    (hS : ∀ w, Below W.heap.size W w → S w)
    (hops : ∀ i, i < k → ∃ o, ops[p + i]? = some o ∧ o.dst = some (d + i) ∧ (∀ ys, Region.wanted o ys = true) ∧ ∀ ev w, (execOp ev o).run P w = .ok (.value (.pointer (some ⟨w.heap.size, 0, none⟩))) (w.alloc obj))
    (hready : ∀ m : Nat → Bool, leftM k m ≠ 0 → Region.ready md ops (lstM p k q m) = ((List.range k).filter fun i => !m i).map (p + ·)) (fuel : Nat)
    (hend : ∀ vs w, Made W k obj (fun _ => true) vs w → wpAnyH P md ops Q S fuel (lstM p k q fun _ => true) (actM pre post df vs) w) :
    ∀ (n : Nat) (m : Nat → Bool) (vs : List Value) (w : World), leftM k m = n → Made W k obj m vs w → wpAnyH P md ops Q S (fuel + n) (lstM p k q m) (actM pre post df vs) w := by
  intro n
  induction n with
  | zero =>
    intro m vs w hn h
    have hall : ∀ i, i < k → m i = true := fun i hi => by
      cases hm : m i with
      | true => rfl
      | false =>
        have := leftM_upd hi hm
        omega
    have e : lstM p k q m = lstM p k q (fun _ => true) := by
      unfold lstM
      congr 3
      exact List.map_congr_left fun x hx => hall x (by simpa using hx)
    rw [e]
    exact hend vs w ⟨h.len, h.bel, fun i hi _ => h.ptr i hi (hall i hi), fun i j g hi hj hij _ _ => h.ne i j g hi hj hij (hall i hi) (hall j hj)⟩
  | succ n ih =>
    intro m vs w hn h
    refine wpAnyH_all (hready m (by omega)) ?_ ?_
    · intro e
      have : ((List.range k).filter fun i => !m i) = [] := by simpa using e
      unfold leftM at hn
      rw [this] at hn
      cases hn
    · intro x hx
      obtain ⟨i, hi, rfl⟩ := List.mem_map.1 hx
      have hi2 := List.mem_filter.1 hi
      have hik : i < k := by simpa using hi2.1
      have hmi : m i = false := by simpa using hi2.2
      obtain ⟨o, ho, hd, hwant, hrun⟩ := hops i hik
      unfold wpOp
      rw [ho]
      simp only [hwant, if_true]
      left
      unfold Oper.wp
      rw [hrun, Oper.upon_value, hd, actM_put hpre (by rw [h.len]; exact hik), lstM_set hik]
      have hst := h.step hik
      exact ⟨hS _ hst.bel, ih (updM m i) _ _ (by have := leftM_upd hik hmi; omega) hst⟩
theorem actM_self (A : Act) (d k : Nat) : A = actM (A.tmps.toList.take d) (A.tmps.toList.drop (d + k)) A.defers ((A.tmps.toList.drop d).take k) := by
  unfold actM
  have : A.tmps.toList.take d ++ (A.tmps.toList.drop d).take k ++ A.tmps.toList.drop (d + k) = A.tmps.toList := by
    rw [List.append_assoc, ← List.drop_drop, List.take_append_drop, List.take_append_drop]
  rw [this]

theorem allocs_act {P : Program} {md : Region.Mode} {ops : Array Oper} {Q : Exit → Act → World → Prop} {S : World → Prop} {listed : Array Bool} {A : Act} {w : World} (W : World) (p k q d : Nat) (obj : Obj) (fuel : Nat)
    (hl : listed = lstM p k q fun _ => false) (hsz : d + k ≤ A.tmps.size) (hb : Below W.heap.size W w)
    (hS : ∀ w, Below W.heap.size W w → S w)
    (hops : ∀ i, i < k → ∃ o, ops[p + i]? = some o ∧ o.dst = some (d + i) ∧ (∀ ys, Region.wanted o ys = true) ∧ ∀ ev w, (execOp ev o).run P w = .ok (.value (.pointer (some ⟨w.heap.size, 0, none⟩))) (w.alloc obj))
    (hready : ∀ m : Nat → Bool, leftM k m ≠ 0 → Region.ready md ops (lstM p k q m) = ((List.range k).filter fun i => !m i).map (p + ·))
    (hend : ∀ vs w, Made W k obj (fun _ => true) vs w → wpAnyH P md ops Q S fuel (lstM p k q fun _ => true) (actM (A.tmps.toList.take d) (A.tmps.toList.drop (d + k)) A.defers vs) w) :
    wpAnyH P md ops Q S (fuel + k) listed A w := by
  rw [hl, actM_self A d k]
  refine allocs_any W p k q d obj _ _ _ ?_ hS hops hready fuel hend k _ _ w ?_ ⟨?_, hb, (fun i _ h => nomatch h), (fun i j g _ _ _ h => nomatch h)⟩
  · rw [List.length_take, Array.length_toList]
    omega
  · unfold leftM
    have e : (List.range k).filter (fun i => !(fun _ => false) i) = List.range k := List.filter_eq_self.2 (fun _ _ => rfl)
    exact (congrArg List.length e).trans (List.length_range)
  · rw [List.length_take, List.length_drop, Array.length_toList]
    omega

/-- Six new variables, written out. -/
theorem Made.six {W : World} {obj : Obj} {vs : List Value} {w : World} (h : Made W 6 obj (fun _ => true) vs w) :
    ∃ g0 g1 g2 g3 g4 g5 : Nat, vs = [.pointer (some ⟨g0, 0, none⟩), .pointer (some ⟨g1, 0, none⟩), .pointer (some ⟨g2, 0, none⟩), .pointer (some ⟨g3, 0, none⟩), .pointer (some ⟨g4, 0, none⟩), .pointer (some ⟨g5, 0, none⟩)] ∧
      (W.heap.size ≤ g0 ∧ W.heap.size ≤ g1 ∧ W.heap.size ≤ g2 ∧ W.heap.size ≤ g3 ∧ W.heap.size ≤ g4 ∧ W.heap.size ≤ g5) ∧
      (w.heap[g0]? = some obj ∧ w.heap[g1]? = some obj ∧ w.heap[g2]? = some obj ∧ w.heap[g3]? = some obj ∧ w.heap[g4]? = some obj ∧ w.heap[g5]? = some obj) ∧ [g0, g1, g2, g3, g4, g5].Nodup := by
  obtain ⟨g0, e0, p0, k0⟩ := h.ptr 0 (by decide) rfl
  obtain ⟨g1, e1, p1, k1⟩ := h.ptr 1 (by decide) rfl
  obtain ⟨g2, e2, p2, k2⟩ := h.ptr 2 (by decide) rfl
  obtain ⟨g3, e3, p3, k3⟩ := h.ptr 3 (by decide) rfl
  obtain ⟨g4, e4, p4, k4⟩ := h.ptr 4 (by decide) rfl
  obtain ⟨g5, e5, p5, k5⟩ := h.ptr 5 (by decide) rfl
  have nn {i j a b : Nat} (hi : i < 6) (hj : j < 6) (hij : i ≠ j) (ea : vs[i]? = some (.pointer (some ⟨a, 0, none⟩))) (eb : vs[j]? = some (.pointer (some ⟨b, 0, none⟩))) : a ≠ b := fun e => by
    subst e
    exact h.ne i j a hi hj hij rfl rfl ea eb
  refine ⟨g0, g1, g2, g3, g4, g5, ?_, ⟨p0, p1, p2, p3, p4, p5⟩, ⟨k0, k1, k2, k3, k4, k5⟩, ?_⟩
  · match vs, h.len, e0, e1, e2, e3, e4, e5 with
    | [a, b, c, d, e, f], _, e0, e1, e2, e3, e4, e5 =>
      simp at e0 e1 e2 e3 e4 e5
      subst e0 e1 e2 e3 e4 e5
      rfl
  · simp only [List.nodup_cons, List.mem_cons, List.not_mem_nil, or_false, not_or, List.nodup_nil, not_false_eq_true, and_true]
    exact ⟨⟨nn (by decide) (by decide) (by decide) e0 e1, nn (by decide) (by decide) (by decide) e0 e2, nn (by decide) (by decide) (by decide) e0 e3, nn (by decide) (by decide) (by decide) e0 e4, nn (by decide) (by decide) (by decide) e0 e5⟩,
      ⟨nn (by decide) (by decide) (by decide) e1 e2, nn (by decide) (by decide) (by decide) e1 e3, nn (by decide) (by decide) (by decide) e1 e4, nn (by decide) (by decide) (by decide) e1 e5⟩,
      ⟨nn (by decide) (by decide) (by decide) e2 e3, nn (by decide) (by decide) (by decide) e2 e4, nn (by decide) (by decide) (by decide) e2 e5⟩, ⟨nn (by decide) (by decide) (by decide) e3 e4, nn (by decide) (by decide) (by decide) e3 e5⟩, nn (by decide) (by decide) (by decide) e4 e5⟩
end Go.Proofs.Ytgfnlhigmncdmaa

end
