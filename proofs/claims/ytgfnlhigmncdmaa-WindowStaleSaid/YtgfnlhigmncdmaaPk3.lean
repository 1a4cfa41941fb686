/-
  Texts of this seat, joined: Base, RankPure, RankFns1.
-/
import Derived.Test.YtgfnlhigmncdmaaProg
import Derived.Below
import Derived.Deep.Draws
import Derived.Deep.AppendLies
import Derived.Maps.AppendAt
import Derived.OwnWalk
import Derived.Laws.BytesArg
import Derived.Laws.MakeOwn
import Derived.Laws.OwnMore
import Derived.Deep.OwnRows
import Derived.Tactics
import Derived.Lib.ConvBytes
import Derived.Laws.Slices
import Derived.WalkKit
import Derived.KernelRfl
import Derived.RowKit3
import Derived.Deep.LoopGhost
import Derived.Deep.QuietTactic
import Derived.BigQuiet
import Derived.WideLaws
import Derived.Deep.DeepCutAuto
import Derived.Deep.CutBlock
import Derived.Deep.RegionHeld3
import Derived.Laws.Rows
import Derived.Lib.AppendStr
import Derived.ArgAppend
import Derived.Laws.IdiomCopy
import Derived.OrdersHeld
import Derived.Laws.BitsLemmas
import Derived.RowKit
import Derived.Test.YtgfnlhigmncdmaaWWords
import Derived.Test.YtgfnlhigmncdmaaWLast
import Derived.Test.YtgfnlhigmncdmaaWTab
import Derived.Test.YtgfnlhigmncdmaaWFour
import Derived.Test.YtgfnlhigmncdmaaWQPut
import Derived.Test.YtgfnlhigmncdmaaWApart
import Derived.Test.YtgfnlhigmncdmaaWArr
import Derived.Test.YtgfnlhigmncdmaaWZeros
import Derived.Test.YtgfnlhigmncdmaaWFoot
import Derived.Test.YtgfnlhigmncdmaaWKept
import Derived.Test.YtgfnlhigmncdmaaWShare
import Derived.Test.YtgfnlhigmncdmaaWN
import Derived.Test.YtgfnlhigmncdmaaWFootNe
import Derived.Test.YtgfnlhigmncdmaaWAt
import Derived.Test.YtgfnlhigmncdmaaWEqStruct
import Derived.Test.YtgfnlhigmncdmaaWRepsOne
import Derived.Test.YtgfnlhigmncdmaaWInv
import Derived.Test.YtgfnlhigmncdmaaWInvWords
import Derived.Test.YtgfnlhigmncdmaaWGuard
import Derived.Test.YtgfnlhigmncdmaaWNEv
import Derived.Test.YtgfnlhigmncdmaaWMore
import Derived.ProofKit
import Derived.Lib.Hide
import Derived.WalkMore
import Derived.Deep.RegionHeldLaw
import Derived.Deep.RegionLaw
import Derived.BigRegion
import Derived.StillTailTactics
section
/-
  What the texts of this seat import: the program, the words, the walk's tactics.
-/
end
section
/-
  Plain laws on numbers in rising order: the first place at which a number may stand. No program in sight.
-/
namespace Go.Proofs.Ytgfnlhigmncdmaa
set_option linter.unusedVariables false
set_option linter.unusedSimpArgs false
open Go.RowKit Go.Proofs.YtgfnlhigmncdmaaW.PrintWords
/-- In rising order. -/
def Rising (L : List Int) : Prop := ∀ i j, i < j → j < L.length → L.getD i 0 ≤ L.getD j 0
/-- How many are lower. -/
def lower (v : Int) (L : List Int) : Nat := (L.filter fun x => decide (x < v)).length
theorem lower_le (v : Int) (L : List Int) : lower v L ≤ L.length := List.length_filter_le _ _
theorem rising_nil : Rising [] := fun i j h1 h2 => by simp at h2
theorem rising_cons {x : Int} {L : List Int} : Rising (x :: L) ↔ (∀ y ∈ L, x ≤ y) ∧ Rising L := by
  constructor
  · intro h
    refine ⟨fun y hy => ?_, fun i j h1 h2 => ?_⟩
    · obtain ⟨i, hi, rfl⟩ := List.getElem_of_mem hy
      have := h 0 (i + 1) (by omega) (by simpa using hi)
      simpa [List.getD_eq_getElem?_getD, List.getElem?_eq_getElem hi] using this
    · have := h (i + 1) (j + 1) (by omega) (by simpa using h2)
      simpa using this
  · rintro ⟨h1, h2⟩ i j hij hj
    cases j with
    | zero => omega
    | succ j =>
      have hjl : j < L.length := by simpa using hj
      cases i with
      | zero =>
        have := h1 L[j] (List.getElem_mem hjl)
        simpa [List.getD_eq_getElem?_getD, List.getElem?_eq_getElem hjl] using this
      | succ i => simpa using h2 i j (by omega) hjl
theorem lower_cons (v x : Int) (L : List Int) : lower v (x :: L) = (if x < v then 1 else 0) + lower v L := by
  unfold lower
  rw [List.filter_cons]
  by_cases h : x < v
  · simp [h]; omega
  · simp [h]
theorem lower_zero {v : Int} : ∀ {L : List Int}, (∀ y ∈ L, v ≤ y) → lower v L = 0
  | [], _ => rfl
  | x :: L, h => by
    rw [lower_cons, if_neg (by have := h x List.mem_cons_self; omega), lower_zero (fun y hy => h y (List.mem_cons_of_mem _ hy))]
/-- Of numbers in rising order just those ahead of that place are lower. -/
theorem lower_at {v : Int} : ∀ {L : List Int}, Rising L → ∀ k, k < L.length → (L.getD k 0 < v ↔ k < lower v L)
  | [], _, k, hk => by simp at hk
  | x :: L, h, k, hk => by
    obtain ⟨h1, h2⟩ := rising_cons.1 h
    rw [lower_cons]
    cases k with
    | zero =>
      by_cases hx : x < v
      · simp [hx]; omega
      · have := lower_zero (v := v) (L := L) (fun y hy => by have := h1 y hy; omega)
        simp [hx, this]
    | succ k =>
      have hk' : k < L.length := by simpa using hk
      have ih := lower_at (v := v) h2 k hk'
      by_cases hx : x < v
      · simp [hx] at ih ⊢
        rw [ih]
        omega
      · have h0 := lower_zero (v := v) (L := L) (fun y hy => by have := h1 y hy; omega)
        rw [h0] at ih ⊢
        simp [hx] at ih ⊢
        exact ih
/-- A search's bounds. -/
theorem lower_up {v : Int} {L : List Int} (h : Rising L) {k : Nat} (hk : k < L.length) (hv : L.getD k 0 < v) : k + 1 ≤ lower v L := (lower_at h k hk).1 hv
theorem lower_down {v : Int} {L : List Int} (h : Rising L) {k : Nat} (hk : k < L.length) (hv : ¬ L.getD k 0 < v) : lower v L ≤ k := by
  have := lower_at (v := v) h k hk
  omega
/-- One more, in its place. -/
def putL (v : Int) (L : List Int) : List Int := L.take (lower v L) ++ v :: L.drop (lower v L)
theorem put_cons (v x : Int) (L : List Int) (h : Rising (x :: L)) : putL v (x :: L) = if x < v then x :: putL v L else v :: x :: L := by
  obtain ⟨h1, h2⟩ := rising_cons.1 h
  unfold putL
  rw [lower_cons]
  by_cases hx : x < v
  · rw [if_pos hx, if_pos hx, Nat.add_comm, List.take_succ_cons, List.drop_succ_cons]
    rfl
  · rw [if_neg hx, if_neg hx, lower_zero (fun y hy => by have := h1 y hy; omega)]
    rfl
theorem put_len (v : Int) (L : List Int) : (putL v L).length = L.length + 1 := by
  have := lower_le v L
  unfold putL
  simp
  omega
theorem mem_put {v y : Int} {L : List Int} : y ∈ putL v L ↔ y = v ∨ y ∈ L := by
  have e : y ∈ L ↔ y ∈ L.take (lower v L) ∨ y ∈ L.drop (lower v L) := by rw [← List.mem_append, List.take_append_drop]
  unfold putL
  rw [List.mem_append, List.mem_cons, e]
  constructor
  · rintro (h | h | h)
    · exact .inr (.inl h)
    · exact .inl h
    · exact .inr (.inr h)
  · rintro (h | h | h)
    · exact .inr (.inl h)
    · exact .inl h
    · exact .inr (.inr h)
theorem put_rising (v : Int) : ∀ L : List Int, Rising L → Rising (putL v L)
  | [], _ => by
    rw [show putL v [] = [v] from rfl]
    exact rising_cons.2 ⟨fun y hy => by simp at hy, rising_nil⟩
  | x :: L, h => by
    obtain ⟨h1, h2⟩ := rising_cons.1 h
    rw [put_cons v x L h]
    by_cases hx : x < v
    · rw [if_pos hx]
      refine rising_cons.2 ⟨fun y hy => ?_, put_rising v L h2⟩
      rcases mem_put.1 hy with rfl | hy
      · omega
      · exact h1 y hy
    · rw [if_neg hx]
      refine rising_cons.2 ⟨fun y hy => ?_, h⟩
      rcases List.mem_cons.1 hy with rfl | hy
      · omega
      · have := h1 y hy; omega
theorem put_perm (v : Int) (L : List Int) : (putL v L).Perm (v :: L) := by
  unfold putL
  refine List.perm_middle.trans ?_
  rw [List.take_append_drop]
/-- Is a number among them? -/
def hasL (v : Int) (L : List Int) : Bool := decide (lower v L < L.length ∧ L.getD (lower v L) 0 = v)
/-- Without one of it, if there is one. -/
def takeL (v : Int) (L : List Int) : List Int := if hasL v L then L.take (lower v L) ++ L.drop (lower v L + 1) else L
theorem has_iff {v : Int} : ∀ {L : List Int}, Rising L → (hasL v L = true ↔ v ∈ L) := by
  intro L h
  unfold hasL
  rw [decide_eq_true_iff]
  constructor
  · rintro ⟨h1, h2⟩
    rw [List.getD_eq_getElem?_getD, List.getElem?_eq_getElem h1] at h2
    rw [← show L[lower v L] = v from h2]
    exact List.getElem_mem h1
  · intro hm
    obtain ⟨i, hi, he⟩ := List.getElem_of_mem hm
    have hg : L.getD i 0 = v := by rw [List.getD_eq_getElem?_getD, List.getElem?_eq_getElem hi]; exact he
    have h1 : lower v L ≤ i := lower_down h hi (by omega)
    have h2 : lower v L < L.length := by omega
    refine ⟨h2, ?_⟩
    have h3 : ¬ L.getD (lower v L) 0 < v := fun hh => absurd ((lower_at h _ h2).1 hh) (Nat.lt_irrefl _)
    rcases Nat.eq_or_lt_of_le h1 with e | h4
    · rw [e]; exact hg
    · have := h _ _ h4 hi
      omega
theorem take_perm {v : Int} {L : List Int} (h : hasL v L = true) : L.Perm (v :: takeL v L) := by
  unfold takeL
  rw [if_pos h]
  unfold hasL at h
  obtain ⟨h1, h2⟩ := of_decide_eq_true h
  refine List.Perm.trans ?_ List.perm_middle
  have e : L.drop (lower v L) = v :: L.drop (lower v L + 1) := by
    rw [List.drop_eq_getElem_cons h1]
    congr 1
    rw [List.getD_eq_getElem?_getD, List.getElem?_eq_getElem h1] at h2
    exact h2
  rw [← e, List.take_append_drop]
theorem take_rising {v : Int} {L : List Int} (h : Rising L) : Rising (takeL v L) := by
  unfold takeL
  split
  · intro i j hij hj
    have hle := lower_le v L
    rw [List.length_append, List.length_take, List.length_drop, Nat.min_eq_left hle] at hj
    have g : ∀ k, (L.take (lower v L) ++ L.drop (lower v L + 1)).getD k 0 = L.getD (if k < lower v L then k else k + 1) 0 := by
      intro k
      rw [List.getD_eq_getElem?_getD, List.getD_eq_getElem?_getD]
      by_cases hk : k < lower v L
      · rw [if_pos hk, List.getElem?_append_left (by rw [List.length_take]; omega), List.getElem?_take, if_pos hk]
      · rw [if_neg hk, List.getElem?_append_right (by rw [List.length_take]; omega), List.length_take, Nat.min_eq_left hle, List.getElem?_drop]
        congr 2
        omega
    rw [g, g]
    refine h _ _ ?_ ?_
    · split <;> split <;> omega
    · split <;> omega
  · exact h
end Go.Proofs.Ytgfnlhigmncdmaa
end
section
/-
  What the library's binary search comes to on numbers in rising order.
-/
namespace Go.Proofs.Ytgfnlhigmncdmaa
set_option linter.unusedVariables false
set_option linter.unusedSimpArgs false
open Go.RowKit Go.Proofs.YtgfnlhigmncdmaaW.PrintWords Go.Proofs.YtgfnlhigmncdmaaW.PrintLast Go.Proofs.YtgfnlhigmncdmaaW.PrintMore

theorem cmp_nan (a : Int) (w : World) : Calls Try.prog 83 #[.int .i64 a] w fun e w' => e = .returned (.bool false) ∧ w = w' := by
  go_enter Try.func83, Try.ntmps83
  go_wp2
  go_ret
  exact ⟨by simp, rfl⟩
theorem slices_nan (a : Int) (w : World) : Calls Try.prog 72 #[.int .i64 a] w fun e w' => e = .returned (.bool false) ∧ w = w' := by
  go_enter Try.func72, Try.ntmps72
  go_wp2
  go_ret
  exact ⟨by simp, rfl⟩
set_option maxRecDepth 100000 in
theorem cmp_less (a b : Int) (w : World) : Calls Try.prog 71 #[.int .i64 a, .int .i64 b] w fun e w' => e = .returned (.bool (decide (a < b))) ∧ w = w' := by
  go_enter Try.func71, Try.ntmps71
  go_wp2_with fail
  refine (cmp_nan _ _).mono ?_
  rintro e w1 ⟨rfl, rfl⟩
  go_wp2
  go_ret
  exact ⟨by simp, rfl⟩
set_option maxHeartbeats 4000000 in
set_option maxRecDepth 100000 in
theorem search {w : World} {A : Option Addr} {c : Nat} {L : List Int} (v : Int) (hc : Kd.C (Kd.int .i64) w A L.length L) (hl : L.length ≤ 17592186044416) (hr : Rising L) :
    Calls Try.prog 51 #[.slice A L.length c, .int .i64 v] w fun e w' => e = .returned (.tuple #[.int .i64 (lower v L : Nat), .bool (hasL v L)]) ∧ w = w' := by
  have HC := Lib.hid hc
  have HR := Lib.hid hr
  have HL := Lib.hid hl
  have HLE := Lib.hid (lower_le v L)
  clear hc hr hl
  go_enter Try.func51, Try.ntmps51
  go_wp2
  go_loopg [7, 8] L.length (fun kq v7 v8 w' => ∃ (i j : Nat), v7 = .int .i64 i ∧ v8 = .int .i64 j ∧ Aside0 (j - i ≤ kq) ∧ Aside0 (i ≤ lower v L ∧ lower v L ≤ j ∧ j ≤ L.length) ∧ Aside0 (w = w'))
  case atStart => exact ⟨0, L.length, rfl, rfl, ⟨by omega⟩, ⟨Nat.zero_le _, HLE.out, Nat.le_refl _⟩, ⟨rfl⟩⟩
  case round =>
    obtain ⟨i, j, rfl, rfl, hk, hb, hw⟩ := hrel
    obtain rfl := hw.out
    by_cases hij : i < j
    · have c0 : decide (i < j) = true := decide_eq_true hij
      obtain ⟨h, hh⟩ : ∃ h : Nat, (i + j) / 2 = h := ⟨_, rfl⟩
      have hi1 : i ≤ h := by omega
      have hj1 : h < j := by omega
      have hjl := hb.out.2.2
      have hll := HL.out
      have hq : ((i : Int) + (j : Int)) / 2 = (h : Int) := by omega
      obtain ⟨ad, rfl, r0⟩ := Kd.at_int HC.out (h : Int) (by omega) (by omega)
      rw [Int.toNat_natCast] at r0
      have f1 := eq_true (show (0 : Int) ≤ (h : Int) by omega)
      have f2 : ((h : Int) < (L.length : Int)) = True := eq_true (by omega)
      have f3 := eq_true (show h < L.length by omega)
      obtain ⟨x, hx⟩ : ∃ x, rd L (h : Int) = x := ⟨_, rfl⟩
      rw [hx] at r0
      have hx2 : L.getD h 0 = x := by rw [← hx]; unfold rd; rw [Int.toNat_natCast]
      have HJ := Lib.hid (And.intro hi1 hj1)
      have Hij := Lib.hid hij
      by_cases hv : x < v
      · have hlo : h + 1 ≤ lower v L := lower_up HR.out (by omega) (by rw [hx2]; exact hv)
        have d1 : decide (x < v) = true := decide_eq_true hv
        have HLO := Lib.hid hlo
        have HW := Lib.hid (show wrap64 ((h : Int) + 1) = ((h + 1 : Nat) : Int) by unfold wrap64; omega)
        clear hlo hv hx hx2 hh hi1 hj1
        go_wp2_with fail
        refine (cmp_less _ _ _).mono ?_
        rintro e w1 ⟨rfl, rfl⟩
        rw [d1]
        clear hq
        go_wp2
        go_roundg (gk - 1)
        case measure => have := hk.out; have := Hij.out; omega
        case rel => exact ⟨h + 1, j, by first | rfl | rw [HW.out] | simp, rfl, ⟨by have := hk.out; have := HJ.out; omega⟩, ⟨HLO.out, hb.out.2.1, hb.out.2.2⟩, ⟨rfl⟩⟩
      · have hlo : lower v L ≤ h := lower_down HR.out (by omega) (by rw [hx2]; exact hv)
        have d1 : decide (x < v) = false := decide_eq_false hv
        have HLO := Lib.hid hlo
        clear hlo hv hx hx2 hh hi1 hj1
        have HJL := Lib.hid hjl
        go_wp2_with fail
        refine (cmp_less _ _ _).mono ?_
        rintro e w1 ⟨rfl, rfl⟩
        rw [d1]
        clear hq
        go_wp2
        go_roundg (gk - 1)
        case measure => have := hk.out; have := Hij.out; omega
        case rel => exact ⟨i, h, rfl, rfl, ⟨by have := hk.out; have := HJ.out; omega⟩, ⟨hb.out.1, HLO.out, by have := HJL.out; have := HJ.out; omega⟩, ⟨rfl⟩⟩
    · have c0 : decide (i < j) = false := decide_eq_false hij
      have hi : i = lower v L := by have := hb.out; omega
      have HI := Lib.hid hi
      have hle : i ≤ L.length := by have := hb.out; omega
      by_cases hil : i < L.length
      · obtain ⟨ad, rfl, r0⟩ := Kd.at_int HC.out (i : Int) (by omega) (by omega)
        rw [Int.toNat_natCast] at r0
        have f1 := eq_true (show (0 : Int) ≤ (i : Int) by omega)
        have f2 : ((i : Int) < (L.length : Int)) = True := eq_true (by omega)
        have f3 := eq_true hil
        have d2 : decide (i < L.length) = true := decide_eq_true hil
        obtain ⟨x, hx⟩ : ∃ x, rd L (i : Int) = x := ⟨_, rfl⟩
        rw [hx] at r0
        have hx2 : L.getD i 0 = x := by rw [← hx]; unfold rd; rw [Int.toNat_natCast]
        by_cases hv : x = v
        · have hh : hasL v L = true := by
            unfold hasL
            rw [← hi]
            exact decide_eq_true ⟨hil, hx2.trans hv⟩
          have HH := Lib.hid hh
          have d1 : (x == v) = true := by simp [hv]
          clear hv hx hx2 hij hi hh hle hil
          go_wp2
          go_ret2
          exact ⟨by rw [HH.out, ← HI.out]; simp, rfl⟩
        · have hh : hasL v L = false := by
            unfold hasL
            rw [← hi]
            exact decide_eq_false (fun hc => hv (hx2.symm.trans hc.2))
          have HH := Lib.hid hh
          have d1 : (x == v) = false := by simp [hv]
          clear hv hx hx2 hij hi hh hle hil
          go_wp2_with fail
          refine (slices_nan _ _).mono ?_
          rintro e w1 ⟨rfl, rfl⟩
          go_wp2
          go_ret2
          exact ⟨by rw [HH.out, ← HI.out]; simp, rfl⟩
      · have hh : hasL v L = false := by
          unfold hasL
          rw [← hi]
          exact decide_eq_false (fun hc => hil hc.1)
        have HH := Lib.hid hh
        have d2 : decide (i < L.length) = false := decide_eq_false hil
        clear hij hi hh hle hil
        go_wp2
        go_ret2
        exact ⟨by rw [HH.out, ← HI.out]; simp, rfl⟩
end Go.Proofs.Ytgfnlhigmncdmaa
end
