/-
  What the verifier's arg answers.
-/
import Derived.Test.YtdgljnidkhfgpaaDoorVerLead
namespace Go.Proofs.YtdgljnidkhfgpaaDoor
set_option linter.unusedVariables false
set_option linter.unusedSimpArgs false
open Go.RowKit Go.Proofs.YtdgljnidkhfgpaaDoorW.PrintWords Go.Proofs.YtdgljnidkhfgpaaDoorW.PrintLast Go.Proofs.YtdgljnidkhfgpaaDoorW.PrintMore

/-- Is A what it must be, but for targets? -/
def argP (p : Pg) (kind a : Int) : Bool :=
  if kind = 0 ∨ kind = 12 then a == 0
  else if kind = 1 then decide (0 ≤ a) && decide (a < p.consts.length)
  else if kind = 2 then decide (0 ≤ a) && decide (a < p.wins.length)
  else if kind = 3 then decide (0 ≤ a) && decide (a < p.crons.length)
  else if kind = 4 then decide (1 ≤ a) && decide (a ≤ 3)
  else if kind = 11 then decide (0 ≤ a) && decide (a < p.locals)
  else if kind = 5 then decide (0 ≤ a ∧ a < (p.consts.length : Int) - 1 ∧ 0 ≤ rd p.consts a ∧ 1 ≤ rd p.consts (a + 1))
  else true
section
variable {w0 w : World} {g ga : Nat} {p : Pg} {d : Hd} {P : List Pl}
theorem ChkAt.prog (i : ChkAt w0 w g ga p d P) : w.cell? ⟨g, 0, none⟩ = some (.int .i64 p.m) ∧ w.cell? ⟨g, 1, none⟩ = some (.int .i64 p.r0) ∧ w.cell? ⟨g, 2, none⟩ = some (.int .i64 p.r1) ∧ w.cell? ⟨g, 3, none⟩ = some (.int .i64 p.r2) ∧ w.cell? ⟨g, 4, none⟩ = some (.int .i64 p.r3) ∧ w.cell? ⟨g, 5, none⟩ = some (.int .i64 p.r4) ∧
    w.cell? ⟨g, 6, none⟩ = some (.slice d.a6 p.consts.length d.c6) ∧ w.cell? ⟨g, 7, none⟩ = some (.slice d.a7 p.wins.length d.c7) ∧ w.cell? ⟨g, 8, none⟩ = some (.slice d.a8 p.crons.length d.c8) ∧ w.cell? ⟨g, 9, none⟩ = some (.int .i64 p.locals) ∧ w.cell? ⟨g, 10, none⟩ = some (.int .i64 p.height) ∧ w.cell? ⟨g, 11, none⟩ = some (.slice d.a11 p.code.length d.c11) :=
  ⟨(blk_cell i.hb 0).trans rfl, (blk_cell i.hb 1).trans rfl, (blk_cell i.hb 2).trans rfl, (blk_cell i.hb 3).trans rfl, (blk_cell i.hb 4).trans rfl, (blk_cell i.hb 5).trans rfl, (blk_cell i.hb 6).trans rfl, (blk_cell i.hb 7).trans rfl, (blk_cell i.hb 8).trans rfl, (blk_cell i.hb 9).trans rfl, (blk_cell i.hb 10).trans rfl, (blk_cell i.hb 11).trans rfl⟩
set_option maxHeartbeats 4000000 in
set_option maxRecDepth 100000 in
theorem arg_k0 {a : Int} (i : ChkAt w0 w g ga p d P) : Calls Tryd.prog 47 #[.pointer (some ⟨g, 0, none⟩), .int .i64 0, .int .i64 a] w fun e w' => e = .returned (.bool (a == 0)) ∧ Below w.heap.size w w' := by
  obtain ⟨c0, c1, c2, c3, c4, c5, c6, c7, c8, c9, c10, c11⟩ := i.prog
  have lt1 := blk_lt i.hb
  have ne1 : ¬ g = w.heap.size := by omega
  have ne2 : ¬ w.heap.size = g := by omega
  clear i lt1
  go_enter Tryd.func47, Tryd.ntmps47
  go_wp2
  go_ret
  exact ⟨by simp, below_alloc (Below.refl _ _) _⟩
set_option maxHeartbeats 4000000 in
set_option maxRecDepth 100000 in
theorem arg_k12 {a : Int} (i : ChkAt w0 w g ga p d P) : Calls Tryd.prog 47 #[.pointer (some ⟨g, 0, none⟩), .int .i64 12, .int .i64 a] w fun e w' => e = .returned (.bool (a == 0)) ∧ Below w.heap.size w w' := by
  obtain ⟨c0, c1, c2, c3, c4, c5, c6, c7, c8, c9, c10, c11⟩ := i.prog
  have lt1 := blk_lt i.hb
  have ne1 : ¬ g = w.heap.size := by omega
  have ne2 : ¬ w.heap.size = g := by omega
  clear i lt1
  go_enter Tryd.func47, Tryd.ntmps47
  go_wp2
  go_ret
  exact ⟨by simp, below_alloc (Below.refl _ _) _⟩
set_option maxHeartbeats 4000000 in
set_option maxRecDepth 100000 in
theorem arg_k1 {a : Int} (i : ChkAt w0 w g ga p d P) : Calls Tryd.prog 47 #[.pointer (some ⟨g, 0, none⟩), .int .i64 1, .int .i64 a] w fun e w' => e = .returned (.bool (decide (0 ≤ a) && decide (a < p.consts.length))) ∧ Below w.heap.size w w' := by
  obtain ⟨c0, c1, c2, c3, c4, c5, c6, c7, c8, c9, c10, c11⟩ := i.prog
  have lt1 := blk_lt i.hb
  have ne1 : ¬ g = w.heap.size := by omega
  have ne2 : ¬ w.heap.size = g := by omega
  clear i lt1
  by_cases h0 : 0 ≤ a
  · have d0 : decide (0 ≤ a) = true := decide_eq_true h0
    rw [d0, Bool.true_and]
    obtain ⟨b, hb⟩ : ∃ b, decide (a < p.consts.length) = b := ⟨_, rfl⟩
    rw [hb]
    clear h0
    go_enter Tryd.func47, Tryd.ntmps47
    go_wp2
    go_ret
    exact ⟨by simp, below_alloc (Below.refl _ _) _⟩
  · have d0 : decide (0 ≤ a) = false := decide_eq_false h0
    rw [d0, Bool.false_and]
    clear h0
    go_enter Tryd.func47, Tryd.ntmps47
    go_wp2
    go_ret
    exact ⟨by simp, below_alloc (Below.refl _ _) _⟩
set_option maxHeartbeats 4000000 in
set_option maxRecDepth 100000 in
theorem arg_k2 {a : Int} (i : ChkAt w0 w g ga p d P) : Calls Tryd.prog 47 #[.pointer (some ⟨g, 0, none⟩), .int .i64 2, .int .i64 a] w fun e w' => e = .returned (.bool (decide (0 ≤ a) && decide (a < p.wins.length))) ∧ Below w.heap.size w w' := by
  obtain ⟨c0, c1, c2, c3, c4, c5, c6, c7, c8, c9, c10, c11⟩ := i.prog
  have lt1 := blk_lt i.hb
  have ne1 : ¬ g = w.heap.size := by omega
  have ne2 : ¬ w.heap.size = g := by omega
  clear i lt1
  by_cases h0 : 0 ≤ a
  · have d0 : decide (0 ≤ a) = true := decide_eq_true h0
    rw [d0, Bool.true_and]
    obtain ⟨b, hb⟩ : ∃ b, decide (a < p.wins.length) = b := ⟨_, rfl⟩
    rw [hb]
    clear h0
    go_enter Tryd.func47, Tryd.ntmps47
    go_wp2
    go_ret
    exact ⟨by simp, below_alloc (Below.refl _ _) _⟩
  · have d0 : decide (0 ≤ a) = false := decide_eq_false h0
    rw [d0, Bool.false_and]
    clear h0
    go_enter Tryd.func47, Tryd.ntmps47
    go_wp2
    go_ret
    exact ⟨by simp, below_alloc (Below.refl _ _) _⟩
set_option maxHeartbeats 4000000 in
set_option maxRecDepth 100000 in
theorem arg_k3 {a : Int} (i : ChkAt w0 w g ga p d P) : Calls Tryd.prog 47 #[.pointer (some ⟨g, 0, none⟩), .int .i64 3, .int .i64 a] w fun e w' => e = .returned (.bool (decide (0 ≤ a) && decide (a < p.crons.length))) ∧ Below w.heap.size w w' := by
  obtain ⟨c0, c1, c2, c3, c4, c5, c6, c7, c8, c9, c10, c11⟩ := i.prog
  have lt1 := blk_lt i.hb
  have ne1 : ¬ g = w.heap.size := by omega
  have ne2 : ¬ w.heap.size = g := by omega
  clear i lt1
  by_cases h0 : 0 ≤ a
  · have d0 : decide (0 ≤ a) = true := decide_eq_true h0
    rw [d0, Bool.true_and]
    obtain ⟨b, hb⟩ : ∃ b, decide (a < p.crons.length) = b := ⟨_, rfl⟩
    rw [hb]
    clear h0
    go_enter Tryd.func47, Tryd.ntmps47
    go_wp2
    go_ret
    exact ⟨by simp, below_alloc (Below.refl _ _) _⟩
  · have d0 : decide (0 ≤ a) = false := decide_eq_false h0
    rw [d0, Bool.false_and]
    clear h0
    go_enter Tryd.func47, Tryd.ntmps47
    go_wp2
    go_ret
    exact ⟨by simp, below_alloc (Below.refl _ _) _⟩
set_option maxHeartbeats 4000000 in
set_option maxRecDepth 100000 in
theorem arg_k4 {a : Int} (i : ChkAt w0 w g ga p d P) : Calls Tryd.prog 47 #[.pointer (some ⟨g, 0, none⟩), .int .i64 4, .int .i64 a] w fun e w' => e = .returned (.bool (decide (1 ≤ a) && decide (a ≤ 3))) ∧ Below w.heap.size w w' := by
  obtain ⟨c0, c1, c2, c3, c4, c5, c6, c7, c8, c9, c10, c11⟩ := i.prog
  have lt1 := blk_lt i.hb
  have ne1 : ¬ g = w.heap.size := by omega
  have ne2 : ¬ w.heap.size = g := by omega
  clear i lt1
  by_cases h0 : 1 ≤ a
  · have d0 : decide (1 ≤ a) = true := decide_eq_true h0
    rw [d0, Bool.true_and]
    obtain ⟨b, hb⟩ : ∃ b, decide (a ≤ 3) = b := ⟨_, rfl⟩
    rw [hb]
    clear h0
    go_enter Tryd.func47, Tryd.ntmps47
    go_wp2
    go_ret
    exact ⟨by simp, below_alloc (Below.refl _ _) _⟩
  · have d0 : decide (1 ≤ a) = false := decide_eq_false h0
    rw [d0, Bool.false_and]
    clear h0
    go_enter Tryd.func47, Tryd.ntmps47
    go_wp2
    go_ret
    exact ⟨by simp, below_alloc (Below.refl _ _) _⟩
set_option maxHeartbeats 4000000 in
set_option maxRecDepth 100000 in
theorem arg_k11 {a : Int} (i : ChkAt w0 w g ga p d P) : Calls Tryd.prog 47 #[.pointer (some ⟨g, 0, none⟩), .int .i64 11, .int .i64 a] w fun e w' => e = .returned (.bool (decide (0 ≤ a) && decide (a < p.locals))) ∧ Below w.heap.size w w' := by
  obtain ⟨c0, c1, c2, c3, c4, c5, c6, c7, c8, c9, c10, c11⟩ := i.prog
  have lt1 := blk_lt i.hb
  have ne1 : ¬ g = w.heap.size := by omega
  have ne2 : ¬ w.heap.size = g := by omega
  clear i lt1
  by_cases h0 : 0 ≤ a
  · have d0 : decide (0 ≤ a) = true := decide_eq_true h0
    rw [d0, Bool.true_and]
    obtain ⟨b, hb⟩ : ∃ b, decide (a < p.locals) = b := ⟨_, rfl⟩
    rw [hb]
    clear h0
    go_enter Tryd.func47, Tryd.ntmps47
    go_wp2
    go_ret
    exact ⟨by simp, below_alloc (Below.refl _ _) _⟩
  · have d0 : decide (0 ≤ a) = false := decide_eq_false h0
    rw [d0, Bool.false_and]
    clear h0
    go_enter Tryd.func47, Tryd.ntmps47
    go_wp2
    go_ret
    exact ⟨by simp, below_alloc (Below.refl _ _) _⟩
theorem wrap_small {x : Int} (h0 : -4611686018427387904 ≤ x) (h1 : x ≤ 4611686018427387904) : wrap64 x = x := by unfold wrap64; omega
set_option maxHeartbeats 4000000 in
set_option maxRecDepth 100000 in
theorem arg_k5 {a : Int} (hl : p.consts.length ≤ 16384) (i : ChkAt w0 w g ga p d P) : Calls Tryd.prog 47 #[.pointer (some ⟨g, 0, none⟩), .int .i64 5, .int .i64 a] w fun e w' => e = .returned (.bool (decide (0 ≤ a ∧ a < (p.consts.length : Int) - 1 ∧ 0 ≤ rd p.consts a ∧ 1 ≤ rd p.consts (a + 1)))) ∧ Below w.heap.size w w' := by
  obtain ⟨c0, c1, c2, c3, c4, c5, c6, c7, c8, c9, c10, c11⟩ := i.prog
  have lt1 := blk_lt i.hb
  have ne1 : ¬ g = w.heap.size := by omega
  have ne2 : ¬ w.heap.size = g := by omega
  have HC := Lib.hid i.now.r6
  have LN := p.consts.length
  clear i lt1
  obtain ⟨n1, hn1⟩ : ∃ n1, (p.consts.length : Int) - 1 = n1 := ⟨_, rfl⟩
  have HW := Lib.hid (show wrap64 ((p.consts.length : Int) - 1) = n1 by rw [hn1]; exact wrap_small (by omega) (by omega))
  rw [hn1]
  by_cases h0 : 0 ≤ a
  · have d0 : decide (0 ≤ a) = true := decide_eq_true h0
    by_cases h1 : a < n1
    · have d1 : decide (a < n1) = true := decide_eq_true h1
      obtain ⟨k, rfl⟩ := Int.eq_ofNat_of_zero_le h0
      obtain ⟨k1, hk1⟩ : ∃ k1, k + 1 = k1 := ⟨_, rfl⟩
      have e1 := eq_true (show (0 : Int) ≤ (k : Int) by omega)
      have e2 : ((k : Int) < (p.consts.length : Int)) = True := eq_true (by omega)
      have e3 : (k < p.consts.length) = True := eq_true (by omega)
      have e4 := eq_true (show (0 : Int) ≤ (k1 : Int) by omega)
      have e5 : ((k1 : Int) < (p.consts.length : Int)) = True := eq_true (by omega)
      have e6 : (k1 < p.consts.length) = True := eq_true (by omega)
      have hk2 : (k : Int) + 1 = (k1 : Int) := by omega
      have hw2 : wrap64 ((k : Int) + 1) = (k1 : Int) := by rw [hk2]; exact wrap_small (by omega) (by omega)
      obtain ⟨ad, hA, q0⟩ := Kd.at_int HC.out (k : Int) (by omega) (by omega)
      obtain ⟨ad', hA', q1⟩ := Kd.at_int HC.out (k1 : Int) (by omega) (by omega)
      rw [hk2]
      rw [hA] at hA'
      cases hA'
      rw [hA] at c6
      rw [Int.toNat_natCast] at q0 q1
      obtain ⟨x, hx⟩ : ∃ x, rd p.consts (k : Int) = x := ⟨_, rfl⟩
      obtain ⟨y, hy⟩ : ∃ y, rd p.consts (k1 : Int) = y := ⟨_, rfl⟩
      rw [hx] at q0 ⊢
      rw [hy] at q1 ⊢
      have bl := World.block_lt_of_cell? w _ q0
      rw [add_block] at bl
      have E := Lib.hid (show decide ((0 : Int) ≤ (k : Int) ∧ (k : Int) < n1 ∧ 0 ≤ x ∧ 1 ≤ y) = (decide (0 ≤ x) && decide (1 ≤ y)) by rw [Bool.eq_iff_iff]; simp; omega)
      rw [E.out]
      have ne3 : ¬ ad.block = w.heap.size := by omega
      have ne4 : ¬ w.heap.size = ad.block := by omega
      have bl2 : (ad.add k).block < w.heap.size := by rw [add_block]; exact bl
      have bl3 : (ad.add k1).block < w.heap.size := by rw [add_block]; exact bl
      clear hA h0 hx hy hn1 h1 hk1 hl hk2 E LN
      have hw := HW.out
      by_cases hx0 : 0 ≤ x
      · have d2 : decide (0 ≤ x) = true := decide_eq_true hx0
        rw [d2, Bool.true_and]
        obtain ⟨b, hb⟩ : ∃ b, decide (1 ≤ y) = b := ⟨_, rfl⟩
        rw [hb]
        clear hx0
        go_enter Tryd.func47, Tryd.ntmps47
        go_wp2
        go_ret
        exact ⟨by simp, below_alloc (Below.refl _ _) _⟩
      · have d2 : decide (0 ≤ x) = false := decide_eq_false hx0
        rw [d2, Bool.false_and]
        clear hx0
        go_enter Tryd.func47, Tryd.ntmps47
        go_wp2
        go_ret
        exact ⟨by simp, below_alloc (Below.refl _ _) _⟩
    · have d1 : decide (a < n1) = false := decide_eq_false h1
      rw [show decide (0 ≤ a ∧ a < n1 ∧ 0 ≤ rd p.consts a ∧ 1 ≤ rd p.consts (a + 1)) = false from decide_eq_false (by omega)]
      clear h0 h1 hn1 hl LN
      have hw := HW.out
      go_enter Tryd.func47, Tryd.ntmps47
      go_wp2
      go_ret
      exact ⟨by simp, below_alloc (Below.refl _ _) _⟩
  · have d0 : decide (0 ≤ a) = false := decide_eq_false h0
    rw [show decide (0 ≤ a ∧ a < n1 ∧ 0 ≤ rd p.consts a ∧ 1 ≤ rd p.consts (a + 1)) = false from decide_eq_false (by omega)]
    clear h0 hn1 hl LN
    go_enter Tryd.func47, Tryd.ntmps47
    go_wp2
    go_ret
    exact ⟨by simp, below_alloc (Below.refl _ _) _⟩
set_option maxHeartbeats 4000000 in
set_option maxRecDepth 100000 in
theorem arg_kx {a kind : Int} (hk : kind ≠ 0 ∧ kind ≠ 1 ∧ kind ≠ 2 ∧ kind ≠ 3 ∧ kind ≠ 4 ∧ kind ≠ 5 ∧ kind ≠ 11 ∧ kind ≠ 12) (i : ChkAt w0 w g ga p d P) : Calls Tryd.prog 47 #[.pointer (some ⟨g, 0, none⟩), .int .i64 kind, .int .i64 a] w fun e w' => e = .returned (.bool (true)) ∧ Below w.heap.size w w' := by
  obtain ⟨c0, c1, c2, c3, c4, c5, c6, c7, c8, c9, c10, c11⟩ := i.prog
  have lt1 := blk_lt i.hb
  have ne1 : ¬ g = w.heap.size := by omega
  have ne2 : ¬ w.heap.size = g := by omega
  clear i lt1
  have n0 : (kind == 0) = false := by simpa using hk.1
  have n1 : (kind == 1) = false := by simpa using hk.2.1
  have n2 : (kind == 2) = false := by simpa using hk.2.2.1
  have n3 : (kind == 3) = false := by simpa using hk.2.2.2.1
  have n4 : (kind == 4) = false := by simpa using hk.2.2.2.2.1
  have n5 : (kind == 5) = false := by simpa using hk.2.2.2.2.2.1
  have n11 : (kind == 11) = false := by simpa using hk.2.2.2.2.2.2.1
  have n12 : (kind == 12) = false := by simpa using hk.2.2.2.2.2.2.2
  go_enter Tryd.func47, Tryd.ntmps47
  go_wp2
  go_ret
  exact ⟨by simp, below_alloc (Below.refl _ _) _⟩
theorem arg_calls {kind a : Int} (hl : p.consts.length ≤ 16384) (i : ChkAt w0 w g ga p d P) : Calls Tryd.prog 47 #[.pointer (some ⟨g, 0, none⟩), .int .i64 kind, .int .i64 a] w fun e w' => e = .returned (.bool (argP p kind a)) ∧ Below w.heap.size w w' := by
  unfold argP
  by_cases h0 : kind = 0
  · rw [if_pos (.inl h0)]; subst h0; exact arg_k0 i
  by_cases h12 : kind = 12
  · rw [if_pos (.inr h12)]; subst h12; exact arg_k12 i
  rw [if_neg (by omega)]
  by_cases h1 : kind = 1
  · rw [if_pos h1]; subst h1; exact arg_k1 i
  rw [if_neg h1]
  by_cases h2 : kind = 2
  · rw [if_pos h2]; subst h2; exact arg_k2 i
  rw [if_neg h2]
  by_cases h3 : kind = 3
  · rw [if_pos h3]; subst h3; exact arg_k3 i
  rw [if_neg h3]
  by_cases h4 : kind = 4
  · rw [if_pos h4]; subst h4; exact arg_k4 i
  rw [if_neg h4]
  by_cases h11 : kind = 11
  · rw [if_pos h11]; subst h11; exact arg_k11 i
  rw [if_neg h11]
  by_cases h5 : kind = 5
  · rw [if_pos h5]; subst h5; exact arg_k5 hl i
  rw [if_neg h5]
  exact arg_kx ⟨h0, h1, h2, h3, h4, h5, h11, h12⟩ i
end
end Go.Proofs.YtdgljnidkhfgpaaDoor
