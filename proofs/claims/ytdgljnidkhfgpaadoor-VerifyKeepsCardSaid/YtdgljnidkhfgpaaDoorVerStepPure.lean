/-
  The verifier's step, as a plain function. No program in sight.
-/
import Derived.Test.YtdgljnidkhfgpaaDoorVerArg
namespace Go.Proofs.YtdgljnidkhfgpaaDoor
set_option linter.unusedVariables false
set_option linter.unusedSimpArgs false
open Go.RowKit Go.Proofs.YtdgljnidkhfgpaaDoorW.PrintWords

/-- What an operation needs, by how much the stack grows, and what its A is. -/
def tabL : List (Int × Int × Int) := [(0, 0, 0), (0, 1, 1), (0, 1, 0), (0, 1, 2), (0, 1, 3), (0, 1, 4), (1, 0, 0), (1, 0, 0), (1, 0, 0), (1, 0, 0), (1, 0, 0), (1, 0, 5), (2, -1, 0), (2, -1, 0), (2, -1, 0), (2, -1, 0), (2, -1, 0), (2, -1, 0), (2, -1, 0), (2, -1, 0), (2, -1, 0), (2, -1, 0), (2, -1, 0), (0, 0, 6), (1, -1, 7), (0, 0, 8), (0, 0, 9), (0, 0, 10), (1, 0, 11), (0, 0, 12), (1, -1, 12), (1, -1, 12), (1, 1, 0), (1, -1, 0)]
def needT (op : Int) : Int := (tabL.getD op.toNat (0, 0, 0)).1
def growT (op : Int) : Int := (tabL.getD op.toNat (0, 0, 0)).2.1
def argT (op : Int) : Int := (tabL.getD op.toNat (0, 0, 0)).2.2
/-- The table lies in its variable. -/
def TabAt (w : World) : Prop := ∀ k : Nat, k < 34 → w.cell? ⟨0, k * 3, none⟩ = some (.int .i64 (needT k)) ∧ w.cell? ⟨0, k * 3 + 1, none⟩ = some (.int .i64 (growT k)) ∧ w.cell? ⟨0, k * 3 + 2, none⟩ = some (.int .i64 (argT k))
theorem TabAt.below {w w' : World} (h : TabAt w) {n : Nat} (hb : Below n w w') (h0 : 0 < n) : TabAt w' := fun k hk =>
  ⟨(hb.cell (p := ⟨0, k * 3, none⟩) h0).trans (h k hk).1, (hb.cell (p := ⟨0, k * 3 + 1, none⟩) h0).trans (h k hk).2.1, (hb.cell (p := ⟨0, k * 3 + 2, none⟩) h0).trans (h k hk).2.2⟩
/-- Two leads, one behind the other. -/
def leadsP (height : Int) (r : Bool × List Pl) (tg h t : Int) : Bool × List Pl := if r.1 = true then leadP height r.2 tg h t else (false, r.2)
/-- The last part of a step: where an instruction leads. -/
def wayP (p : Pg) (P : List Pl) (n : Nat) (need grow kind a h t : Int) : Bool × List Pl :=
  if kind = 6 then jumpP p.height P n a h t
  else if kind = 7 then leadsP p.height (jumpP p.height P n a (h + grow) t) (n + 1) (h + grow) t
  else if kind = 8 then (if t < 4096 then leadsP p.height (jumpP p.height P n a h t) (n + 1) h (t + 1) else (false, P))
  else if kind = 9 then (if 0 < t then jumpP p.height P n a h (t - 1) else (false, P))
  else if kind = 10 then (if 0 ≤ a ∧ a.tdiv 16384 < p.locals then leadsP p.height (jumpP p.height P n (a.tmod 16384) (h + 1) t) (n + 1) h t else (false, P))
  else if kind = 12 then ((h == need) && (t == 0), P)
  else leadP p.height P (n + 1) (h + grow) t
def stepP (p : Pg) (P : List Pl) (n : Nat) : Bool × List Pl :=
  let x := rdInstrS p.code n
  let s := P.getD n Pl.z
  if s.k = false ∨ x.f0 < 1 ∨ 33 < x.f0 then (false, P)
  else if s.h < needT x.f0 ∨ argP p (argT x.f0) x.f1 = false then (false, P)
  else wayP p P n (needT x.f0) (growT x.f0) (argT x.f0) x.f1 s.h s.t
/-- No place is out of bounds. -/
def Few (P : List Pl) : Prop := ∀ x ∈ P, 0 ≤ x.h ∧ x.h ≤ 4096 ∧ 0 ≤ x.t ∧ x.t ≤ 4096
theorem Few.get {P : List Pl} (h : Few P) (n : Nat) : 0 ≤ (P.getD n Pl.z).h ∧ (P.getD n Pl.z).h ≤ 4096 ∧ 0 ≤ (P.getD n Pl.z).t ∧ (P.getD n Pl.z).t ≤ 4096 := by
  rw [List.getD_eq_getElem?_getD]
  cases hn : P[n]? with
  | none => simp [Pl.z]
  | some x => exact h x (List.mem_of_getElem? hn)
theorem Few.set {P : List Pl} (h : Few P) (n : Nat) (x : Pl) (hx : 0 ≤ x.h ∧ x.h ≤ 4096 ∧ 0 ≤ x.t ∧ x.t ≤ 4096) : Few (P.set n x) := by
  intro y hy
  rcases List.mem_or_eq_of_mem_set hy with hy | rfl
  · exact h y hy
  · exact hx
theorem Few.lead {P : List Pl} {height tg h t : Int} (hP : Few P) (hm : height ≤ 4096) (h0 : 0 ≤ h) (t0 : 0 ≤ t) (t1 : t ≤ 4096) : Few (leadP height P tg h t).2 := by
  unfold leadP
  split
  · exact hP
  · split
    · exact hP
    · exact hP.set _ _ ⟨h0, by show h ≤ 4096; omega, t0, t1⟩
theorem Few.jump {P : List Pl} {height n tg h t : Int} (hP : Few P) (hm : height ≤ 4096) (h0 : 0 ≤ h) (t0 : 0 ≤ t) (t1 : t ≤ 4096) : Few (jumpP height P n tg h t).2 := by
  unfold jumpP
  split
  · exact hP.lead hm h0 t0 t1
  · exact hP
theorem Few.leads {r : Bool × List Pl} {height tg h t : Int} (hP : Few r.2) (hm : height ≤ 4096) (h0 : 0 ≤ h) (t0 : 0 ≤ t) (t1 : t ≤ 4096) : Few (leadsP height r tg h t).2 := by
  unfold leadsP
  split
  · exact hP.lead hm h0 t0 t1
  · exact hP
theorem leadsP_len (height : Int) (r : Bool × List Pl) (tg h t : Int) : (leadsP height r tg h t).2.length = r.2.length := by
  unfold leadsP
  split
  · exact leadP_len _ _ _ _ _
  · rfl
theorem wayP_len (p : Pg) (P : List Pl) (n : Nat) (need grow kind a h t : Int) : (wayP p P n need grow kind a h t).2.length = P.length := by
  unfold wayP
  repeat' split
  all_goals first | rfl | exact jumpP_len _ _ _ _ _ _ | exact leadP_len _ _ _ _ _ | exact (leadsP_len _ _ _ _ _).trans (jumpP_len _ _ _ _ _ _)
theorem stepP_len (p : Pg) (P : List Pl) (n : Nat) : (stepP p P n).2.length = P.length := by
  unfold stepP
  simp only
  split
  · rfl
  · split
    · rfl
    · exact wayP_len _ _ _ _ _ _ _ _ _
theorem tab_all : ∀ k : Nat, k < 34 → 0 ≤ needT k + growT k ∧ 0 ≤ needT k ∧ needT k ≤ 2 ∧ -1 ≤ growT k ∧ growT k ≤ 1 ∧ 0 ≤ argT k ∧ argT k ≤ 12 := by decide
theorem Few.way {p : Pg} {P : List Pl} {n : Nat} {need grow kind a h t : Int} (hP : Few P) (hm : p.height ≤ 4096) (h0 : 0 ≤ h) (h1 : 0 ≤ h + grow) (t0 : 0 ≤ t) (t1 : t ≤ 4096) : Few (wayP p P n need grow kind a h t).2 := by
  unfold wayP
  by_cases k6 : kind = 6
  · rw [if_pos k6]; exact hP.jump hm h0 t0 t1
  rw [if_neg k6]
  by_cases k7 : kind = 7
  · rw [if_pos k7]; exact (hP.jump hm h1 t0 t1).leads hm h1 t0 t1
  rw [if_neg k7]
  by_cases k8 : kind = 8
  · rw [if_pos k8]
    split
    · exact (hP.jump hm h0 t0 t1).leads hm h0 (by omega) (by omega)
    · exact hP
  rw [if_neg k8]
  by_cases k9 : kind = 9
  · rw [if_pos k9]
    split
    · exact hP.jump hm h0 (by omega) (by omega)
    · exact hP
  rw [if_neg k9]
  by_cases k10 : kind = 10
  · rw [if_pos k10]
    split
    · exact (hP.jump hm (by omega) t0 t1).leads hm h0 t0 t1
    · exact hP
  rw [if_neg k10]
  by_cases k12 : kind = 12
  · rw [if_pos k12]; exact hP
  rw [if_neg k12]
  exact hP.lead hm h1 t0 t1
theorem Few.step {p : Pg} {P : List Pl} {n : Nat} (hP : Few P) (hm : p.height ≤ 4096) : Few (stepP p P n).2 := by
  unfold stepP
  simp only
  split
  · exact hP
  · split
    · exact hP
    · rename_i h1 h2
      obtain ⟨s0, s1, s2, s3⟩ := hP.get n
      obtain ⟨k, hk⟩ := Int.eq_ofNat_of_zero_le (show 0 ≤ (rdInstrS p.code n).f0 by omega)
      have ht := tab_all k (by omega)
      rw [hk] at h2 ⊢
      exact hP.way hm s0 (by omega) s2 s3
end Go.Proofs.YtdgljnidkhfgpaaDoor
