/-
  What an accepted program's heights say: plain law. No program in sight.
-/
import Derived.Test.YtdgljnidkhfgpaaDoorVerAwake
namespace Go.Proofs.YtdgljnidkhfgpaaDoor
set_option linter.unusedVariables false
set_option linter.unusedSimpArgs false
open Go.RowKit Go.Proofs.YtdgljnidkhfgpaaDoor.XVer Go.Proofs.YtdgljnidkhfgpaaDoorW.PrintWords

/-- Where an instruction leads, with one try open. -/
def waysL (i op a h : Int) : List S54 :=
  if op = 23 then [⟨a, h, 1⟩]
  else if op = 24 then [⟨a, h - 1, 1⟩, ⟨i + 1, h - 1, 1⟩]
  else if op = 25 then [⟨a, h, 1⟩, ⟨i + 1, h, 2⟩]
  else if op = 26 then [⟨a, h, 0⟩]
  else if op = 27 then [⟨Int.tmod a 16384, h + 1, 1⟩, ⟨i + 1, h, 1⟩]
  else if op = 29 ∨ op = 30 ∨ op = 31 then []
  else [⟨i + 1, h + growT op, 1⟩]
def lastB (op : Int) : Bool := decide (op = 29 ∨ op = 30 ∨ op = 31)
theorem wrap_is {x : Int} (h0 : -9223372036854775808 ≤ x) (h1 : x < 9223372036854775808) : wrap64 x = x := by unfold wrap64; omega
theorem ways_plain {i a h : Int} {k : Nat} (hi : 0 ≤ i) (hi2 : i ≤ 16384) (h1 : 1 ≤ k) (h2 : k ≤ 33) (hn : needT k ≤ h) (hh : h ≤ 4096) : ∃ b, capstanref23_Ways.f 5 i k a h 1 = some (waysL i k a h, b) ∧ (lastB k = false → b = true ∧ waysL i k a h ≠ []) := by
  have w1 : wrap64 (i + 1) = i + 1 := wrap_is (by omega) (by omega)
  have w2 : wrap64 2 = 2 := wrap_is (by omega) (by omega)
  have w3 : wrap64 0 = 0 := wrap_is (by omega) (by omega)
  have hk : k = 1 ∨ k = 2 ∨ k = 3 ∨ k = 4 ∨ k = 5 ∨ k = 6 ∨ k = 7 ∨ k = 8 ∨ k = 9 ∨ k = 10 ∨ k = 11 ∨ k = 12 ∨ k = 13 ∨ k = 14 ∨ k = 15 ∨ k = 16 ∨ k = 17 ∨ k = 18 ∨ k = 19 ∨ k = 20 ∨ k = 21 ∨ k = 22 ∨ k = 23 ∨ k = 24 ∨ k = 25 ∨ k = 26 ∨ k = 27 ∨ k = 28 ∨ k = 29 ∨ k = 30 ∨ k = 31 ∨ k = 32 ∨ k = 33 := by omega
  have h0 : 0 ≤ h := by have := tab_all k (by omega); omega
  have w4 : wrap64 (h + 1) = h + 1 := wrap_is (by omega) (by omega)
  have w5 : wrap64 (h - 1) = h - 1 := wrap_is (by omega) (by omega)
  rcases hk with rfl | rfl | rfl | rfl | rfl | rfl | rfl | rfl | rfl | rfl | rfl | rfl | rfl | rfl | rfl | rfl | rfl | rfl | rfl | rfl | rfl | rfl | rfl | rfl | rfl | rfl | rfl | rfl | rfl | rfl | rfl | rfl | rfl <;>
    simp [needT, tabL] at hn <;>
    simp [capstanref23_Ways.f, capstanref23_Ways.j0, capstanref23_Ways.j1, capstanref23_Ways.j2, capstanref23_Need.f, capstanref23_Need.j0, capstanref23_Need.j1, w1, w2, w3, w4, w5, waysL, lastB, growT, tabL] <;>
    first | done | omega | (split <;> first | (exfalso; omega) | (simp; done) | (simp; omega))
/-- What is known stays. -/
def Stays (P Q : List Pl) : Prop := Q.length = P.length ∧ ∀ j, (P.getD j Pl.z).k = true → Q.getD j Pl.z = P.getD j Pl.z
theorem Stays.refl (P : List Pl) : Stays P P := ⟨rfl, fun _ _ => rfl⟩
theorem Stays.trans {P Q R : List Pl} (h : Stays P Q) (g : Stays Q R) : Stays P R :=
  ⟨g.1.trans h.1, fun j hj => by
    have e := h.2 j hj
    rw [g.2 j (by rw [e]; exact hj), e]⟩
/-- A place is known, with this height. -/
def Got (Q : List Pl) (i tg h : Int) : Prop := i < tg ∧ tg < Q.length ∧ 0 ≤ tg ∧ (Q.getD tg.toNat Pl.z).k = true ∧ (Q.getD tg.toNat Pl.z).h = h
theorem Got.stays {P Q : List Pl} {i tg h : Int} (g : Got P i tg h) (s : Stays P Q) : Got Q i tg h := by
  obtain ⟨g1, g2, g3, g4, g5⟩ := g
  have e := s.2 _ g4
  exact ⟨g1, by rw [s.1]; exact g2, g3, by rw [e]; exact g4, by rw [e]; exact g5⟩
/-- No place is higher than the program says. -/
def Low (m : Int) (P : List Pl) : Prop := ∀ j, (P.getD j Pl.z).h ≤ m
theorem getD_set {P : List Pl} {n j : Nat} {x : Pl} : (P.set n x).getD j Pl.z = if n = j ∧ n < P.length then x else P.getD j Pl.z := by
  rw [List.getD_eq_getElem?_getD, List.getElem?_set, List.getD_eq_getElem?_getD]
  by_cases h : n = j
  · subst h
    by_cases h2 : n < P.length
    · simp [h2]
    · simp [h2]
  · simp [h]
theorem lead_ok {m tg h t : Int} {P : List Pl} (hL : Low m P) (ho : (leadP m P tg h t).1 = true) (i : Int) (hi : i < tg) : Stays P (leadP m P tg h t).2 ∧ Low m (leadP m P tg h t).2 ∧ Got (leadP m P tg h t).2 i tg h := by
  unfold leadP at ho ⊢
  by_cases c : tg < 0 ∨ (P.length : Int) ≤ tg ∨ m < h
  · rw [if_pos c] at ho; simp at ho
  · rw [if_neg c] at ho ⊢
    by_cases k : (P.getD tg.toNat Pl.z).k = true
    · rw [if_pos k] at ho ⊢
      simp at ho
      exact ⟨.refl _, hL, hi, by show tg < (P.length : Int); omega, by omega, k, by rw [List.getD_eq_getElem?_getD]; exact ho.1⟩
    · rw [if_neg k]
      have hl : tg.toNat < P.length := by omega
      refine ⟨⟨by simp, fun j hj => ?_⟩, fun j => ?_, hi, by simp; omega, by omega, ?_, ?_⟩
      · rw [getD_set, if_neg]
        rintro ⟨rfl, _⟩
        exact k hj
      · rw [getD_set]
        split
        · show h ≤ m; omega
        · exact hL j
      · rw [getD_set, if_pos ⟨rfl, hl⟩]
      · rw [getD_set, if_pos ⟨rfl, hl⟩]
theorem jump_ok {m i tg h t : Int} {P : List Pl} (hL : Low m P) (ho : (jumpP m P i tg h t).1 = true) : Stays P (jumpP m P i tg h t).2 ∧ Low m (jumpP m P i tg h t).2 ∧ Got (jumpP m P i tg h t).2 i tg h := by
  unfold jumpP at ho ⊢
  by_cases c : i < tg
  · rw [if_pos c] at ho ⊢
    exact lead_ok hL ho i c
  · rw [if_neg c] at ho
    simp at ho
theorem leads_ok {m i tg h t : Int} {r : Bool × List Pl} (ho : (leadsP m r tg h t).1 = true) (hL : r.1 = true → Low m r.2) (hi : i < tg) : r.1 = true ∧ Stays r.2 (leadsP m r tg h t).2 ∧ Low m (leadsP m r tg h t).2 ∧ Got (leadsP m r tg h t).2 i tg h := by
  unfold leadsP at ho ⊢
  by_cases c : r.1 = true
  · rw [if_pos c] at ho ⊢
    obtain ⟨a, b, d⟩ := lead_ok (hL c) ho i hi
    exact ⟨c, a, b, d⟩
  · rw [if_neg c] at ho
    simp at ho
def waysK (kind i a h grow : Int) : List S54 :=
  if kind = 6 then [⟨a, h, 1⟩]
  else if kind = 7 then [⟨a, h + grow, 1⟩, ⟨i + 1, h + grow, 1⟩]
  else if kind = 8 then [⟨a, h, 1⟩, ⟨i + 1, h, 2⟩]
  else if kind = 9 then [⟨a, h, 0⟩]
  else if kind = 10 then [⟨Int.tmod a 16384, h + 1, 1⟩, ⟨i + 1, h, 1⟩]
  else if kind = 12 then []
  else [⟨i + 1, h + grow, 1⟩]
theorem ways_kind {i a h : Int} {k : Nat} (h1 : 1 ≤ k) (h2 : k ≤ 33) : waysL i k a h = waysK (argT k) i a h (growT k) := by
  have hk : k = 1 ∨ k = 2 ∨ k = 3 ∨ k = 4 ∨ k = 5 ∨ k = 6 ∨ k = 7 ∨ k = 8 ∨ k = 9 ∨ k = 10 ∨ k = 11 ∨ k = 12 ∨ k = 13 ∨ k = 14 ∨ k = 15 ∨ k = 16 ∨ k = 17 ∨ k = 18 ∨ k = 19 ∨ k = 20 ∨ k = 21 ∨ k = 22 ∨ k = 23 ∨ k = 24 ∨ k = 25 ∨ k = 26 ∨ k = 27 ∨ k = 28 ∨ k = 29 ∨ k = 30 ∨ k = 31 ∨ k = 32 ∨ k = 33 := by omega
  rcases hk with rfl | rfl | rfl | rfl | rfl | rfl | rfl | rfl | rfl | rfl | rfl | rfl | rfl | rfl | rfl | rfl | rfl | rfl | rfl | rfl | rfl | rfl | rfl | rfl | rfl | rfl | rfl | rfl | rfl | rfl | rfl | rfl | rfl <;>
    simp [waysL, waysK, argT, growT, tabL, Int.sub_eq_add_neg]
theorem way_ok {p : Pg} {P : List Pl} {n : Nat} {need grow kind a h t : Int} (hL : Low p.height P) (ho : (wayP p P n need grow kind a h t).1 = true) :
    Stays P (wayP p P n need grow kind a h t).2 ∧ Low p.height (wayP p P n need grow kind a h t).2 ∧ ∀ x ∈ waysK kind n a h grow, Got (wayP p P n need grow kind a h t).2 n x.f0 x.f1 := by
  have two : ∀ {r : Bool × List Pl} {tg h1 tg2 h2 t2 : Int}, (r.1 = true → Stays P r.2 ∧ Low p.height r.2 ∧ Got r.2 n tg h1) → (n : Int) < tg2 → (leadsP p.height r tg2 h2 t2).1 = true → ∀ u v : Int,
      Stays P (leadsP p.height r tg2 h2 t2).2 ∧ Low p.height (leadsP p.height r tg2 h2 t2).2 ∧ ∀ x ∈ [(⟨tg, h1, u⟩ : S54), ⟨tg2, h2, v⟩], Got (leadsP p.height r tg2 h2 t2).2 n x.f0 x.f1 := by
    intro r tg h1 tg2 h2 t2 hr hi ho u v
    obtain ⟨c, s2, l2, g2⟩ := leads_ok (m := p.height) (i := n) ho (fun c => (hr c).2.1) hi
    obtain ⟨s1, l1, g1⟩ := hr c
    refine ⟨s1.trans s2, l2, fun x hx => ?_⟩
    have : x = ⟨tg, h1, u⟩ ∨ x = ⟨tg2, h2, v⟩ := by simpa using hx
    rcases this with rfl | rfl
    · exact g1.stays s2
    · exact g2
  have one : ∀ {r : Bool × List Pl} {tg h1 : Int} (u : Int), (Stays P r.2 ∧ Low p.height r.2 ∧ Got r.2 n tg h1) → Stays P r.2 ∧ Low p.height r.2 ∧ ∀ x ∈ [(⟨tg, h1, u⟩ : S54)], Got r.2 n x.f0 x.f1 := by
    intro r tg h1 u hr
    refine ⟨hr.1, hr.2.1, fun x hx => ?_⟩
    obtain rfl : x = ⟨tg, h1, u⟩ := by simpa using hx
    exact hr.2.2
  unfold wayP at ho ⊢
  unfold waysK
  by_cases k6 : kind = 6
  · rw [if_pos k6] at ho ⊢; rw [if_pos k6]
    exact one 1 (jump_ok hL ho)
  rw [if_neg k6] at ho ⊢; rw [if_neg k6]
  by_cases k7 : kind = 7
  · rw [if_pos k7] at ho ⊢; rw [if_pos k7]
    exact two (fun c => jump_ok hL c) (by omega) ho 1 1
  rw [if_neg k7] at ho ⊢; rw [if_neg k7]
  by_cases k8 : kind = 8
  · rw [if_pos k8] at ho ⊢; rw [if_pos k8]
    by_cases c : t < 4096
    · rw [if_pos c] at ho ⊢
      exact two (fun c => jump_ok hL c) (by omega) ho 1 2
    · rw [if_neg c] at ho; simp at ho
  rw [if_neg k8] at ho ⊢; rw [if_neg k8]
  by_cases k9 : kind = 9
  · rw [if_pos k9] at ho ⊢; rw [if_pos k9]
    by_cases c : 0 < t
    · rw [if_pos c] at ho ⊢
      exact one 0 (jump_ok hL ho)
    · rw [if_neg c] at ho; simp at ho
  rw [if_neg k9] at ho ⊢; rw [if_neg k9]
  by_cases k10 : kind = 10
  · rw [if_pos k10] at ho ⊢; rw [if_pos k10]
    by_cases c : 0 ≤ a ∧ a.tdiv 16384 < p.locals
    · rw [if_pos c] at ho ⊢
      exact two (fun c => jump_ok hL c) (by omega) ho 1 1
    · rw [if_neg c] at ho; simp at ho
  rw [if_neg k10] at ho ⊢; rw [if_neg k10]
  by_cases k12 : kind = 12
  · rw [if_pos k12]; rw [if_pos k12]
    exact ⟨.refl _, hL, fun x hx => by simp at hx⟩
  rw [if_neg k12] at ho ⊢; rw [if_neg k12]
  exact one 1 (lead_ok hL ho n (by omega))
theorem step_ok {p : Pg} {P : List Pl} {n : Nat} (hL : Low p.height P) (ho : (stepP p P n).1 = true) :
    Stays P (stepP p P n).2 ∧ Low p.height (stepP p P n).2 ∧ ∃ k : Nat, (rdInstrS p.code n).f0 = k ∧ 1 ≤ k ∧ k ≤ 33 ∧ (P.getD n Pl.z).k = true ∧ needT k ≤ (P.getD n Pl.z).h ∧ ∀ x ∈ waysL n k (rdInstrS p.code n).f1 (P.getD n Pl.z).h, Got (stepP p P n).2 n x.f0 x.f1 := by
  unfold stepP at ho ⊢
  simp only at ho ⊢
  by_cases c : (P.getD n Pl.z).k = false ∨ (rdInstrS p.code n).f0 < 1 ∨ 33 < (rdInstrS p.code n).f0
  · rw [if_pos c] at ho; simp at ho
  rw [if_neg c] at ho ⊢
  obtain ⟨k, hk⟩ := Int.eq_ofNat_of_zero_le (show 0 ≤ (rdInstrS p.code n).f0 by omega)
  rw [hk] at ho ⊢
  by_cases d : (P.getD n Pl.z).h < needT k ∨ argP p (argT k) (rdInstrS p.code n).f1 = false
  · rw [if_pos d] at ho; simp at ho
  rw [if_neg d] at ho ⊢
  obtain ⟨a, b, e⟩ := way_ok hL ho
  refine ⟨a, b, k, rfl, by omega, by omega, ?_, by omega, ?_⟩
  · cases hb : (P.getD n Pl.z).k with
    | true => rfl
    | false => exact absurd (.inl hb) c
  · rw [ways_kind (by omega) (by omega)]
    exact e
/-- What the heights of an accepted program say at one instruction. -/
def DownAt (p : Pg) (Q : List Pl) (i : Nat) : Prop := ∃ k : Nat, (rdInstrS p.code i).f0 = k ∧ 1 ≤ k ∧ k ≤ 33 ∧ needT k ≤ (Q.getD i Pl.z).h ∧ ∀ x ∈ waysL i k (rdInstrS p.code i).f1 (Q.getD i Pl.z).h, Got Q i x.f0 x.f1
theorem run_ok {p : Pg} : ∀ (k i : Nat) (P Q : List Pl), Low p.height P → runP p k i P = .inr Q → Stays P Q ∧ Low p.height Q ∧ ∀ j, i ≤ j → j < i + k → DownAt p Q j
  | 0, i, P, Q, hL, h => by
    unfold runP at h
    injection h with h
    subst h
    exact ⟨.refl _, hL, fun j h1 h2 => by omega⟩
  | k + 1, i, P, Q, hL, h => by
    unfold runP at h
    by_cases c : (stepP p P i).1 = true
    · rw [if_pos c] at h
      obtain ⟨s1, l1, m, h1, h2, h3, h4, h5, h6⟩ := step_ok hL c
      obtain ⟨s2, l2, g2⟩ := run_ok k (i + 1) _ Q l1 h
      have e : Q.getD i Pl.z = P.getD i Pl.z := (s1.trans s2).2 i h4
      refine ⟨s1.trans s2, l2, fun j hj1 hj2 => ?_⟩
      by_cases hij : j = i
      · subst hij
        refine ⟨m, h1, h2, h3, by rw [e]; exact h5, ?_⟩
        rw [e]
        exact fun x hx => (h6 x hx).stays s2
      · exact g2 j (by omega) (by omega)
    · rw [if_neg c] at h
      cases h
theorem few_run {p : Pg} (hm : p.height ≤ 4096) : ∀ (k i : Nat) (P Q : List Pl), Few P → runP p k i P = .inr Q → Few Q
  | 0, i, P, Q, hF, h => by
    unfold runP at h
    injection h with h
    subst h
    exact hF
  | k + 1, i, P, Q, hF, h => by
    unfold runP at h
    by_cases c : (stepP p P i).1 = true
    · rw [if_pos c] at h
      exact few_run hm k (i + 1) _ Q (hF.step hm) h
    · rw [if_neg c] at h
      cases h
theorem start_low {n : Nat} {m : Int} (hm : 0 ≤ m) : Low m (startP n) := by
  intro j
  unfold startP
  rw [getD_set]
  split
  · exact hm
  · rw [List.getD_eq_getElem?_getD, List.getElem?_replicate]
    split <;> simpa [Pl.z] using hm
theorem down_law {p : Pg} {Q : List Pl} (h : checkP p = .inr Q) : Bounds p ∧ Q.length = p.code.length ∧ (Q.getD 0 Pl.z).h = 0 ∧ (∀ j, 0 ≤ (Q.getD j Pl.z).h ∧ (Q.getD j Pl.z).h ≤ p.height) ∧ ∀ j, j < p.code.length → DownAt p Q j := by
  unfold checkP at h
  by_cases c : headB p = true
  · rw [if_pos c] at h
    have hb : Bounds p := by unfold headB at c; simp at c; exact c.1.1
    have hb' := hb
    unfold Bounds at hb'
    obtain ⟨s, l, g⟩ := run_ok _ _ _ _ (start_low (by omega)) h
    have f := few_run (by omega) _ _ _ _ (startP_few _) h
    refine ⟨hb, s.1.trans (startP_len _), ?_, fun j => ⟨(f.get j).1, l j⟩, fun j hj => g j (by omega) (by omega)⟩
    have e0 : (startP p.code.length).getD 0 Pl.z = ⟨0, 0, true⟩ := by
      unfold startP
      rw [getD_set, if_pos ⟨rfl, by rw [List.length_replicate]; omega⟩]
    rw [s.2 0 (by rw [e0]), e0]
  · rw [if_neg c] at h
    cases h
end Go.Proofs.YtdgljnidkhfgpaaDoor
