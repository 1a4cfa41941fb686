/-
  The verifier's step: what it answers, and the places behind it.
-/
import Derived.Test.YtdgljnidkhfgpaaDoorVerStep1
import Derived.Test.YtdgljnidkhfgpaaDoorVerStep2
import Derived.Test.YtdgljnidkhfgpaaDoorVerStep3
import Derived.Test.YtdgljnidkhfgpaaDoorVerStep4
import Derived.Test.YtdgljnidkhfgpaaDoorVerStep5
namespace Go.Proofs.YtdgljnidkhfgpaaDoor
set_option linter.unusedVariables false
set_option linter.unusedSimpArgs false
open Go.RowKit Go.Proofs.YtdgljnidkhfgpaaDoorW.PrintWords Go.Proofs.YtdgljnidkhfgpaaDoorW.PrintLast Go.Proofs.YtdgljnidkhfgpaaDoorW.PrintMore
section
variable {w0 w : World} {g ga : Nat} {p : Pg} {d : Hd} {P : List Pl}
theorem jump_hand {n tg h t : Int} {b : Bool} {Q : List Pl} (hl : P.length ≤ 16384) (hb : (jumpP p.height P n tg h t).1 = b) (hQ : (jumpP p.height P n tg h t).2 = Q) (w9 : World) (i : ChkAt w0 w9 g ga p d P) : Calls Tryd.prog 48 #[.pointer (some ⟨g, 0, none⟩), .int .i64 n, .int .i64 tg, .agg #[.int .i64 h, .int .i64 t]] w9 fun e w' =>
    e = .returned (.bool b) ∧ ChkAt w0 w' g ga p d Q ∧ Kept w9 w' (fun k => k = ga) := by
  subst hb hQ
  exact jump_calls i hl
theorem lead_hand {tg h t : Int} {b : Bool} {Q : List Pl} (hl : P.length ≤ 16384) (hb : (leadP p.height P tg h t).1 = b) (hQ : (leadP p.height P tg h t).2 = Q) (w9 : World) (i : ChkAt w0 w9 g ga p d P) : Calls Tryd.prog 49 #[.pointer (some ⟨g, 0, none⟩), .int .i64 tg, .agg #[.int .i64 h, .int .i64 t]] w9 fun e w' =>
    e = .returned (.bool b) ∧ ChkAt w0 w' g ga p d Q ∧ Kept w9 w' (fun k => k = ga) := by
  subst hb hQ
  exact lead_calls i hl
theorem step_calls {n : Nat} (i : ChkAt w0 w g ga p d P) (hn : n < P.length) (hnp : P.length = p.code.length) (hl : P.length ≤ 16384) (ht : TabAt w) (hcl : p.consts.length ≤ 16384) (hP : Few P) (hA : ∀ x ∈ p.code, -9223372036854775808 ≤ x.f1 ∧ x.f1 ≤ 9223372036854775807) :
    Calls Tryd.prog 31 #[.pointer (some ⟨g, 0, none⟩), .int .i64 (n : Int)] w fun e w' => e = .returned (.bool (stepP p P n).1) ∧ ChkAt w0 w' g ga p d (stepP p P n).2 := by
  obtain ⟨xo, hxo⟩ : ∃ x, (rdInstrS p.code (n : Int)).f0 = x := ⟨_, rfl⟩
  obtain ⟨xa, hxa⟩ : ∃ x, (rdInstrS p.code (n : Int)).f1 = x := ⟨_, rfl⟩
  have hx : -9223372036854775808 ≤ xa ∧ xa ≤ 9223372036854775807 := by
    have hc : n < p.code.length := by omega
    have e : rdInstrS p.code (n : Int) = p.code[n] := by
      unfold rdInstrS
      rw [Int.toNat_natCast, List.getD_eq_getElem?_getD, List.getElem?_eq_getElem hc]
      rfl
    rw [← hxa, e]
    exact hA _ (List.getElem_mem hc)
  have hF := hP.get n
  obtain ⟨s, hs⟩ : ∃ s, P.getD n Pl.z = s := ⟨_, rfl⟩
  unfold stepP
  simp only [hxo, hxa, hs]
  rw [hs] at hF
  obtain ⟨sh, st, sk⟩ := s
  simp only at hF ⊢
  cases sk with
  | false =>
    rw [if_pos (.inl rfl)]
    refine (step_unknown i hn hnp hl hxo hxa hs).mono ?_
    rintro e w' ⟨rfl, hb⟩
    exact ⟨rfl, i.below hb⟩
  | true =>
  by_cases h1 : xo < 1
  · rw [if_pos (.inr (.inl h1))]
    refine (step_small i hn hnp hl hxo hxa hs h1).mono ?_
    rintro e w' ⟨rfl, hb⟩
    exact ⟨rfl, i.below hb⟩
  by_cases h2 : 33 < xo
  · rw [if_pos (.inr (.inr h2))]
    refine (step_great i hn hnp hl hxo hxa hs h2).mono ?_
    rintro e w' ⟨rfl, hb⟩
    exact ⟨rfl, i.below hb⟩
  rw [if_neg (by simp; omega)]
  obtain ⟨k, rfl⟩ := Int.eq_ofNat_of_zero_le (show 0 ≤ xo by omega)
  have hk1 : 1 ≤ k := by omega
  have hk2 : k ≤ 33 := by omega
  by_cases hlow : sh < needT k
  · rw [if_pos (.inl hlow)]
    refine (step_low i hn hnp hl hxo hxa hs hk1 hk2 ht hlow).mono ?_
    rintro e w' ⟨rfl, hb⟩
    exact ⟨rfl, i.below hb⟩
  cases harg : argP p (argT k) xa with
  | false =>
    rw [if_pos (.inr rfl)]
    refine (step_arg i hn hnp hl hxo hxa hs hk1 hk2 ht hlow hcl harg).mono ?_
    rintro e w' ⟨rfl, hb⟩
    exact ⟨rfl, i.below hb⟩
  | true =>
  rw [if_neg (by simp; omega)]
  obtain ⟨nd, hnd⟩ : ∃ x, needT (k : Int) = x := ⟨_, rfl⟩
  obtain ⟨gr, hgr⟩ : ∃ x, growT (k : Int) = x := ⟨_, rfl⟩
  obtain ⟨kd, hkd⟩ : ∃ x, argT (k : Int) = x := ⟨_, rfl⟩
  obtain ⟨hg, hhg⟩ : ∃ x, sh + gr = x := ⟨_, rfl⟩
  obtain ⟨n1, hn1⟩ : ∃ x, (n : Int) + 1 = x := ⟨_, rfl⟩
  rw [hkd] at harg
  rw [hnd] at hlow
  rw [hnd, hgr, hkd]
  unfold wayP
  rw [hhg, hn1]
  have jl : ∀ (n tg h t : Int), (jumpP p.height P n tg h t).2.length ≤ 16384 := fun _ _ _ _ => by rw [jumpP_len]; exact hl
  by_cases k6 : kd = 6
  · subst k6
    rw [if_pos rfl]
    exact step_k6 i hn hnp hl hxo hxa hs hk1 hk2 ht hlow hcl harg hF hnd hgr hkd hhg hn1 (R := []) (jump_hand hl rfl rfl)
  rw [if_neg k6]
  by_cases k7 : kd = 7
  · subst k7
    rw [if_pos rfl]
    unfold leadsP
    by_cases hb : (jumpP p.height P n xa hg st).1 = true
    · rw [if_pos hb]
      exact step_k7y i hn hnp hl hxo hxa hs hk1 hk2 ht hlow hcl harg hF hnd hgr hkd hhg hn1 (jump_hand hl hb rfl) (lead_hand (jl _ _ _ _) rfl rfl)
    · rw [if_neg hb]
      exact step_k7n i hn hnp hl hxo hxa hs hk1 hk2 ht hlow hcl harg hF hnd hgr hkd hhg hn1 (R := []) (lb := false) (jump_hand hl (by simpa using hb) rfl)
  rw [if_neg k7]
  by_cases k8 : kd = 8
  · subst k8
    rw [if_pos rfl]
    by_cases hst : st < 4096
    · rw [if_pos hst]
      unfold leadsP
      by_cases hb : (jumpP p.height P n xa sh st).1 = true
      · rw [if_pos hb]
        exact step_k8y i hn hnp hl hxo hxa hs hk1 hk2 ht hlow hcl harg hF hnd hgr hkd hhg hn1 hst rfl (jump_hand hl hb rfl) (lead_hand (jl _ _ _ _) rfl rfl)
      · rw [if_neg hb]
        exact step_k8n i hn hnp hl hxo hxa hs hk1 hk2 ht hlow hcl harg hF hnd hgr hkd hhg hn1 (R := []) (lb := false) hst (jump_hand hl (by simpa using hb) rfl)
    · rw [if_neg hst]
      exact step_k8x i hn hnp hl hxo hxa hs hk1 hk2 ht hlow hcl harg hF hnd hgr hkd hhg hn1 (Q := []) (R := []) (lb := false) hst
  rw [if_neg k8]
  by_cases k9 : kd = 9
  · subst k9
    rw [if_pos rfl]
    by_cases hst : 0 < st
    · rw [if_pos hst]
      exact step_k9y i hn hnp hl hxo hxa hs hk1 hk2 ht hlow hcl harg hF hnd hgr hkd hhg hn1 (R := []) hst rfl (jump_hand hl rfl rfl)
    · rw [if_neg hst]
      exact step_k9x i hn hnp hl hxo hxa hs hk1 hk2 ht hlow hcl harg hF hnd hgr hkd hhg hn1 (Q := []) (R := []) (lb := false) hst
  rw [if_neg k9]
  by_cases k10 : kd = 10
  · subst k10
    rw [if_pos rfl]
    by_cases hst : 0 ≤ xa
    · by_cases hq : xa.tdiv 16384 < p.locals
      · rw [if_pos ⟨hst, hq⟩]
        unfold leadsP
        by_cases hb : (jumpP p.height P n (xa.tmod 16384) (sh + 1) st).1 = true
        · rw [if_pos hb]
          exact step_k10y i hn hnp hl hxo hxa hs hk1 hk2 ht hlow hcl harg hF hnd hgr hkd hhg hn1 rfl rfl rfl hx hst hq (jump_hand hl hb rfl) (lead_hand (jl _ _ _ _) rfl rfl)
        · rw [if_neg hb]
          exact step_k10n i hn hnp hl hxo hxa hs hk1 hk2 ht hlow hcl harg hF hnd hgr hkd hhg hn1 (R := []) (lb := false) rfl rfl rfl hx hst hq (jump_hand hl (by simpa using hb) rfl)
      · rw [if_neg (fun h => hq h.2)]
        exact step_k10b i hn hnp hl hxo hxa hs hk1 hk2 ht hlow hcl harg hF hnd hgr hkd hhg hn1 (Q := []) (R := []) (lb := false) rfl rfl rfl hx hst hq
    · rw [if_neg (fun h => hst h.1)]
      exact step_k10a i hn hnp hl hxo hxa hs hk1 hk2 ht hlow hcl harg hF hnd hgr hkd hhg hn1 (Q := []) (R := []) (lb := false) rfl rfl rfl hx hst
  rw [if_neg k10]
  by_cases k12 : kd = 12
  · subst k12
    rw [if_pos rfl]
    cases hsn : (sh == nd) with
    | true =>
      rw [Bool.true_and]
      exact step_k12y i hn hnp hl hxo hxa hs hk1 hk2 ht hlow hcl harg hF hnd hgr hkd hhg hn1 (Q := []) (R := []) hsn rfl
    | false =>
      rw [Bool.false_and]
      exact step_k12n i hn hnp hl hxo hxa hs hk1 hk2 ht hlow hcl harg hF hnd hgr hkd hhg hn1 (Q := []) (R := []) (lb := false) hsn
  rw [if_neg k12]
  exact step_kx i hn hnp hl hxo hxa hs hk1 hk2 ht hlow hcl harg hF hnd hgr hkd hhg hn1 (R := []) ⟨k6, k7, k8, k9, k10, k12⟩ (lead_hand hl rfl rfl)
end
end Go.Proofs.YtdgljnidkhfgpaaDoor
