/-
  The reference's numbers of a sign and digits: Of, Fit, Held, Times, Over, and what its arithmetic on int64 comes to.
-/
import Derived.Test.YtbnmjfeacejngaaBigRef
namespace Go.Proofs.Ytbnmjfeacejngaa.Big
open Go.RowKit Go.Proofs.Ytbnmjfeacejngaa Go.Proofs.Ytbnmjfeacejngaa.XRef01 Go.Proofs.YtbnmjfeacejngaaW.PrintWords Go.Proofs.YtbnmjfeacejngaaW.PrintLast Go.Proofs.YtbnmjfeacejngaaW.PrintMore

theorem P4 : P 4 = 18446744073709551616 := by decide

theorem of_l0 (s : Bool) (U : Int) (n : Nat) : ∀ (k : Nat) (u : Int) (r : List Int), 0 ≤ u → u < P n → U < 18446744073709551616 → u ≤ U → r.length + n = 4 → Dig r → val r + P r.length * u = U → (u = 0 → Nrm r) → n + 1 ≤ k →
    ∃ d, capstanref01_Of.l0 k s u r = some (s, d) ∧ val d = U ∧ Dig d ∧ Nrm d ∧ d.length ≤ 4 := by
  induction n with
  | zero =>
    intro k u r h0 h1 hU hu hr hd hv hn hk
    obtain ⟨k, rfl⟩ : ∃ m, k = m + 1 := ⟨k - 1, by omega⟩
    have hz : u = 0 := by rw [P_zero] at h1; omega
    subst hz
    refine ⟨r, ?_, by rw [← hv]; simp, hd, hn rfl, by omega⟩
    simp only [capstanref01_Of.l0]
    rw [if_neg (by omega)]
  | succ n ih =>
    intro k u r h0 h1 hU hu hr hd hv hn hk
    obtain ⟨k, rfl⟩ : ∃ m, k = m + 1 := ⟨k - 1, by omega⟩
    by_cases hz : u > 0
    · simp only [capstanref01_Of.l0]
      rw [if_pos hz, if_pos (by omega), Int.tdiv_eq_ediv_of_nonneg h0, Int.tmod_eq_emod_of_nonneg h0, wu_in (x := u / 65536) (by omega) (by omega), w64s (x := u % 65536) (by omega) (by omega)]
      refine ih k (u / 65536) (r ++ [u % 65536]) (by omega) ?_ hU (by omega) (by simp; omega) (hd.snoc (by omega) (by omega)) ?_ ?_ (by omega)
      · rw [P_succ] at h1; omega
      · rw [val_snoc, List.length_append, List.length_singleton, P_succ, ← hv]
        have e : u = u % 65536 + 65536 * (u / 65536) := by omega
        have e2 : P r.length * u = P r.length * (u % 65536 + 65536 * (u / 65536)) := by rw [← e]
        rw [e2, Int.mul_add, Int.mul_assoc]
        omega
      · intro hq
        refine .inr ?_
        have : dg (r ++ [u % 65536]) ((r ++ [u % 65536]).length - 1) = u % 65536 := by
          unfold dg
          rw [List.length_append, List.length_singleton, Nat.add_sub_cancel, List.getD_eq_getElem?_getD, List.getElem?_append_right (Nat.le_refl _), Nat.sub_self]
          rfl
        rw [this]
        omega
    · have hz' : u = 0 := by omega
      subst hz'
      refine ⟨r, ?_, by rw [← hv]; simp, hd, hn rfl, by omega⟩
      simp only [capstanref01_Of.l0]
      rw [if_neg (by omega)]
/-- Of. -/
theorem of_f {v : Int} (h : R64 v) (k : Nat) (hk : 7 ≤ k) : ∃ s d, capstanref01_Of.f k v = some (s, d) ∧ s = decide (v < 0) ∧ sval s d = v ∧ Dig d ∧ Nrm d ∧ d.length ≤ 4 ∧ val d ≤ 9223372036854775808 := by
  obtain ⟨h0, h1⟩ := h
  obtain ⟨k, rfl⟩ : ∃ m, k = m + 1 := ⟨k - 1, by omega⟩
  unfold capstanref01_Of.f
  by_cases hn : v < 0
  · have e : IntKind.u64.wrap (-(IntKind.u64.wrap v)) = -v := by simp only [wu]; omega
    obtain ⟨d, d1, d2, d3, d4, d5⟩ := of_l0 (decide (v < 0)) (-v) 4 k (-v) [] (by omega) (by rw [P4]; omega) (by omega) (Int.le_refl _) rfl Dig.nil (by simp [val, P_zero]) (fun _ => .inl rfl) (by omega)
    refine ⟨decide (v < 0), d, ?_, rfl, ?_, d3, d4, d5, by omega⟩
    · rw [if_pos hn, e]
      simp only [capstanref01_Of.j0]
      exact d1
    · unfold sval
      rw [decide_eq_true hn, if_pos rfl, d2]
      omega
  · have e : IntKind.u64.wrap v = v := by simp only [wu]; omega
    obtain ⟨d, d1, d2, d3, d4, d5⟩ := of_l0 (decide (v < 0)) v 4 k v [] (by omega) (by rw [P4]; omega) (by omega) (Int.le_refl _) rfl Dig.nil (by simp [val, P_zero]) (fun _ => .inl rfl) (by omega)
    refine ⟨decide (v < 0), d, ?_, rfl, ?_, d3, d4, d5, by omega⟩
    · rw [if_neg hn, e]
      simp only [capstanref01_Of.j0]
      exact d1
    · unfold sval
      rw [decide_eq_false hn, if_neg (by decide), d2]

theorem and_most {u : Int} (h0 : 0 ≤ u) (h1 : u < 18446744073709551616) : Go.bits .and .u64 u 9223372036854775807 = u % 9223372036854775808 := by
  obtain ⟨u, rfl⟩ := Int.eq_ofNat_of_zero_le h0
  have h := bits_and_u64_nat u 9223372036854775807 (by omega) (by decide)
  have e : u &&& 9223372036854775807 = u % 9223372036854775808 := Nat.and_two_pow_sub_one_eq_mod u 63
  rw [e] at h
  refine h.trans ?_
  omega

theorem fit_l0 {s : Bool} {d : List Int} (hd : Dig d) (hl : d.length ≤ 4) (hpos : 0 < val d) : ∀ (n k : Nat), n ≤ d.length → n < k →
    ∃ v, capstanref01_Fit.l0 k (val (d.drop n)) ((n : Int) - 1) s d = some (v, inR (sval s d)) ∧ (inR (sval s d) = true → v = sval s d) ∧ R64 v := by
  have hV : val d < 18446744073709551616 := by
    have h1 := (val_range hd).2
    have h2 := P_mono hl
    rw [P4] at h2
    omega
  intro n
  induction n with
  | zero =>
    intro k hn hk
    obtain ⟨k, rfl⟩ : ∃ m, k = m + 1 := ⟨k - 1, by omega⟩
    simp only [capstanref01_Fit.l0]
    rw [if_neg (by omega), List.drop_zero]
    cases s with
    | true =>
      rw [if_pos rfl]
      have es : sval true d = -val d := rfl
      rw [es]
      by_cases hb : val d > 9223372036854775808
      · rw [if_pos hb]
        have hin : inR (-val d) = false := by unfold inR; rw [decide_eq_false_iff_not]; omega
        rw [hin]
        exact ⟨0, rfl, (fun h => by cases h), by decide⟩
      · rw [if_neg hb]
        have hin : inR (-val d) = true := by rw [inR_iff]; omega
        rw [hin, wu_in (x := val d - 1) (by omega) (by omega), w64s (x := val d - 1) (by omega) (by omega), w64s (x := -(val d - 1)) (by omega) (by omega), w64s (by omega) (by omega)]
        exact ⟨_, rfl, fun _ => by omega, by omega, by omega⟩
    | false =>
      rw [if_neg (by decide), and_most (by omega) hV]
      have es : sval false d = val d := rfl
      rw [es]
      have hin : inR (val d) = decide (val d ≤ 9223372036854775807) := by unfold inR; rw [decide_eq_decide]; omega
      rw [hin, w64s (by omega) (by omega)]
      refine ⟨_, rfl, fun h => ?_, by omega, by omega⟩
      rw [decide_eq_true_eq] at h
      omega
  | succ n ih =>
    intro k hn hk
    obtain ⟨k, rfl⟩ : ∃ m, k = m + 1 := ⟨k - 1, by omega⟩
    have e : ((n + 1 : Nat) : Int) - 1 = (n : Int) := by omega
    have hdr : val (d.drop n) = dg d n + 65536 * val (d.drop (n + 1)) := val_drop d n
    have hdd : Dig (d.drop n) := fun x hx => hd x (List.mem_of_mem_drop hx)
    have hdd1 : Dig (d.drop (n + 1)) := fun x hx => hd x (List.mem_of_mem_drop hx)
    obtain ⟨r0, r1⟩ := val_range hdd
    obtain ⟨q0, q1⟩ := val_range hdd1
    have hb : val (d.drop n) < 18446744073709551616 := by
      have h2 := P_mono (show (d.drop n).length ≤ 4 by rw [List.length_drop]; omega)
      rw [P4] at h2
      omega
    obtain ⟨x0, x1⟩ := hd.dg n
    simp only [capstanref01_Fit.l0]
    rw [e, if_pos (by omega), if_pos (by omega), if_pos (by omega), rd_dg, wu_in (x := val (d.drop (n + 1)) * 65536) (by omega) (by omega), wu_in (x := dg d n) (by omega) (by omega), wu_in (by omega) (by omega), w64s (x := (n : Int) - 1) (by omega) (by omega)]
    have e2 : val (d.drop (n + 1)) * 65536 + dg d n = val (d.drop n) := by omega
    rw [e2]
    exact ih k (by omega) (by omega)
/-- Fit. -/
theorem fit_f {s : Bool} {d : List Int} (hd : Dig d) (hn : Nrm d) (hl : d.length < 17592186044416) (k : Nat) (hk : 6 ≤ k) :
    ∃ v, capstanref01_Fit.f k s d = some (v, inR (sval s d)) ∧ (inR (sval s d) = true → v = sval s d) ∧ R64 v := by
  unfold capstanref01_Fit.f
  by_cases h0 : d.length = 0
  · have : d = [] := List.length_eq_zero_iff.1 h0
    subst this
    have e : sval s [] = 0 := by cases s <;> rfl
    rw [if_pos (show (([] : List Int).length : Int) = 0 from rfl), e]
    exact ⟨0, rfl, fun _ => rfl, by decide⟩
  · rw [if_neg (by omega)]
    have hge := nrm_ge hd hn (by omega)
    have hp := P_pos (d.length - 1)
    by_cases h4 : d.length > 4
    · rw [if_pos (by omega)]
      have h2 := P_mono (show 4 ≤ d.length - 1 by omega)
      rw [P4] at h2
      have hin : inR (sval s d) = false := by
        unfold inR sval
        rw [decide_eq_false_iff_not]
        split <;> omega
      rw [hin]
      exact ⟨0, rfl, (fun h => by cases h), by decide⟩
    · rw [if_neg (by omega), w64s (by omega) (by omega)]
      have := fit_l0 (s := s) hd (by omega) (by omega) d.length k (Nat.le_refl _) (by omega)
      rw [List.drop_length] at this
      exact this
/-- Held. -/
theorem held_f {s : Bool} {d : List Int} (hd : Dig d) (hn : Nrm d) (hl : d.length < 17592186044416) (k : Nat) (hk : 6 ≤ k) : capstanref01_Held.f k s d = some (heldI (sval s d)) := by
  obtain ⟨v, h1, h2, _⟩ := fit_f (s := s) hd hn hl k hk
  unfold capstanref01_Held.f
  rw [h1]
  simp only [Option.bind_some]
  cases hr : inR (sval s d) with
  | true => rw [if_pos rfl, heldI_in hr, h2 hr]
  | false =>
    have hno : ¬ (-9223372036854775808 ≤ sval s d ∧ sval s d < 9223372036854775808) := by rw [← inR_iff, hr]; decide
    have hv := (val_range hd).1
    rw [if_neg (by decide)]
    unfold heldI
    cases s with
    | true =>
      have es : sval true d = -val d := rfl
      rw [es] at hno ⊢
      rw [if_pos rfl, if_pos (by omega)]
    | false =>
      have es : sval false d = val d := rfl
      rw [es] at hno ⊢
      rw [if_neg (by decide), if_neg (by omega), if_pos (by omega)]

theorem minus_f (s : Bool) (d : List Int) : capstanref01_Minus.f s d = some (!s, d) := rfl
theorem sval_not (s : Bool) (d : List Int) : sval (!s) d = -sval s d := by cases s <;> simp [sval]

theorem add_ref {a b : Int} (ha : R64 a) (hb : R64 b) : capstanref01_Add.f 40 a b = some (heldI (a + b)) := by
  obtain ⟨s, d, d1, _, d2, d3, d4, d5, _⟩ := of_f ha 40 (by decide)
  obtain ⟨t, e, e1, _, e2, e3, e4, e5, _⟩ := of_f hb 40 (by decide)
  obtain ⟨u, f, f1, f2, f3, f4, f5⟩ := plus_f (s := s) (t := t) d3 e3 d4 e4 (by omega) (by omega) 40 (by omega)
  unfold capstanref01_Add.f
  rw [d1]; simp only [Option.bind_some]
  rw [e1]; simp only [Option.bind_some]
  rw [f1]; simp only [Option.bind_some]
  rw [held_f f3 f4 (by omega) 40 (by decide), f2, d2, e2]; rfl
theorem sub_ref {a b : Int} (ha : R64 a) (hb : R64 b) : capstanref01_Sub.f 40 a b = some (heldI (a + -b)) := by
  obtain ⟨s, d, d1, _, d2, d3, d4, d5, _⟩ := of_f ha 40 (by decide)
  obtain ⟨t, e, e1, _, e2, e3, e4, e5, _⟩ := of_f hb 40 (by decide)
  obtain ⟨u, f, f1, f2, f3, f4, f5⟩ := plus_f (s := s) (t := !t) d3 e3 d4 e4 (by omega) (by omega) 40 (by omega)
  unfold capstanref01_Sub.f
  rw [d1]; simp only [Option.bind_some]
  rw [e1]; simp only [Option.bind_some]
  rw [minus_f]; simp only [Option.bind_some]
  rw [f1]; simp only [Option.bind_some]
  rw [held_f f3 f4 (by omega) 40 (by decide), f2, d2, sval_not, e2]; rfl
theorem neg_ref {a : Int} (ha : R64 a) : capstanref01_Neg.f 40 a = some (heldI (-a)) := by
  obtain ⟨s, d, d1, _, d2, d3, d4, d5, _⟩ := of_f ha 40 (by decide)
  unfold capstanref01_Neg.f
  rw [d1]; simp only [Option.bind_some]
  rw [minus_f]; simp only [Option.bind_some]
  rw [held_f d3 d4 (by omega) 40 (by decide), sval_not, d2]; rfl
theorem abs_ref {a : Int} (ha : R64 a) : capstanref01_Abs.f 40 a = some (heldI (if a < 0 then -a else a)) := by
  obtain ⟨s, d, d1, ds, d2, d3, d4, d5, _⟩ := of_f ha 40 (by decide)
  unfold capstanref01_Abs.f
  rw [d1]; simp only [Option.bind_some]
  rw [held_f d3 d4 (by omega) 40 (by decide)]
  have e : sval false d = if a < 0 then -a else a := by
    have e1 : sval false d = val d := rfl
    rw [e1]
    subst ds
    unfold sval at d2
    by_cases h : a < 0
    · rw [decide_eq_true h, if_pos rfl] at d2
      rw [if_pos h]; omega
    · rw [decide_eq_false h, if_neg (by decide)] at d2
      rw [if_neg h]; omega
  rw [e]; rfl
end Go.Proofs.Ytbnmjfeacejngaa.Big
