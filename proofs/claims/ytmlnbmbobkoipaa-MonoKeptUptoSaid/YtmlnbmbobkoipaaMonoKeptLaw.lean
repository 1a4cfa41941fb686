/-
  MonoKept: the law's call answers true, for every list of numbers up to the bound; nothing that was there is changed.
-/
import Derived.Test.YtmlnbmbobkoipaaMonoKeepsLaw
import Derived.Test.YtmlnbmbobkoipaaMonoKeptPure
namespace Go.Proofs.Ytmlnbmbobkoipaa
open Go.RowKit Go.Proofs.Ytmlnbmbobkoipaa.XMono Go.Proofs.YtmlnbmbobkoipaaW.PrintWords Go.Proofs.YtmlnbmbobkoipaaW.PrintLast Go.Proofs.YtmlnbmbobkoipaaW.PrintMore

/-- Two queues, neither in the other's memory, nor in what was there at the call. -/
structure KInv (W : World) (gl gh : Nat) (Ll Lh : List Int) (left1 left2 : Int) (w : World) : Prop where
  big1 : W.heap.size ≤ gl
  big2 : W.heap.size ≤ gh
  ne : gl ≠ gh
  bel : Below W.heap.size W w
  ex : ∃ o1 o2 : Nat → Prop, MonoIs w gl o1 false Ll left1 ∧ MonoIs w gh o2 true Lh left2 ∧ (∀ k, o1 k → W.heap.size ≤ k ∧ k ≠ gh ∧ ¬ o2 k) ∧ (∀ k, o2 k → W.heap.size ≤ k ∧ k ≠ gl)
section
variable {W w w' : World} {gl gh : Nat} {Ll Lh L2 : List Int} {left1 left2 left3 : Int} {o1 o2 : Nat → Prop}
theorem KInv.below (h : KInv W gl gh Ll Lh left1 left2 w) (hb : Below w.heap.size w w') : KInv W gl gh Ll Lh left1 left2 w' := by
  obtain ⟨h1, h2, hn, h3, o1, o2, h4, h5, h6, h7⟩ := h
  exact ⟨h1, h2, hn, h3.trans (hb.mono h3.size), o1, o2, h4.below hb, h5.below hb, h6, h7⟩
theorem KInv.put1 (h : KInv W gl gh Ll Lh left1 left2 w) (m1 : MonoIs w gl o1 false Ll left1) (m2 : MonoIs w gh o2 true Lh left2) (h6 : ∀ k, o1 k → W.heap.size ≤ k ∧ k ≠ gh ∧ ¬ o2 k) (h7 : ∀ k, o2 k → W.heap.size ≤ k ∧ k ≠ gl)
    (b : Below 0 w w') (k : Kept w w' (fun k => k = gl ∨ o1 k)) (m : MonoIs w' gl (fun k => o1 k ∨ w.heap.size ≤ k) false L2 left3) : KInv W gl gh L2 Lh left3 left2 w' := by
  have hlt := m2.at_.lt
  have hz := h.bel.size
  refine ⟨h.big1, h.big2, h.ne, below_of_kept h.bel b k ?_, _, _, m, (m2.tight.kept k ?_ ?_), ?_, ?_⟩
  · rintro k hk (rfl | hs)
    · have := h.big1; omega
    · have := (h6 k hs).1; omega
  · rintro (hs | hs)
    · exact h.ne hs.symm
    · exact (h6 _ hs).2.1 rfl
  · rintro k ⟨hk, _⟩ (rfl | hs)
    · exact (h7 _ hk).2 rfl
    · exact (h6 k hs).2.2 hk
  · rintro k (hs | hs)
    · exact ⟨(h6 k hs).1, (h6 k hs).2.1, fun hh => (h6 k hs).2.2 hh.1⟩
    · exact ⟨by omega, by omega, fun hh => by omega⟩
  · rintro k ⟨hk, _⟩
    exact h7 k hk
theorem KInv.put2 (h : KInv W gl gh Ll Lh left1 left2 w) (m1 : MonoIs w gl o1 false Ll left1) (m2 : MonoIs w gh o2 true Lh left2) (h6 : ∀ k, o1 k → W.heap.size ≤ k ∧ k ≠ gh ∧ ¬ o2 k) (h7 : ∀ k, o2 k → W.heap.size ≤ k ∧ k ≠ gl)
    (b : Below 0 w w') (k : Kept w w' (fun k => k = gh ∨ o2 k)) (m : MonoIs w' gh (fun k => o2 k ∨ w.heap.size ≤ k) true L2 left3) : KInv W gl gh Ll L2 left1 left3 w' := by
  have hlt := m1.at_.lt
  have hz := h.bel.size
  refine ⟨h.big1, h.big2, h.ne, below_of_kept h.bel b k ?_, _, _, (m1.tight.kept k ?_ ?_), m, ?_, ?_⟩
  · rintro k hk (rfl | hs)
    · have := h.big2; omega
    · have := (h7 k hs).1; omega
  · rintro (hs | hs)
    · exact h.ne hs
    · exact (h7 _ hs).2 rfl
  · rintro k ⟨hk, _⟩ (rfl | hs)
    · exact (h6 _ hk).2.1 rfl
    · exact (h6 k hk).2.2 hs
  · rintro k ⟨hk, hl⟩
    refine ⟨(h6 k hk).1, (h6 k hk).2.1, ?_⟩
    rintro (hs | hs)
    · exact (h6 k hk).2.2 hs
    · omega
  · rintro k (hs | hs)
    · exact h7 k hs
    · exact ⟨by omega, by omega⟩
theorem KInv.take1 (h : KInv W gl gh Ll Lh left1 left2 w) (m1 : MonoIs w gl o1 false Ll left1) (m2 : MonoIs w gh o2 true Lh left2) (h6 : ∀ k, o1 k → W.heap.size ≤ k ∧ k ≠ gh ∧ ¬ o2 k) (h7 : ∀ k, o2 k → W.heap.size ≤ k ∧ k ≠ gl)
    (b : Below 0 w w') (k : Kept w w' (fun k => k = gl)) (m : MonoIs w' gl o1 false L2 left3) : KInv W gl gh L2 Lh left3 left2 w' :=
  ⟨h.big1, h.big2, h.ne, below_of_kept h.bel b k (fun k hk e => by have := h.big1; omega), o1, o2, m, m2.kept k (fun e => h.ne e.symm) (fun k hk e => (h7 k hk).2 e), h6, h7⟩
theorem KInv.take2 (h : KInv W gl gh Ll Lh left1 left2 w) (m1 : MonoIs w gl o1 false Ll left1) (m2 : MonoIs w gh o2 true Lh left2) (h6 : ∀ k, o1 k → W.heap.size ≤ k ∧ k ≠ gh ∧ ¬ o2 k) (h7 : ∀ k, o2 k → W.heap.size ≤ k ∧ k ≠ gl)
    (b : Below 0 w w') (k : Kept w w' (fun k => k = gh)) (m : MonoIs w' gh o2 true L2 left3) : KInv W gl gh Ll L2 left1 left3 w' :=
  ⟨h.big1, h.big2, h.ne, below_of_kept h.bel b k (fun k hk e => by have := h.big2; omega), o1, o2, m1.kept k (fun e => h.ne e) (fun k hk e => (h6 k hk).2.1 e), m, h6, h7⟩
end

theorem kept_round (xa : List Int) (j : Nat) (h : -4611686018427387904 ≤ rd xa (j : Int) ∧ rd xa (j : Int) ≤ 4611686018427387904) (hj : j ≤ 4611686018427387904) :
    wrap64 (rd xa (j : Int)) = rd xa (j : Int) ∧ wrap64 (-(rd xa (j : Int))) = -(rd xa (j : Int)) ∧ wrap64 ((j : Int) + 1) = ((j + 1 : Nat) : Int) ∧ IntKind.i64.wrap (-(rd xa (j : Int))) = -(rd xa (j : Int)) := by
  rw [i64_w]
  generalize rd xa (j : Int) = x at *
  unfold wrap64
  omega
theorem kept_rise (xa : List Int) (j m : Nat) (e : j = m + 1) (hjn : j < xa.length) (h : ∀ k, k + 1 < xa.length → xa.getD k 0 < xa.getD (k + 1) 0) (hm : j ≤ 4611686018427387904) :
    decide ((rd xa (j : Int)) ≤ rd xa (m : Int)) = false ∧ wrap64 ((j : Int) - 1) = (m : Int) ∧ IntKind.i64.wrap ((j : Int) - 1) = (m : Int) := by
  subst e
  have := h m hjn
  rw [rd_nat, rd_nat, i64_w]
  exact ⟨decide_eq_false (by omega), by unfold wrap64; omega, by unfold wrap64; omega⟩

theorem kept_end (xa : List Int) (n : Nat) (v : Int) (F : List Int) (e : xa.length = n + 1) (hb : bestV false F = xa.headD 0) (hl : xa.getD (xa.length - 1) 0 = v) (hm : xa.length ≤ 4611686018427387904) :
    wrap64 ((xa.length : Int) - 1) = (n : Int) ∧ IntKind.i64.wrap ((xa.length : Int) - 1) = (n : Int) ∧ (rd xa (n : Int) == v) = true ∧ (rd xa 0 == bestV false F) = true ∧ ((rd xa (n : Int) != v) = false ∧ (rd xa 0 != bestV false F) = false) := by
  have h1 : rd xa (n : Int) = v := by rw [rd_nat, ← hl, e]; rfl
  have h2 : rd xa 0 = bestV false F := by
    rw [hb]
    cases xa with
    | nil => simp at e
    | cons a b => rfl
  rw [h1, h2, i64_w]
  exact ⟨by unfold wrap64; omega, by unfold wrap64; omega, by simp, by simp, by simp, by simp⟩

set_option maxHeartbeats 8000000 in
set_option maxRecDepth 100000 in
theorem MonoKept_c (A : Option Addr) (c : Nat) (L : List Int) (off : Int) (W : World) (hc : Kd.C (Kd.int .i64) W A L.length L) (hlc : L.length ≤ c) (hs : L.length ≤ 1048576) (hr : ∀ x ∈ L, -9223372036854775808 ≤ x ∧ x ≤ 9223372036854775807) (ho : -9223372036854775808 ≤ off ∧ off ≤ 9223372036854775807) :
    Calls Try.prog 5 #[.slice A L.length c, .int .i64 off] W fun e w' => e = .returned (.bool true) ∧ Below W.heap.size W w' := by
  have HC := Lib.hid hc
  have HS := Lib.hid hs
  have HR := Lib.hid hr
  have HO := Lib.hid ho
  clear hc hlc hs hr ho
  go_enter Try.func5, Try.ntmps5
  go_wp2_with fail
  refine (awake06 _).mono ?_
  rintro e w1 ⟨rfl, b1⟩
  go_wp2_with fail
  refine (is_new false _).mono ?_
  rintro e w2 ⟨gl, rfl, hg2, h2, b2⟩
  go_wp2_with fail
  refine (is_new true _).mono ?_
  rintro e w3 ⟨gh, rfl, hg3, h3, b3⟩
  have hgl := h2.at_.lt
  have z1 := b1.size
  have z2 := b2.size
  have b12 := b1.trans (b2.mono b1.size)
  have HI := Lib.hid (show KInv W gl gh [] [] 0 0 w3 from ⟨by omega, by omega, by omega, b12.trans (b3.mono b12.size), fun _ => False, fun _ => False, h2.below b3, h3, fun _ hk => hk.elim, fun _ hk => hk.elim⟩)
  clear h2 h3 hg2 hg3 b1 b2 b3 hgl z1 z2 b12
  go_wp2
  go_loopg [7] L.length (fun kq v7 w' => ∃ (i : Nat) (Q : List Int) (left : Int), v7 = .int .i64 i ∧ Aside0 (i + kq = L.length) ∧ Aside0 (left + Q.length ≤ i ∧ Q.length ≤ i ∧ ∀ y ∈ Q, -4611686018427387904 ≤ y ∧ y ≤ 4611686018427387904) ∧ Aside0 (KInv W gl gh Q (Q.map fun x => -x) left left w'))
  case atStart => exact ⟨0, [], 0, rfl, ⟨by omega⟩, ⟨by simp⟩, ⟨HI.out⟩⟩
  case round =>
    clear HI
    obtain ⟨i, Q, left, rfl, hk, hx, hI⟩ := hrel
    by_cases hi : i < L.length
    · have c0 : decide (i < L.length) = true := decide_eq_true hi
      have Hi := Lib.hid hi
      obtain ⟨ad, rfl, q0⟩ := Kd.at_int HC.out (i : Int) (by omega) (by omega)
      rw [Int.toNat_natCast] at q0
      have r0 := (hI.out.bel.cell (World.block_lt_of_cell? W _ q0)).trans q0
      clear q0 hi
      have e1 := eq_true (show (0 : Int) ≤ (i : Int) by omega)
      have e2 : ((i : Int) < (L.length : Int)) = True := eq_true (by have := Hi.out; omega)
      have e3 := eq_true Hi.out
      have hwr : wrap64 ((i : Int) + 1) = ((i + 1 : Nat) : Int) := by have := Hi.out; have := HS.out; unfold wrap64; omega
      have hxr : -9223372036854775808 ≤ rd L (i : Int) ∧ rd L (i : Int) ≤ 9223372036854775807 := by
        rw [rd_nat, List.getD_eq_getElem?_getD, List.getElem?_eq_getElem Hi.out]
        exact HR.out _ (List.getElem_mem Hi.out)
      obtain ⟨v, hv⟩ : ∃ v, Int.tdiv (rd L (i : Int)) 2 = v := ⟨_, rfl⟩
      have hvr : -4611686018427387904 ≤ v ∧ v ≤ 4611686018427387904 := by
        rw [← hv]
        rcases Int.le_total 0 (rd L (i : Int)) with h | h
        · rw [Int.tdiv_eq_ediv_of_nonneg h]; omega
        · have e : Int.tdiv (rd L (i : Int)) 2 = -(Int.tdiv (-(rd L (i : Int))) 2) := by rw [Int.neg_tdiv, Int.neg_neg]
          rw [e, Int.tdiv_eq_ediv_of_nonneg (by omega)]; omega
      have hv1 : wrap64 v = v := by unfold wrap64; omega
      have hv2 : wrap64 (-v) = -v := by unfold wrap64; omega
      have HVR := Lib.hid hvr
      clear hxr hvr
      obtain ⟨o1, o2, m1, m2, m3, m4⟩ := hI.out.ex
      have M1 := Lib.hid m1
      have M2 := Lib.hid m2
      have M3 := Lib.hid m3
      have M4 := Lib.hid m4
      clear m1 m2 m3 m4
      go_wp2_with fail
      refine (is_put v M1.out (by have := hx.out.1; have := hx.out.2.1; have := Hi.out; have := HS.out; omega) (by have := hx.out.1; have := hx.out.2.1; have := Hi.out; have := HS.out; omega)).mono ?_
      rintro e w4 ⟨rfl, b4, k4, h4⟩
      have P4 := KInv.put1 hI.out M1.out M2.out M3.out M4.out b4 k4 h4
      clear b4 k4 h4 M1 M2 M3 M4 r0
      obtain ⟨o1, o2, m1, m2, m3, m4⟩ := P4.ex
      have M1 := Lib.hid m1
      have M2 := Lib.hid m2
      have M3 := Lib.hid m3
      have M4 := Lib.hid m4
      have HP4 := Lib.hid P4
      clear m1 m2 m3 m4 P4
      go_wp2_with fail
      refine (is_put (-v) M2.out (by rw [List.length_map]; have := hx.out.1; have := hx.out.2.1; have := Hi.out; have := HS.out; omega) (by rw [List.length_map]; have := hx.out.1; have := hx.out.2.1; have := Hi.out; have := HS.out; omega)).mono ?_
      rintro e w5 ⟨rfl, b5, k5, h5⟩
      have P5 := KInv.put2 HP4.out M1.out M2.out M3.out M4.out b5 k5 h5
      have em : (Q.map fun x => -x) ++ [-v] = (Q ++ [v]).map fun x => -x := by simp
      rw [em] at P5
      clear b5 k5 h5 M1 M2 M3 M4 HP4 em
      obtain ⟨x, T, hT⟩ : ∃ x T, Q ++ [v] = x :: T := by
        cases hq : Q ++ [v] with
        | nil => simp at hq
        | cons x T => exact ⟨x, T, rfl⟩
      have hTl : ∃ M, x :: T = M ++ [v] := ⟨Q, hT.symm⟩
      have hTt : T = [] ∨ ∃ M, T = M ++ [v] := by
        cases Q with
        | nil => simp at hT; exact .inl (by first | exact hT.2 | exact hT.2.symm)
        | cons y Q => simp at hT; exact .inr ⟨Q, by first | exact hT.2 | exact hT.2.symm⟩
      have hlen : T.length = Q.length := by
        have := congrArg List.length hT
        simp at this
        omega
      have hbd : ∀ y ∈ x :: T, -4611686018427387904 ≤ y ∧ y ≤ 4611686018427387904 := by
        rw [← hT]
        intro y hy
        rcases List.mem_append.1 hy with hy | hy
        · exact hx.out.2.2 y hy
        · rw [List.mem_singleton.1 hy]; exact HVR.out
      have HBD := Lib.hid hbd
      clear hbd
      rw [hT] at P5
      have HTL := Lib.hid hTl
      have HTT := Lib.hid hTt
      have HLEN := Lib.hid hlen
      have HP5 := Lib.hid P5
      clear P5 hT hTl hTt hlen
      go_wp2_with fail
      all_goals
        first
        | (obtain ⟨o1, o2, m1, m2, m3, m4⟩ := HP5.out.ex
           refine (is_take m1).mono ?_
           rintro e w6 ⟨rfl, b6, k6, h6⟩
           have P6 := KInv.take1 HP5.out m1 m2 m3 m4 b6 k6 h6
           clear b6 k6 h6 m1 m2 m3 m4
           rw [List.map_cons] at P6
           obtain ⟨o1, o2, m1, m2, m3, m4⟩ := P6.ex
           have HP6 := Lib.hid P6
           clear P6
           have M2 := Lib.hid m2
           have M1 := Lib.hid m1
           have M3 := Lib.hid m3
           have M4 := Lib.hid m4
           clear m1 m2 m3 m4
           go_wp2_with fail
           refine (is_take M2.out).mono ?_
           rintro e w7 ⟨rfl, b7, k7, h7⟩
           have P7 := KInv.take2 HP6.out M1.out M2.out M3.out M4.out b7 k7 h7
           clear b7 k7 h7 M1 M2 M3 M4 HP6
           have HF := Lib.hid (show ∃ (F : List Int) (lf : Int), (F = [] ∨ ∃ M, F = M ++ [v]) ∧ lf + F.length ≤ i + 1 ∧ (F.length ≤ i + 1 ∧ ∀ y ∈ F, -4611686018427387904 ≤ y ∧ y ≤ 4611686018427387904) ∧ KInv W gl gh F (F.map fun x => -x) lf lf w7 from
             ⟨T, left + 1, HTT.out, by have := hx.out.1; have := HLEN.out; omega, ⟨by have := hx.out.2.1; have := HLEN.out; omega, fun y hy => HBD.out y (List.mem_cons_of_mem _ hy)⟩, P7⟩)
           clear P7
           go_wp2_with fail)
        | (have HF := Lib.hid (show ∃ (F : List Int) (lf : Int), (F = [] ∨ ∃ M, F = M ++ [v]) ∧ lf + F.length ≤ i + 1 ∧ (F.length ≤ i + 1 ∧ ∀ y ∈ F, -4611686018427387904 ≤ y ∧ y ≤ 4611686018427387904) ∧ KInv W gl gh F (F.map fun x => -x) lf lf w5 from
             ⟨x :: T, left, .inr HTL.out, by have := hx.out.1; have := HLEN.out; simp only [List.length_cons]; omega, ⟨by have := hx.out.2.1; have := HLEN.out; simp only [List.length_cons]; omega, HBD.out⟩, HP5.out⟩))
      all_goals clear HP5 HTL HTT HLEN
      all_goals
        obtain ⟨F, lf, hF, hf1, hf2, hP⟩ := HF.out
        have HF1 := Lib.hid hF
        have HF2 := Lib.hid (And.intro hf1 hf2)
        have HPP := Lib.hid hP
        obtain ⟨o1, o2, m1, m2, -, -⟩ := hP.ex
        have M1 := Lib.hid m1
        have M2 := Lib.hid m2
        clear HF hF hf1 hf2 hP m1 m2
        refine (is_kept M1.out).mono ?_
        rintro e wa ⟨va, rfl, ra, ba⟩
        have Ra := Lib.hid ra
        have Ba := Lib.hid ba
        clear ra ba
        go_wp2_with fail
        refine (is_kept (M2.out.below Ba.out)).mono ?_
        rintro e wb ⟨vb, rfl, rb, bb⟩
        rw [keptV_neg] at rb
        have ra2 := Kd.R_below Ra.out bb
        obtain ⟨xa, hxa⟩ : ∃ xa, keptV false F = xa := ⟨_, rfl⟩
        have hso : some? F = decide (0 < xa.length) := by
          rw [← hxa]
          unfold some?
          exact decide_eq_decide.2 (by rw [keptV_pos])
        have HLN := Lib.hid (show xa.length ≤ F.length by rw [← hxa]; exact keptV_len false F)
        have hlast := keptV_lastD false v F
        have hsort := keptV_sorted F
        have hbest : bestV false F = xa.headD 0 := by rw [← hxa]; rfl
        have HXB := Lib.hid (show ∀ y ∈ xa, -4611686018427387904 ≤ y ∧ y ≤ 4611686018427387904 by rw [← hxa]; exact fun y hy => HF2.out.2.2 y (keptV_mem false F y hy))
        rw [hxa] at ra2 rb hlast hsort
        obtain ⟨Aa, ca, rfl⟩ := Kd.R_slice ra2
        obtain ⟨Ab, cb, rfl⟩ := Kd.R_slice rb
        have CA := Lib.hid (Kd.R_reads' ra2)
        have CB := Lib.hid (Kd.R_reads' rb)
        have Bb := Lib.hid (Ba.out.trans (bb.mono Ba.out.size))
        have HSO := Lib.hid hso
        have HLA := Lib.hid hlast
        have HSR := Lib.hid hsort
        have HBE := Lib.hid hbest
        clear ra2 rb bb hxa Ra Ba hso hlast hsort hbest
        go_wp2_with fail
        refine (is_best (M1.out.below Bb.out)).mono ?_
        rintro e wc ⟨rfl, bc⟩
        have Bc := Lib.hid (Bb.out.trans (bc.mono Bb.out.size))
        have CA2 := Lib.hid (Kd.C_below CA.out.2.2 bc)
        have CB2 := Lib.hid (Kd.C_below CB.out.2.2 bc)
        have hso := HSO.out
        clear bc Bb
        go_wp2_with fail
        refine (is_len (M1.out.below Bc.out)).mono ?_
        rintro e wd ⟨rfl, bd⟩
        have Bd := Lib.hid (Bc.out.trans (bd.mono Bc.out.size))
        have CA3 := Lib.hid (Kd.C_below CA2.out bd)
        have CB3 := Lib.hid (Kd.C_below CB2.out bd)
        clear bd Bc CA2 CB2
        go_wp2_with fail
        refine (is_len (M2.out.below Bd.out)).mono ?_
        rintro e we ⟨rfl, be⟩
        have Be := Lib.hid (Bd.out.trans (be.mono Bd.out.size))
        have CA4 := Lib.hid (Kd.C_below CA3.out be)
        have CB4 := Lib.hid (Kd.C_below CB3.out be)
        clear be Bd CA3 CB3 hso
        go_wp2
        obtain ⟨g0, rfl⟩ : ∃ g0, g0 = gk := ⟨_, rfl⟩
        go_loopg [13] xa.length (fun kq v13 w' => ∃ (j : Nat), v13 = .int .i64 j ∧ Aside0 (j + kq = xa.length) ∧ Aside0 (Below we.heap.size we w'))
        case atStart => exact ⟨0, rfl, ⟨by omega⟩, ⟨Below.refl _ _⟩⟩
        case round =>
          obtain ⟨j, rfl, hj, hb⟩ := hrel
          by_cases hjn : j < xa.length
          · have d0 : decide (j < xa.length) = true := decide_eq_true hjn
            have Hj := Lib.hid hjn
            obtain ⟨ada, hA, qa⟩ := Kd.at_int (Kd.C_below CA4.out hb.out) (j : Int) (by omega) (by omega)
            obtain ⟨adb, hB, qb⟩ := Kd.at_int (Kd.C_below CB4.out hb.out) (j : Int) (by omega) (by rw [List.length_map]; omega)
            rw [rd_map_neg xa j hjn] at qb
            rw [Int.toNat_natCast] at qa qb
            have hm : rd xa (j : Int) ∈ xa := by
              rw [rd_nat, List.getD_eq_getElem?_getD, List.getElem?_eq_getElem hjn]
              exact List.getElem_mem hjn
            have f1 := eq_true (show (0 : Int) ≤ (j : Int) by omega)
            have f2 : ((j : Int) < (xa.length : Int)) = True := eq_true (by omega)
            have f3 := eq_true hjn
            have H64 := Lib.hid (kept_round xa j (HXB.out _ hm) (by have := HF2.out.2.1; have := Hi.out; have := HS.out; have := (HLN.out : xa.length ≤ F.length); omega))
            clear hm
            by_cases hz : j = 0
            · subst hz
              have qa0 : wr.cell? ada = some (.int .i64 (rd xa 0)) := by simpa [Addr.add] using qa
              have qb0 : wr.cell? adb = some (.int .i64 (-(rd xa 0))) := by simpa [Addr.add] using qb
              have h640 : wrap64 (rd xa 0) = rd xa 0 := by simpa using H64.out.1
              have h64n : wrap64 (-(rd xa 0)) = -(rd xa 0) := by simpa using H64.out.2.1
              clear hjn
              subst hA
              subst hB
              have hi0 : IntKind.i64.wrap (-(rd xa 0)) = -(rd xa 0) := by simpa using H64.out.2.2.2
              go_wp2
              go_quiet (fail)
              go_wp2
              clear h640 h64n
              go_roundg (gk - 1)
              case measure => have := hj.out; have := Hj.out; omega
              case rel => exact ⟨1, by first | rfl | simp, ⟨by have := hj.out; have := Hj.out; omega⟩, ⟨pw_below_drewN hb.out _⟩⟩
            · obtain ⟨m, hm⟩ : ∃ m, j = m + 1 := ⟨j - 1, by omega⟩
              have hd0 : decide ((0 : Int) < (j : Int)) = true := decide_eq_true (by omega)
              have hd1 : decide (0 < j) = true := decide_eq_true (by omega)
              obtain ⟨adc, hC, qc⟩ := Kd.at_int (Kd.C_below CA4.out hb.out) (m : Int) (by omega) (by omega)
              rw [Int.toNat_natCast] at qc
              have HR := Lib.hid (kept_rise xa j m hm hjn HSR.out (by have := HF2.out.2.1; have := Hi.out; have := HS.out; have := (HLN.out : xa.length ≤ F.length); omega))
              have g1 := eq_true (show (0 : Int) ≤ (m : Int) by omega)
              have g2 : ((m : Int) < (xa.length : Int)) = True := eq_true (by omega)
              have g3 := eq_true (show m < xa.length by omega)
              have HM := Lib.hid hm
              clear hjn hz hm
              subst hA
              subst hB
              cases hC
              have h64 := H64.out.1
              have h64n := H64.out.2.1
              have hi0 := H64.out.2.2.2
              have hlt := HR.out.1
              have hwm := HR.out.2.1
              have hi1 := HR.out.2.2
              go_wp2
              go_quiet (fail)
              go_wp2
              clear h64 h64n hwm hlt hi0 hi1
              go_roundg (gk - 1)
              case measure => have := hj.out; have := Hj.out; omega
              case rel => exact ⟨j + 1, by first | rfl | (simp [H64.out.2.2.1]; done) | (have := H64.out.2.2.1; simpa using this), ⟨by have := hj.out; have := Hj.out; omega⟩, ⟨pw_below_drewN hb.out _⟩⟩
          · have d0 : decide (j < xa.length) = false := decide_eq_false hjn
            clear hjn
            have PW := Lib.hid (HPP.out.below (Be.out.trans (hb.out.mono Be.out.size)))
            have HWR := Lib.hid (show wrap64 ((i : Int) + 1) = ((i + 1 : Nat) : Int) by have := Hi.out; have := HS.out; unfold wrap64; omega)
            by_cases hp : 0 < xa.length
            · obtain ⟨n, hn⟩ : ∃ n, xa.length = n + 1 := ⟨xa.length - 1, by omega⟩
              have hF2 : ∃ M, F = M ++ [v] := by
                rcases HF1.out with hF | hF
                · exfalso
                  have h0 := HLN.out
                  rw [hF, List.length_nil] at h0
                  omega
                · exact hF
              obtain ⟨ada, hA, qa⟩ := Kd.at_int (Kd.C_below CA4.out hb.out) 0 (by omega) (by omega)
              obtain ⟨adb, hB, qb⟩ := Kd.at_int (Kd.C_below CA4.out hb.out) (n : Int) (by omega) (by omega)
              rw [Int.toNat_natCast] at qb
              have HE := Lib.hid (kept_end xa n v F hn HBE.out (HLA.out hF2) (by have := HF2.out.2.1; have := Hi.out; have := HS.out; have := (HLN.out : xa.length ≤ F.length); omega))
              have g1 := eq_true (show (0 : Int) ≤ (n : Int) by omega)
              have g2 : ((n : Int) < (xa.length : Int)) = True := eq_true (by omega)
              have g3 := eq_true (show n < xa.length by omega)
              have g4 := eq_true (show (0 : Int) < (xa.length : Int) by omega)
              have g5 := eq_true hp
              have hd0 : decide (0 < xa.length) = true := decide_eq_true hp
              have qa0 : wr.cell? ada = some (.int .i64 (rd xa 0)) := by simpa [Addr.add] using qa
              clear qa hn hp hF2
              subst hA
              cases hB
              have e1 := HE.out.1
              have e2 := HE.out.2.1
              have e3 := HE.out.2.2.1
              have e4 := HE.out.2.2.2.1
              have e5 := HE.out.2.2.2.2
              go_wp2
              clear e1 e2 e3 e4 e5
              go_roundg (g0 - 1)
              case measure => have := hk.out; have := Hi.out; omega
              case rel => exact ⟨i + 1, F, lf, by first | rfl | (rw [HWR.out]), ⟨by have := hk.out; have := Hi.out; omega⟩, ⟨by have := HF2.out.1; omega, HF2.out.2⟩, ⟨PW.out⟩⟩
            · have hd0 : decide (0 < xa.length) = false := decide_eq_false hp
              clear hp
              go_wp2
              go_roundg (g0 - 1)
              case measure => have := hk.out; have := Hi.out; omega
              case rel => exact ⟨i + 1, F, lf, by first | rfl | (rw [HWR.out]), ⟨by have := hk.out; have := Hi.out; omega⟩, ⟨by have := HF2.out.1; omega, HF2.out.2⟩, ⟨PW.out⟩⟩
    · have c0 : decide (i < L.length) = false := decide_eq_false hi
      clear hi
      go_wp2
      go_ret
      exact ⟨by simp, hI.out.bel⟩
end Go.Proofs.Ytmlnbmbobkoipaa
