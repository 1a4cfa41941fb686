/-
  MonoKeeps: the law's call answers true, for every list of numbers up to the bound; nothing that was there is changed.
-/
import Derived.Test.YtmlnbmbobkoipaaMonoPlaysLaw
namespace Go.Proofs.Ytmlnbmbobkoipaa
open Go.RowKit Go.Proofs.Ytmlnbmbobkoipaa.XMono Go.Proofs.YtmlnbmbobkoipaaW.PrintWords Go.Proofs.YtmlnbmbobkoipaaW.PrintLast Go.Proofs.YtmlnbmbobkoipaaW.PrintMore

theorem c_take {α : Type} {d : Kd α} {w : World} {A : Option Addr} {n m : Nat} {xs : List α} (h : Kd.C d w A n xs) (hm : m ≤ n) : Kd.C d w A (xs.take m).length (xs.take m) := by
  obtain ⟨h1, h2, h3⟩ := h
  have hl : (xs.take m).length = m := by rw [List.length_take]; omega
  refine ⟨rfl, by omega, fun hp => ?_⟩
  obtain ⟨ad, e, hc⟩ := h3 (by omega)
  refine ⟨ad, e, fun j p hj => ?_⟩
  rw [List.getElem?_take] at hj
  split at hj
  · exact hc j p hj
  · cases hj

/-- The queue holds L; what was there at the call is as it was. -/
structure MInv (W : World) (g : Nat) (high : Bool) (L : List Int) (w : World) : Prop where
  big : W.heap.size ≤ g
  bel : Below W.heap.size W w
  ex : ∃ okm : Nat → Prop, MonoIs w g okm high L 0 ∧ (∀ k, okm k → W.heap.size ≤ k)
theorem MInv.put {W w w' : World} {g : Nat} {high : Bool} {L2 : List Int} {okm : Nat → Prop} (h1 : W.heap.size ≤ g) (h2 : Below W.heap.size W w) (h5 : ∀ k, okm k → W.heap.size ≤ k)
    (b : Below 0 w w') (k : Kept w w' (fun k => k = g ∨ okm k)) (m : MonoIs w' g (fun k => okm k ∨ w.heap.size ≤ k) high L2 0) : MInv W g high L2 w' := by
  refine ⟨h1, below_of_kept h2 b k ?_, _, m, ?_⟩
  · rintro k hk (rfl | h)
    · omega
    · have := h5 k h; omega
  · rintro k (h | h)
    · exact h5 k h
    · have := h2.size; omega
theorem MInv.below {W w w' : World} {g : Nat} {high : Bool} {L : List Int} (h : MInv W g high L w) (hb : Below w.heap.size w w') : MInv W g high L w' := by
  obtain ⟨h1, h2, okm, h3, h4⟩ := h
  exact ⟨h1, h2.trans (hb.mono h2.size), okm, h3.below hb, h4⟩
/-- Blocks made from s on may be written. -/
theorem MInv.made {W w0 w w' : World} {g : Nat} {high : Bool} {L : List Int} {S : Nat → Prop} (h : MInv W g high L w0) (hb : Below w0.heap.size w0 w) (hS : ∀ k, S k → w0.heap.size ≤ k) (b : Below 0 w w') (hk : Kept w w' S) : MInv W g high L w' := by
  obtain ⟨h1, h2, okm, h3, h4⟩ := h
  have hlt := h3.at_.lt
  have hb2 : Below w0.heap.size w0 w' := below_of_kept hb b hk (fun k hk hs => by have := hS k hs; omega)
  exact ⟨h1, h2.trans (hb2.mono h2.size), okm, h3.below hb2, h4⟩

theorem refkept_n {w : World} {high : Bool} {A : Option Addr} {c n : Nat} {L : List Int} (hn : L.length = n) (hs : n ≤ 1048576) (hC : Kd.C (Kd.int .i64) w A L.length L) (hc : n ≤ c) :
    Calls Try.prog 16 #[.bool high, .slice A n c] w fun e w' => ∃ v0_ : Value, e = .returned v0_ ∧ Kd.R (Kd.int .i64) 2 w' w.heap.size (fun _ => True) v0_ (keptV high L) ∧ Below w.heap.size w w' := by
  subst hn
  obtain ⟨k, hk⟩ : ∃ k, 2 * L.length + 2 ≤ k := ⟨_, Nat.le_refl _⟩
  exact capstanref06_Kept.calls k high A c L _ w hC hc (kept_f high L (by omega) k hk)
theorem looks_n {w : World} {g n : Nat} {ok : Nat → Prop} {high : Bool} {L : List Int} {left : Int} (h : MonoIs w g ok high L left) (hn : L.length = n) {A : Option Addr} {c : Nat} (hc : Kd.C (Kd.int .i64) w A L.length L) (hlc : n ≤ c) :
    Calls Try.prog 17 #[.pointer (some ⟨g, 0, none⟩), .bool high, .slice A n c] w fun e w' => e = .returned (.bool true) ∧ Below w.heap.size w w' := by
  subst hn
  exact looks_true h hc hlc

set_option maxHeartbeats 8000000 in
set_option maxRecDepth 100000 in
theorem MonoKeeps_c (high : Bool) (A : Option Addr) (c : Nat) (L : List Int) (W : World) (hc : Kd.C (Kd.int .i64) W A L.length L) (hlc : L.length ≤ c) (hcm : c ≤ 9223372036854775807) (hs : L.length ≤ 1048576) :
    Calls Try.prog 3 #[.bool high, .slice A L.length c] W fun e w' => e = .returned (.bool true) ∧ Below W.heap.size W w' := by
  have HC := Lib.hid hc
  have HLC := Lib.hid hlc
  have HCM := Lib.hid hcm
  have HS := Lib.hid hs
  clear hc hlc hs hcm
  go_enter Try.func3, Try.ntmps3
  go_wp2_with fail
  refine (awake06 _).mono ?_
  rintro e w1 ⟨rfl, b1⟩
  go_wp2_with fail
  refine (is_new high _).mono ?_
  rintro e w2 ⟨g, rfl, hg, h2, b2⟩
  have HI := Lib.hid (show MInv W g high [] w2 from ⟨Nat.le_trans b1.size hg, b1.trans (b2.mono b1.size), fun _ => False, h2, fun _ hk => hk.elim⟩)
  clear h2 hg b1 b2
  go_wp2
  go_loopg [6] L.length (fun kq v6 w' => ∃ (i : Nat), v6 = .int .i64 i ∧ Aside0 (i + kq = L.length) ∧ Aside0 (MInv W g high (L.take i) w'))
  case atStart => exact ⟨0, rfl, ⟨by omega⟩, ⟨by rw [List.take_zero]; exact HI.out⟩⟩
  case round =>
    clear HI
    obtain ⟨i, rfl, hk, hI⟩ := hrel
    by_cases hi : i < L.length
    · have c0 : decide (i < L.length) = true := decide_eq_true hi
      have Hi := Lib.hid hi
      obtain ⟨ad, rfl, q0⟩ := Kd.at_int HC.out (i : Int) (by omega) (by omega)
      rw [Int.toNat_natCast] at q0
      have r0 := (hI.out.bel.cell (World.block_lt_of_cell? W _ q0)).trans q0
      clear hi
      have e1 := eq_true (show (0 : Int) ≤ (i : Int) by omega)
      have e2 : ((i : Int) < (L.length : Int)) = True := eq_true (by have := Hi.out; omega)
      have e3 := eq_true Hi.out
      have hwr : wrap64 ((i : Int) + 1) = ((i + 1 : Nat) : Int) := by have := Hi.out; have := HS.out; unfold wrap64; omega
      have htk : L.take i ++ [rd L (i : Int)] = L.take (i + 1) := by
        rw [List.take_add_one, List.getElem?_eq_getElem Hi.out, Option.toList_some, rd_nat, List.getD_eq_getElem?_getD, List.getElem?_eq_getElem Hi.out]
        rfl
      have HT := Lib.hid htk
      have Hln := Lib.hid (show (L.take i).length = i by rw [List.length_take]; have := Hi.out; omega)
      have Hln1 := Lib.hid (show (L.take (i + 1)).length = i + 1 by rw [List.length_take]; have := Hi.out; omega)
      clear htk
      obtain ⟨okm, m1, m2⟩ := hI.out.ex
      have M1 := Lib.hid m1
      have M2 := Lib.hid m2
      clear m1 m2
      go_wp2_with fail
      refine (is_put (rd L (i : Int)) M1.out (by rw [Hln.out]; have := Hi.out; have := HS.out; omega) (by rw [Hln.out]; have := Hi.out; have := HS.out; omega)).mono ?_
      rintro e w3 ⟨rfl, b3, k3, h3⟩
      rw [HT.out] at h3
      have P3 := Lib.hid (MInv.put (okm := okm) hI.out.big hI.out.bel M2.out b3 k3 h3)
      have H3 := Lib.hid h3
      clear b3 k3 h3 r0
      go_wp2_with fail
      refine (is_kept H3.out).mono ?_
      rintro e w4 ⟨va, rfl, r4, b4⟩
      have R4 := Lib.hid r4
      have B4 := Lib.hid b4
      clear r4 b4
      go_wp2_with fail
      refine (is_kept (H3.out.below B4.out)).mono ?_
      rintro e w5 ⟨vb, rfl, r5, b5⟩
      have R5 := Lib.hid r5
      have B5 := Lib.hid b5
      have RA := Lib.hid (Kd.R_mono (ok' := fun k => w3.heap.size ≤ k ∧ k < w4.heap.size) (Kd.R_below (Kd.R_bound R4.out) b5) (fun k hk => ⟨hk.2.1, hk.2.2.1⟩))
      clear r5 b5
      obtain ⟨xa, hxa⟩ : ∃ xa, keptV high (L.take (i + 1)) = xa := ⟨_, rfl⟩
      have RA2 := Lib.hid (show Kd.R (Kd.int .i64) 2 w5 w3.heap.size (fun k => w3.heap.size ≤ k ∧ k < w4.heap.size) va xa from by rw [← hxa]; exact RA.out)
      have HXA := Lib.hid hxa
      have HXL := Lib.hid (show xa.length ≤ 1048576 by rw [← hxa]; have := keptV_len high (L.take (i + 1)); have := Hln1.out; have := Hi.out; have := HS.out; omega)
      clear hxa RA
      obtain ⟨Aa, ca, rfl⟩ := Kd.R_slice RA2.out
      obtain ⟨Ab, cb, rfl⟩ := Kd.R_slice R5.out
      have RB := Lib.hid (Kd.R_mono (ok' := fun k => w4.heap.size ≤ k) (Kd.R_bound R5.out) (fun k hk => hk.2.1))
      obtain ⟨g0, rfl⟩ : ∃ g0, g0 = gk := ⟨_, rfl⟩
      go_wp2
      go_loopg [9] xa.length (fun kq v9 w' => ∃ (j : Nat) (xs : List Int), v9 = .int .i64 j ∧ Aside0 (j + kq = xa.length) ∧ Aside0 (xs.length = xa.length) ∧ Aside0 (Kd.R (Kd.int .i64) 2 w' w3.heap.size (fun k => w3.heap.size ≤ k ∧ k < w4.heap.size) (.slice Aa xa.length ca) xs) ∧ Aside0 (Below w3.heap.size w5 w') ∧ Aside0 (Kept w5 w' (fun k => w3.heap.size ≤ k ∧ k < w4.heap.size)))
      case atStart => exact ⟨0, xa, rfl, ⟨by omega⟩, ⟨rfl⟩, ⟨RA2.out⟩, ⟨Below.refl _ _⟩, ⟨Kept.refl _ _⟩⟩
      case round =>
        obtain ⟨j, xs, rfl, hj, hxl, hr, hb, hkp⟩ := hrel
        by_cases hjn : j < xa.length
        · have d0 : decide (j < xa.length) = true := decide_eq_true hjn
          obtain ⟨inner, ho⟩ := Kd.R_own hr.out
          rcases ho.2 with ⟨he, h0⟩ | ⟨ga, cap, cur, he, hbg, hh, hnc, hcm, hcs, ht⟩
          · exact absurd h0 (by have := hxl.out; omega)
          injection he with he1 he2 he3
          subst he1
          clear he2 he3
          obtain ⟨ad2, hA2, q2⟩ := Kd.at_int (Kd.R_reads' hr.out).2.2 (j : Int) (by omega) (by have := hxl.out; omega)
          cases hA2
          rw [Int.toNat_natCast, add_plain] at q2
          have qf := blk_frozen hh j
          have Hj := Lib.hid hjn
          have HG := Lib.hid (show w3.heap.size ≤ ga ∧ ga < w4.heap.size from hr.out.1 ga rfl)
          have f1 := eq_true (show (0 : Int) ≤ (j : Int) by omega)
          have f2 : ((j : Int) < (xa.length : Int)) = True := eq_true (by omega)
          have f3 := eq_true hjn
          have hwj : wrap64 ((j : Int) + 1) = ((j + 1 : Nat) : Int) := by have := hjn; have := HXL.out; unfold wrap64; omega
          clear ho hh hnc hcm hcs ht hbg hjn
          go_wp2
          go_roundg (gk - 1)
          case measure => have := hj.out; have := Hj.out; omega
          case rel => exact ⟨j + 1, xs.set (j : Int).toNat 99, by first | rfl | simp [hwj], ⟨by have := hj.out; have := Hj.out; omega⟩, ⟨by rw [List.length_set]; exact hxl.out⟩, ⟨Kd.R_putn hr.out (j : Int) 99⟩, ⟨hb.out.setCell (p := ⟨ga, (j : Int).toNat, none⟩) HG.out.1 _⟩, ⟨Kept.setCell (S := fun k => w3.heap.size ≤ k ∧ k < w4.heap.size) (p := ⟨ga, (j : Int).toNat, none⟩) hkp.out (.inl HG.out) _⟩⟩
        · have d0 : decide (j < xa.length) = false := decide_eq_false hjn
          clear hjn
          go_wp2
          clear d0
          go_loopg [7, 10] 9 (fun kq v7 v10 w' => ∃ (j : Nat) (ys : List Int), v10 = .int .i64 j ∧ Aside0 (j + kq = 9) ∧ Aside0 (ys.length ≤ 1048576 + j) ∧ Aside0 (Kd.R (Kd.int .i64) 2 w' w3.heap.size (fun k => (w3.heap.size ≤ k ∧ k < w4.heap.size) ∨ w5.heap.size ≤ k) v7 ys) ∧ Aside0 (Below w3.heap.size w5 w') ∧ Aside0 (Kept w5 w' (fun k => w3.heap.size ≤ k ∧ k < w4.heap.size)))
          case atStart => exact ⟨0, xs, rfl, ⟨rfl⟩, ⟨by have := hxl.out; have := HXL.out; omega⟩, ⟨Kd.R_mono hr.out (fun k hk => .inl hk)⟩, hb, hkp⟩
          case round =>
            clear hr hb hkp hj hxl
            obtain ⟨j2, ys, rfl, hj2, hyl, hr2, hb2, hkp2⟩ := hrel
            obtain ⟨A7, c7, rfl⟩ := Kd.R_slice hr2.out
            by_cases hjn : j2 < 9
            · have d0 : decide (j2 < 9) = true := decide_eq_true hjn
              have d1 : decide ((j2 : Int) < 9) = true := decide_eq_true (by omega)
              have Hj := Lib.hid hjn
              have hwj : wrap64 ((j2 : Int) + 1) = ((j2 + 1 : Nat) : Int) := by unfold wrap64; omega
              have Hz := Lib.hid (show w3.heap.size ≤ wr.heap.size ∧ w5.heap.size ≤ wr.heap.size by have := B4.out.size; have := B5.out.size; have := hb2.out.size; omega)
              clear hjn
              go_wp2_with (first | ((with_reducible refine gate_builtin (b := .append) (xs := #[.tmp 46, .tmp 47]) rfl ?_); at_builtin; refine Kd.R_append (Kd.int .i64) (w0 := w5) w3.heap.size rfl (.tmp 46) (.tmp 47) 22 2 (.int .i64 0) 8 rfl Try.underlying22 info64 rfl (by decide) (by decide) (.slice A7 ys.length c7) ys 98 [.int .i64 98] (fun k => (w3.heap.size ≤ k ∧ k < w4.heap.size) ∨ w5.heap.size ≤ k) (fun _ => False) (by rfl) (by rfl) ?aP (fun _ hk => hk.elim) (fun k hk => .inr (Nat.le_trans Hz.out.2 hk)) hr2.out hb2.out Hz.out.1 ?aL ?_; (case aP => exact rfl); (case aL => have := hyl.out; have := Hj.out; omega); intro v108 w9 ho hb9 hg9 hat; have HO := Lib.hid ho; have HB9 := Lib.hid hb9; have HG9 := Lib.hid (Kept.of_grown hg9 hkp2.out (fun k hk => hr2.out.1 k hk)); clear ho hb9 hg9 hat))
              go_roundg (gk - 1)
              case measure => have := hj2.out; have := Hj.out; omega
              case rel => exact ⟨j2 + 1, ys ++ [98], by first | rfl | simp [hwj], ⟨by have := hj2.out; have := Hj.out; omega⟩, ⟨by have := hyl.out; simp; omega⟩, ⟨HO.out⟩, ⟨HB9.out⟩, ⟨HG9.out⟩⟩
            · have d0 : decide (j2 < 9) = false := decide_eq_false hjn
              have d1 : decide ((j2 : Int) < 9) = false := decide_eq_false (by omega)
              clear hjn
              have P9 := MInv.made P3.out (B4.out.trans (B5.out.mono B4.out.size)) (S := fun k => w3.heap.size ≤ k ∧ k < w4.heap.size) (fun k hk => hk.1) (hb2.out.mono (Nat.zero_le _)) hkp2.out
              have CB := Lib.hid (Kd.R_reads' (Kd.R_kept RB.out hkp2.out (fun k hk h => by have := h.2; omega)))
              have hct := c_take (m := i + 1) (Kd.C_below HC.out P9.bel) Hi.out
              have hic : i + 1 ≤ c := Nat.le_trans Hi.out HLC.out
              have f1 := eq_true (show (0 : Int) ≤ (i : Int) + 1 by omega)
              have f2 : ((i : Int) + 1 ≤ (c : Int)) = True := eq_true (by omega)
              have f3 := eq_true hic
              obtain ⟨okm9, m1, m2⟩ := P9.ex
              have M9 := Lib.hid m1
              have N9 := Lib.hid P9
              have HCT := Lib.hid hct
              have HIC := Lib.hid hic
              clear P9 hct hic m1 m2 hr2 hb2 hkp2
              go_wp2_with fail
              refine (refkept_n Hln1.out (by have := Hi.out; have := HS.out; omega) HCT.out HIC.out).mono ?_
              rintro e w10 ⟨vr, rfl, r10, b10⟩
              obtain ⟨Ar, cr, rfl⟩ := Kd.R_slice r10
              have C10 := Lib.hid (Kd.R_reads' r10)
              have CB2 := Lib.hid (And.intro CB.out.2.1 (Kd.C_below CB.out.2.2 b10))
              have B10 := Lib.hid b10
              clear r10 b10 CB
              obtain ⟨K, hK⟩ : ∃ K, L.length < K := ⟨_, Nat.lt_succ_self _⟩
              have hkl := keptV_len high (L.take (i + 1))
              have hSame := Lib.hid (same_f (keptV high (L.take (i + 1))) (by have := Hln1.out; have := Hi.out; have := HS.out; omega) K (by have := Hln1.out; have := Hi.out; omega))
              clear hkl hK
              go_wp2_with fail
              refine (capstanref05_Same.calls K Ab cb _ Ar cr _ true _ CB2.out.2 CB2.out.1 C10.out.2.2 C10.out.2.1 hSame.out).mono ?_
              rintro e w11 ⟨rfl, ⟨nd, rfl⟩⟩
              have B11 := Lib.hid (pw_below_drewN B10.out nd)
              go_wp2_with fail
              refine (looks_n (M9.out.below B11.out) Hln1.out (Kd.C_below HCT.out B11.out) HIC.out).mono ?_
              rintro e w12 ⟨rfl, b12⟩
              have P12 := Lib.hid ((N9.out.below B11.out).below b12)
              clear b12
              go_wp2
              go_roundg (g0 - 1)
              case measure => have := hk.out; have := Hi.out; omega
              case rel => exact ⟨i + 1, by first | rfl | simp [hwr], ⟨by have := hk.out; have := Hi.out; omega⟩, ⟨P12.out⟩⟩
    · have c0 : decide (i < L.length) = false := decide_eq_false hi
      clear hi
      go_wp2
      go_ret
      exact ⟨by simp, hI.out.bel⟩
end Go.Proofs.Ytmlnbmbobkoipaa
