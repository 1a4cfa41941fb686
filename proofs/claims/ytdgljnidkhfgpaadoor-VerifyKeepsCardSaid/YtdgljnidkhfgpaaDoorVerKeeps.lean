/-
  The law VerifyKeeps answers true.
-/
import Derived.Test.YtdgljnidkhfgpaaDoorVerRow
namespace Go.Proofs.YtdgljnidkhfgpaaDoor
set_option linter.unusedVariables false
set_option linter.unusedSimpArgs false
open Go.RowKit Go.Proofs.YtdgljnidkhfgpaaDoor.XVer Go.Proofs.YtdgljnidkhfgpaaDoorW.PrintWords Go.Proofs.YtdgljnidkhfgpaaDoorW.PrintLast Go.Proofs.YtdgljnidkhfgpaaDoorW.PrintMore

section
variable {w : World} {p : Pg} {d : Hd}
set_option maxHeartbeats 8000000 in
set_option maxRecDepth 100000 in
theorem keeps_calls (hp : PgIn w p d) (hF : FieldsAt w) (hT : TabAt w) (hA : ∀ x ∈ p.code, -9223372036854775808 ≤ x.f1 ∧ x.f1 ≤ 9223372036854775807) :
    Calls Tryd.prog 5 #[.agg #[.int .i64 p.m, .int .i64 p.r0, .int .i64 p.r1, .int .i64 p.r2, .int .i64 p.r3, .int .i64 p.r4, .slice d.a6 p.consts.length d.c6, .slice d.a7 p.wins.length d.c7, .slice d.a8 p.crons.length d.c8, .int .i64 p.locals, .int .i64 p.height, .slice d.a11 p.code.length d.c11]] w fun e w' => e = .returned (.bool true) ∧ Below w.heap.size w w' := by
  have HP := Lib.hid hp
  have HF := Lib.hid hF
  have HT := Lib.hid hT
  have HA := Lib.hid hA
  have HLT := Lib.hid (show 1 < w.heap.size from World.block_lt_of_cell? w _ (hF 0 (by decide)).1)
  clear hp hF hT hA
  obtain ⟨wb, hwb⟩ : ∃ wb, w.alloc (.cells #[.int .i64 p.m, .int .i64 p.r0, .int .i64 p.r1, .int .i64 p.r2, .int .i64 p.r3, .int .i64 p.r4, .slice d.a6 p.consts.length d.c6, .slice d.a7 p.wins.length d.c7, .slice d.a8 p.crons.length d.c8, .int .i64 p.locals, .int .i64 p.height, .slice d.a11 p.code.length d.c11] 38) = wb := ⟨_, rfl⟩
  have HBB := Lib.hid (show Below w.heap.size w wb by rw [← hwb]; exact below_alloc (Below.refl _ w) _)
  have KB := Lib.hid (show wb.heap[w.heap.size]? = some (.cells #[.int .i64 p.m, .int .i64 p.r0, .int .i64 p.r1, .int .i64 p.r2, .int .i64 p.r3, .int .i64 p.r4, .slice d.a6 p.consts.length d.c6, .slice d.a7 p.wins.length d.c7, .slice d.a8 p.crons.length d.c8, .int .i64 p.locals, .int .i64 p.height, .slice d.a11 p.code.length d.c11] 38 (0, 0)) by rw [← hwb]; exact blk_new _ _)
  have HWB := Lib.hid hwb
  clear hwb
  go_enter Tryd.func5, Tryd.ntmps5
  go_wp2_with fail
  rw [HWB.out]
  obtain ⟨g, hg⟩ : ∃ g, w.heap.size = g := ⟨_, rfl⟩
  have kg := KB.out
  rw [hg] at kg
  have KG := Lib.hid kg
  simp only [hg]
  clear KB hg kg
  refine (awake23 (HF.out.below HBB.out HLT.out) (HT.out.below HBB.out (by have := HLT.out; omega))).mono ?_
  rintro e w1 ⟨rfl, b1⟩
  have B1 := Lib.hid (HBB.out.trans (b1.mono HBB.out.size))
  have K1 := Lib.hid (blk_below KG.out b1)
  have HGL := Lib.hid (show g < w1.heap.size from blk_lt K1.out)
  clear b1
  obtain ⟨H, hH⟩ : ∃ H, (heightsV p).1 = H := ⟨_, rfl⟩
  obtain ⟨st, hst⟩ : ∃ st, (heightsV p).2 = st := ⟨_, rfl⟩
  have HLen := Lib.hid (show H.length ≤ 16384 by rw [← hH]; exact heightsV_len p)
  have HHO := Lib.hid fun (w0 : World) (hb : Below w.heap.size w w0) => show Calls Tryd.prog 10 #[.agg #[.int .i64 p.m, .int .i64 p.r0, .int .i64 p.r1, .int .i64 p.r2, .int .i64 p.r3, .int .i64 p.r4, .slice d.a6 p.consts.length d.c6, .slice d.a7 p.wins.length d.c7, .slice d.a8 p.crons.length d.c8, .int .i64 p.locals, .int .i64 p.height, .slice d.a11 p.code.length d.c11]] w0 (fun e w' => ∃ v, e = .returned (.tuple #[v, .int .i64 st]) ∧ Kd.R (Kd.int .i64) 3 w' w0.heap.size (fun _ => True) v H ∧ Below w0.heap.size w0 w') from by
    rw [← hH, ← hst]
    exact heights_own (HP.out.below hb) (HF.out.below hb HLT.out) (HT.out.below hb (by have := HLT.out; omega)) HA.out
  clear hH hst
  have q0 := (blk_cell K1.out 0).trans rfl
  have q1 := (blk_cell K1.out 1).trans rfl
  have q2 := (blk_cell K1.out 2).trans rfl
  have q3 := (blk_cell K1.out 3).trans rfl
  have q4 := (blk_cell K1.out 4).trans rfl
  have q5 := (blk_cell K1.out 5).trans rfl
  have q6 := (blk_cell K1.out 6).trans rfl
  have q7 := (blk_cell K1.out 7).trans rfl
  have q8 := (blk_cell K1.out 8).trans rfl
  have q9 := (blk_cell K1.out 9).trans rfl
  have q10 := (blk_cell K1.out 10).trans rfl
  have q11 := (blk_cell K1.out 11).trans rfl
  go_wp2_with fail
  refine (HHO.out _ B1.out).mono ?_
  rintro e w2 ⟨va, rfl, r2, b2⟩
  have B2 := Lib.hid (B1.out.trans (b2.mono B1.out.size))
  have BB2 := Lib.hid b2
  have K2 := Lib.hid (blk_below K1.out b2)
  have R2 := Lib.hid r2
  clear b2 r2 q0 q1 q2 q3 q4 q5 q6 q7 q8 q9 q10 q11
  have q0 := (blk_cell K2.out 0).trans rfl
  have q1 := (blk_cell K2.out 1).trans rfl
  have q2 := (blk_cell K2.out 2).trans rfl
  have q3 := (blk_cell K2.out 3).trans rfl
  have q4 := (blk_cell K2.out 4).trans rfl
  have q5 := (blk_cell K2.out 5).trans rfl
  have q6 := (blk_cell K2.out 6).trans rfl
  have q7 := (blk_cell K2.out 7).trans rfl
  have q8 := (blk_cell K2.out 8).trans rfl
  have q9 := (blk_cell K2.out 9).trans rfl
  have q10 := (blk_cell K2.out 10).trans rfl
  have q11 := (blk_cell K2.out 11).trans rfl
  go_wp2_with fail
  refine (HHO.out _ B2.out).mono ?_
  rintro e w3 ⟨vb, rfl, r3, b3⟩
  have B3 := Lib.hid (B2.out.trans (b3.mono B2.out.size))
  have BB3 := Lib.hid b3
  have K3 := Lib.hid (blk_below K2.out b3)
  have RA2 := Lib.hid (Kd.R_mono (ok' := fun k => w1.heap.size ≤ k ∧ k < w2.heap.size) (Kd.R_below (Kd.R_bound R2.out) b3) (fun k hk => ⟨hk.2.1, hk.2.2.1⟩))
  have RB := Lib.hid (Kd.R_mono (ok' := fun k => w2.heap.size ≤ k) (Kd.R_bound r3) (fun k hk => hk.2.1))
  clear b3 r3 q0 q1 q2 q3 q4 q5 q6 q7 q8 q9 q10 q11
  obtain ⟨n, hn⟩ : ∃ n, H.length = n := ⟨_, rfl⟩
  have HN := Lib.hid hn
  obtain ⟨Aa, ca, rfl⟩ := Kd.R_slice RA2.out
  obtain ⟨Ab, cb, rfl⟩ := Kd.R_slice RB.out
  rw [hn]
  have RA3 := RA2.out
  rw [hn] at RA3
  have RA := Lib.hid RA3
  have HSZ := Lib.hid (show w1.heap.size ≤ w2.heap.size ∧ w2.heap.size ≤ w3.heap.size from ⟨BB2.out.size, BB3.out.size⟩)
  clear hn RA3
  go_wp2
  go_loopg [7] n (fun kq v7 w' => ∃ (j : Nat) (xs : List Int), v7 = .int .i64 j ∧ Aside0 (j + kq = n) ∧ Aside0 (xs.length = n) ∧ Aside0 (Kd.R (Kd.int .i64) 3 w' w1.heap.size (fun k => w1.heap.size ≤ k ∧ k < w2.heap.size) (.slice Aa n ca) xs) ∧ Aside0 (Below w1.heap.size w3 w') ∧ Aside0 (Kept w3 w' (fun k => w1.heap.size ≤ k ∧ k < w2.heap.size)))
  case atStart => exact ⟨0, H, rfl, ⟨by omega⟩, ⟨HN.out⟩, ⟨RA.out⟩, ⟨Below.refl _ _⟩, ⟨Kept.refl _ _⟩⟩
  case round =>
    obtain ⟨j, xs, rfl, hj, hxl, hr, hb, hkp⟩ := hrel
    by_cases hjn : j < n
    · have d0 : decide (j < n) = true := decide_eq_true hjn
      obtain ⟨inner, ho⟩ := Kd.R_own hr.out
      rcases ho.2 with ⟨he, h0⟩ | ⟨ga, cap, cur, he, hbg, hh, hnc, hcm, hcs, ht⟩
      · exact absurd h0 (by have := hxl.out; omega)
      injection he with he1 he2 he3
      subst he1
      clear he2 he3
      have hrr := hr.out
      rw [← hxl.out] at hrr
      obtain ⟨ad2, hA2, q2⟩ := Kd.at_int (Kd.R_reads' hrr).2.2 (j : Int) (by omega) (by have := hxl.out; omega)
      cases hA2
      rw [Int.toNat_natCast, add_plain] at q2
      have qf := blk_frozen hh j
      have Hj := Lib.hid hjn
      have HG := Lib.hid (show w1.heap.size ≤ ga ∧ ga < w2.heap.size from hr.out.1 ga rfl)
      have f1 := eq_true (show (0 : Int) ≤ (j : Int) by omega)
      have f2 : ((j : Int) < (n : Int)) = True := eq_true (by omega)
      have f3 := eq_true hjn
      have hwj : wrap64 ((j : Int) + 1) = ((j + 1 : Nat) : Int) := by have := hjn; have := HLen.out; have := HN.out; unfold wrap64; omega
      clear ho hh hnc hcm hcs ht hbg hjn hrr
      go_wp2
      go_roundg (gk - 1)
      case measure => have := hj.out; have := Hj.out; omega
      case rel => exact ⟨j + 1, xs.set (j : Int).toNat 99, by first | rfl | simp [hwj], ⟨by have := hj.out; have := Hj.out; omega⟩, ⟨by rw [List.length_set]; exact hxl.out⟩, ⟨Kd.R_putn hr.out (j : Int) 99⟩, ⟨hb.out.setCell (p := ⟨ga, (j : Int).toNat, none⟩) HG.out.1 _⟩, ⟨Kept.setCell (S := fun k => w1.heap.size ≤ k ∧ k < w2.heap.size) (p := ⟨ga, (j : Int).toNat, none⟩) hkp.out (.inl HG.out) _⟩⟩
    · have d0 : decide (j < n) = false := decide_eq_false hjn
      clear hjn
      have Hz := Lib.hid (show w1.heap.size ≤ wr.heap.size ∧ w3.heap.size ≤ wr.heap.size by have := hb.out.size; have := HSZ.out; omega)
      go_wp2_with (first | ((with_reducible refine gate_builtin (b := .append) (xs := #[.tmp 32, .tmp 33]) rfl ?_); at_builtin; refine Kd.R_append (Kd.int .i64) (w0 := w3) w1.heap.size rfl (.tmp 32) (.tmp 33) 44 3 (.int .i64 0) 8 rfl Tryd.underlying44 infoH rfl (by decide) (by decide) (.slice Aa n ca) xs 98 [.int .i64 98] (fun k => (w1.heap.size ≤ k ∧ k < w2.heap.size) ∨ w3.heap.size ≤ k) (fun _ => False) (by rfl) (by rfl) ?aP (fun _ hk => hk.elim) (fun k hk => .inr (Nat.le_trans Hz.out.2 hk)) (Kd.R_mono hr.out (fun k hk => .inl hk)) hb.out Hz.out.1 ?aL ?_; (case aP => exact rfl); (case aL => have := hxl.out; have := HN.out; have := HLen.out; omega); intro v108 w9 ho hb9 hg9 hat; have HB9 := Lib.hid hb9; have HG9 := Lib.hid (Kept.of_grown hg9 hkp.out (fun k hk => .inl (hr.out.1 k hk))); obtain ⟨ys, hys⟩ : ∃ ys, xs ++ [98] = ys := ⟨_, rfl⟩; rw [hys] at ho; obtain ⟨A9, c9, rfl⟩ := Kd.R_slice ho; have hyl : ys.length = n + 1 := (by rw [← hys, List.length_append, hxl.out]; rfl); rw [hyl]; have K9 := Lib.hid ((HB9.out.block g HGL.out).trans K3.out); have q0 := (blk_cell K9.out 0).trans rfl; have q1 := (blk_cell K9.out 1).trans rfl; have q2 := (blk_cell K9.out 2).trans rfl; have q3 := (blk_cell K9.out 3).trans rfl; have q4 := (blk_cell K9.out 4).trans rfl; have q5 := (blk_cell K9.out 5).trans rfl; have q6 := (blk_cell K9.out 6).trans rfl; have q7 := (blk_cell K9.out 7).trans rfl; have q8 := (blk_cell K9.out 8).trans rfl; have q9 := (blk_cell K9.out 9).trans rfl; have q10 := (blk_cell K9.out 10).trans rfl; have q11 := (blk_cell K9.out 11).trans rfl; clear ho hb9 hg9 hat hys hyl))
      have B9 := Lib.hid (B3.out.trans (HB9.out.mono B1.out.size))
      refine (HHO.out _ B9.out).mono ?_
      rintro e w10 ⟨vc, rfl, r10, b10⟩
      obtain ⟨Ac, cc, rfl⟩ := Kd.R_slice r10
      rw [HN.out]
      have C10 := Lib.hid (Kd.R_reads' r10)
      have CB := Lib.hid (Kd.C_below (Kd.R_reads' (Kd.R_kept RB.out HG9.out (fun k hk h => by have := h.2; omega))).2.2 b10)
      have B10 := Lib.hid (B9.out.trans (b10.mono B9.out.size))
      have hw1 : wrap64 ((n : Int) + 1) = (n : Int) + 1 := by have := HLen.out; have := HN.out; unfold wrap64; omega
      clear r10 b10 q0 q1 q2 q3 q4 q5 q6 q7 q8 q9 q10 q11 hr hb hkp hxl hj d0
      go_wp2
      go_loopg [10] n (fun kq v10 w' => ∃ j : Nat, v10 = .int .i64 j ∧ Aside0 (j + kq = n) ∧ Aside0 (Below w10.heap.size w10 w'))
      case atStart => exact ⟨0, rfl, ⟨by omega⟩, ⟨Below.refl _ _⟩⟩
      case round =>
        obtain ⟨j, rfl, hj, hb⟩ := hrel
        by_cases hjn : j < n
        · have d0 : decide (j < n) = true := decide_eq_true hjn
          obtain ⟨a1, hA1, t1'⟩ := Kd.at_int CB.out (j : Int) (by omega) (by have := HN.out; omega)
          obtain ⟨a2, hA2, t2'⟩ := Kd.at_int C10.out.2.2 (j : Int) (by omega) (by have := HN.out; omega)
          subst hA1
          subst hA2
          rw [Int.toNat_natCast] at t1' t2'
          have t1 := (hb.out.cell (World.block_lt_of_cell? w10 _ t1')).trans t1'
          have t2 := (hb.out.cell (World.block_lt_of_cell? w10 _ t2')).trans t2'
          obtain ⟨x, hx⟩ : ∃ x, rd H (j : Int) = x := ⟨_, rfl⟩
          rw [hx] at t1 t2
          have Hj := Lib.hid hjn
          have f1 := eq_true (show (0 : Int) ≤ (j : Int) by omega)
          have f2 : ((j : Int) < (n : Int)) = True := eq_true (by omega)
          have f3 := eq_true hjn
          have hwj : wrap64 ((j : Int) + 1) = ((j + 1 : Nat) : Int) := by have := hjn; have := HLen.out; have := HN.out; unfold wrap64; omega
          clear t1' t2' hx hjn
          go_wp2
          go_quiet (fail)
          go_wp2
          go_roundg (gk - 1)
          case measure => have := hj.out; have := Hj.out; omega
          case rel => exact ⟨j + 1, by first | rfl | simp [hwj], ⟨by have := hj.out; have := Hj.out; omega⟩, ⟨pw_below_drewN hb.out _⟩⟩
        · have d0 : decide (j < n) = false := decide_eq_false hjn
          have B11 := Lib.hid (B10.out.trans (hb.out.mono B10.out.size))
          clear hjn
          go_wp2
          go_ret
          exact ⟨by simp, by first | exact B11.out | exact pw_below_drewN B11.out _⟩
end
set_option maxRecDepth 100000 in
theorem VerifyKeeps_row {H : Type} {enc : TypeId × Value → H} {base : Nat} {d : DataW H} {p : List MemPlace} (v : Value) (W : World) (hL : laidMetH Tryd.prog laid2 W) (hval : Value.okWide Tryd.prog W .any base 38 v)
    (h : DataW.Trod enc Tryd.prog W 0 (fun _ => true) true 38 v d p) (y : ∀ n ∈ DataW.weights Tryd.prog 38 d, n ≤ reachBytes) :
    Calls Tryd.prog 5 #[v] W fun e w' => e = .returned (.bool true) ∧ Below W.heap.size W w' := by
  obtain ⟨q, e, h1, h2, rfl⟩ := prog_arg hval h y
  obtain ⟨hF, hT⟩ := of_laid hL
  exact keeps_calls h1 hF hT h2
end Go.Proofs.YtdgljnidkhfgpaaDoor
