/-
  The verifier's check: what it answers.
-/
import Derived.Test.YtdgljnidkhfgpaaDoorVerStep6
import Derived.Test.YtdgljnidkhfgpaaDoorVerHead2
namespace Go.Proofs.YtdgljnidkhfgpaaDoor
set_option linter.unusedVariables false
set_option linter.unusedSimpArgs false
open Go.RowKit Go.Proofs.YtdgljnidkhfgpaaDoor.XVer Go.Proofs.YtdgljnidkhfgpaaDoorW.PrintWords Go.Proofs.YtdgljnidkhfgpaaDoorW.PrintLast Go.Proofs.YtdgljnidkhfgpaaDoorW.PrintMore

/-- All instructions from one on: the first that is wrong, or the places at the end. -/
def runP (p : Pg) : Nat → Nat → List Pl → Sum Nat (List Pl)
  | 0, _, P => .inr P
  | k + 1, i, P => if (stepP p P i).1 = true then runP p k (i + 1) (stepP p P i).2 else .inl i
def startP (n : Nat) : List Pl := (List.replicate n Pl.z).set 0 ⟨0, 0, true⟩
def checkP (p : Pg) : Sum Nat (List Pl) := if headB p = true then runP p p.code.length 0 (startP p.code.length) else .inl 0
theorem startP_few (n : Nat) : Few (startP n) := by
  intro x hx
  rcases List.mem_or_eq_of_mem_set hx with hx | rfl
  · obtain rfl := List.eq_of_mem_replicate hx
    simp [Pl.z]
  · simp
theorem startP_len (n : Nat) : (startP n).length = n := by simp [startP]
theorem flat_set3c {α : Type} {enc : α → List Value} (hl : ∀ x, (enc x).length = 3) {a b u0 u2 : Value} {x : α} (he : enc x = [a, b, u2]) : ∀ (P : List α) (i : Nat) (y : α), P[i]? = some y → enc y = [a, b, u0] → (P.flatMap enc).set (i * 3 + 2) u2 = (P.set i x).flatMap enc
  | [], i, y, h, _ => by simp at h
  | z :: P, 0, y, h, hy => by
    simp at h
    subst h
    simp [hy, he]
  | z :: P, i + 1, y, h, hy => by
    obtain ⟨c, d, f, hc⟩ := len_three (hl z)
    have e : (i + 1) * 3 + 2 = i * 3 + 2 + 1 + 1 + 1 := by omega
    simp only [List.flatMap_cons, hc, e, List.cons_append, List.nil_append, List.set_cons_succ]
    rw [flat_set3c hl he P i y (by simpa using h) hy]
section
variable {w0 w : World} {g ga : Nat} {p : Pg} {d : Hd} {P : List Pl}
/-- A place becomes known. -/
theorem ChkAt.know (i : ChkAt w0 w g ga p d P) {j : Nat} (hj : j < P.length) (b : Bool) : ChkAt w0 (w.setCell ⟨ga, j * 3 + 2, none⟩ (.bool b)) g ga p d (P.set j ⟨(P.getD j Pl.z).h, (P.getD j Pl.z).t, b⟩) := by
  have hne : ¬ g = ga := i.ne
  refine ⟨?_, ?_, i.gb, i.ab, i.ne, i.pg, ?_⟩
  · rw [List.length_set]
    exact blk_far (p := ⟨ga, j * 3 + 2, none⟩) i.hb hne _
  · have h1 := blk_set i.ha (j * 3 + 2) (.bool b)
    rw [h1]
    congr 2
    unfold cellsOf
    rw [List.setIfInBounds_toArray]
    congr 1
    have h0 : P[j]? = some (P.getD j Pl.z) := by rw [List.getD_eq_getElem?_getD, List.getElem?_eq_getElem hj]; rfl
    exact flat_set3c encP_len (show encP ⟨(P.getD j Pl.z).h, (P.getD j Pl.z).t, b⟩ = [.int .i64 (P.getD j Pl.z).h, .int .i64 (P.getD j Pl.z).t, .bool b] from rfl) P j _ h0 (u0 := .bool (P.getD j Pl.z).k) rfl
  · exact i.bel.setCell (p := ⟨ga, j * 3 + 2, none⟩) i.ab _
end
theorem infoPlace : (Tryd.prog.info? 73).map (fun i => (i.zero, i.size, i.bytes)) = some (some (.agg #[.int .i64 0, .int .i64 0, .bool false]), 3, 24) := by kernel_rfl
theorem makePlaces (c : Nat) (hc : c * 24 ≤ 281474976710656) (W : World) : (Instr.makeSlice 67 (.int .i64 (c : Int)) (.int .i64 (c : Int))).run Tryd.prog W = .ok (.slice (some ⟨W.heap.size, 0, none⟩) c c) (W.alloc (.cells (cellsOf encP (List.replicate c Pl.z)) 73)) := by
  obtain ⟨i0, hi, hzz⟩ := Option.map_eq_some_iff.1 infoPlace
  simp only [Prod.mk.injEq] at hzz
  obtain ⟨hz0, hz1, hz2⟩ := hzz
  have h := run_make (P := Tryd.prog) W 67 73 i0 (.agg #[.int .i64 0, .int .i64 0, .bool false]) Tryd.underlying67 hi hz0 .i64 .i64 (c : Int) (c : Int) (by omega) (by omega) (by rw [hz2]; omega) (by omega)
  have e := cells_made (enc := encP) (zc := #[.int .i64 0, .int .i64 0, .bool false]) (z := Pl.z) rfl (by decide) c
  rw [show (#[Value.int .i64 0, .int .i64 0, .bool false] : Array Value).size = 3 from rfl] at e
  rw [← e]
  simpa [hz1, Value.cells] using h
/-- What check answers. -/
def CheckPost (p : Pg) (w : World) (e : Ending) (w' : World) : Prop := Below w.heap.size w w' ∧
  ((∃ i, checkP p = .inl i ∧ e = .returned (.tuple #[.slice none 0 0, .int .i64 (i : Int), .int .i64 41])) ∨
    ∃ (P : List Pl) (ga : Nat), checkP p = .inr P ∧ headB p = true ∧ P.length = p.code.length ∧ e = .returned (.tuple #[.slice (some ⟨ga, 0, none⟩) P.length P.length, .int .i64 0, .int .i64 0]) ∧ w'.heap[ga]? = some (.cells (cellsOf encP P) 73 (0, 0)) ∧ w.heap.size ≤ ga)
section
variable {w : World} {p : Pg} {d : Hd}
set_option maxHeartbeats 8000000 in
set_option maxRecDepth 100000 in
theorem check_calls (hp : PgIn w p d) (hF : FieldsAt w) (hT : TabAt w) (hA : ∀ x ∈ p.code, -9223372036854775808 ≤ x.f1 ∧ x.f1 ≤ 9223372036854775807) :
    Calls Tryd.prog 18 #[.agg #[.int .i64 p.m, .int .i64 p.r0, .int .i64 p.r1, .int .i64 p.r2, .int .i64 p.r3, .int .i64 p.r4, .slice d.a6 p.consts.length d.c6, .slice d.a7 p.wins.length d.c7, .slice d.a8 p.crons.length d.c8, .int .i64 p.locals, .int .i64 p.height, .slice d.a11 p.code.length d.c11]] w (CheckPost p w) := by
  have HP := Lib.hid hp
  have HF := Lib.hid hF
  have HT := Lib.hid hT
  have HA := Lib.hid hA
  have HLT := Lib.hid (show 1 < w.heap.size from World.block_lt_of_cell? w _ (hF 0 (by decide)).1)
  clear hp hF hT hA
  obtain ⟨hb, hhb⟩ : ∃ b, headB p = b := ⟨_, rfl⟩
  have HHB := Lib.hid hhb
  clear hhb
  obtain ⟨wb, hwb⟩ : ∃ wb, w.alloc (.cells #[.int .i64 p.m, .int .i64 p.r0, .int .i64 p.r1, .int .i64 p.r2, .int .i64 p.r3, .int .i64 p.r4, .slice d.a6 p.consts.length d.c6, .slice d.a7 p.wins.length d.c7, .slice d.a8 p.crons.length d.c8, .int .i64 p.locals, .int .i64 p.height, .slice d.a11 p.code.length d.c11] 38) = wb := ⟨_, rfl⟩
  have HBB := Lib.hid (show Below w.heap.size w wb by rw [← hwb]; exact below_alloc (Below.refl _ w) _)
  have KB := Lib.hid (show wb.heap[w.heap.size]? = some (.cells #[.int .i64 p.m, .int .i64 p.r0, .int .i64 p.r1, .int .i64 p.r2, .int .i64 p.r3, .int .i64 p.r4, .slice d.a6 p.consts.length d.c6, .slice d.a7 p.wins.length d.c7, .slice d.a8 p.crons.length d.c8, .int .i64 p.locals, .int .i64 p.height, .slice d.a11 p.code.length d.c11] 38 (0, 0)) by rw [← hwb]; exact blk_new _ _)
  have HWB := Lib.hid hwb
  clear hwb
  go_enter Tryd.func18, Tryd.ntmps18
  go_wp2_with fail
  rw [HWB.out]
  refine (head_calls (HP.out.below HBB.out) (HF.out.below HBB.out HLT.out)).mono ?_
  rintro e w1 ⟨rfl, b1⟩
  rw [HHB.out]
  have B1 := Lib.hid (HBB.out.trans (b1.mono HBB.out.size))
  have KB1 := Lib.hid (blk_below KB.out b1)
  clear b1
  cases hb with
  | false =>
    go_wp2
    go_ret3
    exact ⟨B1.out, .inl ⟨0, by unfold checkP; rw [if_neg (by rw [HHB.out]; decide)], by simp⟩⟩
  | true =>
    have HBD := Lib.hid (show Bounds p by have := HHB.out; unfold headB at this; simp at this; exact this.1.1)
    obtain ⟨n, hn⟩ : ∃ n, p.code.length = n := ⟨_, rfl⟩
    have HN := Lib.hid hn
    have HNB := Lib.hid (show 1 ≤ n ∧ n ≤ 16384 by have := HBD.out; unfold Bounds at this; omega)
    have hmk := makePlaces n (by have := HNB.out; omega)
    have kb1 := KB1.out
    rw [hn] at kb1
    have q0 := (blk_cell kb1 0).trans rfl
    have q1 := (blk_cell kb1 1).trans rfl
    have q2 := (blk_cell kb1 2).trans rfl
    have q3 := (blk_cell kb1 3).trans rfl
    have q4 := (blk_cell kb1 4).trans rfl
    have q5 := (blk_cell kb1 5).trans rfl
    have q6 := (blk_cell kb1 6).trans rfl
    have q7 := (blk_cell kb1 7).trans rfl
    have q8 := (blk_cell kb1 8).trans rfl
    have q9 := (blk_cell kb1 9).trans rfl
    have q10 := (blk_cell kb1 10).trans rfl
    have q11 := (blk_cell kb1 11).trans rfl
    clear kb1 hn
    have z0 := World.new_ne w1 _ q0
    have z1 := World.new_ne w1 _ q1
    have z2 := World.new_ne w1 _ q2
    have z3 := World.new_ne w1 _ q3
    have z4 := World.new_ne w1 _ q4
    have z5 := World.new_ne w1 _ q5
    have z6 := World.new_ne w1 _ q6
    have z7 := World.new_ne w1 _ q7
    have z8 := World.new_ne w1 _ q8
    have z9 := World.new_ne w1 _ q9
    have z10 := World.new_ne w1 _ q10
    have z11 := World.new_ne w1 _ q11
    go_wp2
    first
      | go_region_held3 (fun w' => w'.cell? ⟨w.heap.size, 0, none⟩ = some (.int .i64 p.m) ∧ w'.cell? ⟨w.heap.size, 1, none⟩ = some (.int .i64 p.r0) ∧ w'.cell? ⟨w.heap.size, 2, none⟩ = some (.int .i64 p.r1) ∧ w'.cell? ⟨w.heap.size, 3, none⟩ = some (.int .i64 p.r2) ∧ w'.cell? ⟨w.heap.size, 4, none⟩ = some (.int .i64 p.r3) ∧ w'.cell? ⟨w.heap.size, 5, none⟩ = some (.int .i64 p.r4) ∧ w'.cell? ⟨w.heap.size, 6, none⟩ = some (.slice d.a6 p.consts.length d.c6) ∧ w'.cell? ⟨w.heap.size, 7, none⟩ = some (.slice d.a7 p.wins.length d.c7) ∧ w'.cell? ⟨w.heap.size, 8, none⟩ = some (.slice d.a8 p.crons.length d.c8) ∧ w'.cell? ⟨w.heap.size, 9, none⟩ = some (.int .i64 p.locals) ∧ w'.cell? ⟨w.heap.size, 10, none⟩ = some (.int .i64 p.height) ∧ w'.cell? ⟨w.heap.size, 11, none⟩ = some (.slice d.a11 n d.c11)) (go_keep) (fail)
      | fail
    have HC := Lib.hid (show ChkAt w ((w1.alloc (.cells (cellsOf encP (List.replicate n Pl.z)) 73)).alloc (.cells #[.int .i64 p.m, .int .i64 p.r0, .int .i64 p.r1, .int .i64 p.r2, .int .i64 p.r3, .int .i64 p.r4, .slice d.a6 p.consts.length d.c6, .slice d.a7 p.wins.length d.c7, .slice d.a8 p.crons.length d.c8, .int .i64 p.locals, .int .i64 p.height, .slice d.a11 n d.c11, .slice (some ⟨w1.heap.size, 0, none⟩) n n] 93)).drew (w1.heap.size + 1) w1.heap.size p d (List.replicate n Pl.z) from by
      have hs := B1.out.size
      refine ⟨?_, ?_, by omega, hs, by omega, HP.out, ?_⟩
      · rw [List.length_replicate, HN.out]
        have kb := blk_new (w1.alloc (.cells (cellsOf encP (List.replicate n Pl.z)) 73)) (.cells #[.int .i64 p.m, .int .i64 p.r0, .int .i64 p.r1, .int .i64 p.r2, .int .i64 p.r3, .int .i64 p.r4, .slice d.a6 p.consts.length d.c6, .slice d.a7 p.wins.length d.c7, .slice d.a8 p.crons.length d.c8, .int .i64 p.locals, .int .i64 p.height, .slice d.a11 n d.c11, .slice (some ⟨w1.heap.size, 0, none⟩) n n] 93)
        rw [World.size_alloc] at kb
        exact kb
      · have kb := blk_new w1 (.cells (cellsOf encP (List.replicate n Pl.z)) 73)
        exact blk_below kb (below_drew (below_alloc (Below.refl _ _) _))
      · exact below_drew (below_alloc (below_alloc B1.out _) _))
    obtain ⟨w2, hw2⟩ : ∃ w2, ((w1.alloc (.cells (cellsOf encP (List.replicate n Pl.z)) 73)).alloc (.cells #[.int .i64 p.m, .int .i64 p.r0, .int .i64 p.r1, .int .i64 p.r2, .int .i64 p.r3, .int .i64 p.r4, .slice d.a6 p.consts.length d.c6, .slice d.a7 p.wins.length d.c7, .slice d.a8 p.crons.length d.c8, .int .i64 p.locals, .int .i64 p.height, .slice d.a11 n d.c11, .slice (some ⟨w1.heap.size, 0, none⟩) n n] 93)).drew = w2 := ⟨_, rfl⟩
    have HB2 := Lib.hid (show Below w1.heap.size w1 ((w1.alloc (.cells (cellsOf encP (List.replicate n Pl.z)) 73)).alloc (.cells #[.int .i64 p.m, .int .i64 p.r0, .int .i64 p.r1, .int .i64 p.r2, .int .i64 p.r3, .int .i64 p.r4, .slice d.a6 p.consts.length d.c6, .slice d.a7 p.wins.length d.c7, .slice d.a8 p.crons.length d.c8, .int .i64 p.locals, .int .i64 p.height, .slice d.a11 n d.c11, .slice (some ⟨w1.heap.size, 0, none⟩) n n] 93)).drew from below_drew (below_alloc (below_alloc (Below.refl _ _) _) _))
    rw [hw2] at HC HB2
    simp only [hw2]
    have hcs := HC.out.cell (j := 0) (by rw [List.length_replicate]; exact HNB.out.1)
    have hck := HC.out.know (j := 0) (by rw [List.length_replicate]; exact HNB.out.1) true
    have e0 : (List.replicate n Pl.z).getD 0 Pl.z = Pl.z := by rw [List.getD_eq_getElem?_getD, List.getElem?_eq_getElem (by rw [List.length_replicate]; exact HNB.out.1)]; simp
    rw [e0] at hck
    have HK := Lib.hid (show ChkAt w (w2.setCell ⟨w1.heap.size, 0 * 3 + 2, none⟩ (.bool true)) (w1.heap.size + 1) w1.heap.size p d (startP n) from hck)
    have c12 := (blk_cell HC.out.hb 12).trans rfl
    rw [List.length_replicate] at c12
    obtain ⟨c0, c1, c2⟩ := hcs
    rw [e0] at c0 c1 c2
    have l1 : (0 : Int) < (n : Int) := by have := HNB.out; omega
    have HLW := World.block_lt_of_cell? w1 _ q11
    have c11 := (HB2.out.cell (p := ⟨w.heap.size, 11, none⟩) HLW).trans q11
    have n1 : ¬ w.heap.size = w1.heap.size := by have : w.heap.size < w1.heap.size := HLW; omega
    have n2 : ¬ w1.heap.size = w.heap.size := fun h => n1 h.symm
    have g2 := blk_frozen HC.out.ha 2
    have HRUN := Lib.hid (show checkP p = runP p n 0 (startP n) by unfold checkP; rw [if_pos HHB.out, HN.out])
    have BH2 := HB2.out.size
    clear hck e0 HLW
    go_wp2
    obtain ⟨w3, hw3⟩ : ∃ w3, w2.setCell ⟨w1.heap.size, 2, none⟩ (.bool true) = w3 := ⟨_, rfl⟩
    have HK' := Lib.hid (show ChkAt w w3 (w1.heap.size + 1) w1.heap.size p d (startP n) by rw [← hw3]; exact HK.out)
    simp only [hw3]
    clear HK hw3 c0 c1 c2 c11 c12 n1 n2 g2 q0 q1 q2 q3 q4 q5 q6 q7 q8 q9 q10 q11 z0 z1 z2 z3 z4 z5 z6 z7 z8 z9 z10 z11 l1
    go_loopg [6, 26] n (fun kq v6 v26 w' => ∃ (i : Nat) (P : List Pl), v26 = .int .i64 i ∧ Aside0 (i + kq = n) ∧ Aside0 (ChkAt w w' (w1.heap.size + 1) w1.heap.size p d P ∧ P.length = n ∧ Few P ∧ runP p n 0 (startP n) = runP p kq i P))
    case atStart => exact ⟨0, startP n, rfl, ⟨by omega⟩, ⟨HK'.out, startP_len n, startP_few n, rfl⟩⟩
    case round =>
      clear HK'
      obtain ⟨i, P, rfl, hk, hI⟩ := hrel
      by_cases hi : i < n
      · have c0 : decide (i < n) = true := decide_eq_true hi
        have Hi := Lib.hid hi
        have HSt := Lib.hid (step_calls hI.out.1 (by rw [hI.out.2.1]; exact hi) (hI.out.2.1.trans HN.out.symm) (by rw [hI.out.2.1]; exact HNB.out.2) (HT.out.below hI.out.1.bel (by have := HLT.out; omega)) (by have := HBD.out; unfold Bounds at this; omega) hI.out.2.2.1 HA.out)
        have HFs := Lib.hid (Few.step (p := p) (n := i) hI.out.2.2.1 (by have := HBD.out; unfold Bounds at this; omega))
        have HLs := Lib.hid ((stepP_len p P i).trans hI.out.2.1)
        have HRs := Lib.hid hI.out.2.2.2
        obtain ⟨b, hb⟩ : ∃ b, (stepP p P i).1 = b := ⟨_, rfl⟩
        have HB := Lib.hid hb
        have e1 := eq_true (show (0 : Int) ≤ (i : Int) by omega)
        have hwr : wrap64 ((i : Int) + 1) = ((i + 1 : Nat) : Int) := by have := HNB.out; unfold wrap64; omega
        clear hi hI hb
        cases b with
        | true =>
          go_wp2_with fail
          refine HSt.out.mono ?_
          rintro e w4 ⟨rfl, i4⟩
          rw [HB.out]
          have I4 := Lib.hid i4
          clear i4
          go_wp2
          go_roundg (gk - 1)
          case measure => have := hk.out; have := Hi.out; omega
          case rel =>
            refine ⟨i + 1, (stepP p P i).2, by first | rfl | simp [hwr], ⟨by have := hk.out; have := Hi.out; omega⟩, ⟨I4.out, HLs.out, HFs.out, ?_⟩⟩
            rw [HRs.out]
            obtain ⟨m, hm⟩ : ∃ m, gk = m + 1 := ⟨gk - 1, by have := hk.out; have := Hi.out; omega⟩
            rw [hm, Nat.add_sub_cancel, runP, if_pos HB.out]
        | false =>
          go_wp2_with fail
          refine HSt.out.mono ?_
          rintro e w4 ⟨rfl, i4⟩
          rw [HB.out]
          have I4 := Lib.hid i4
          clear i4
          go_wp2
          go_ret3
          refine ⟨I4.out.bel, .inl ⟨i, ?_, by simp⟩⟩
          rw [HRUN.out, HRs.out]
          obtain ⟨m, hm⟩ : ∃ m, gk = m + 1 := ⟨gk - 1, by have := hk.out; have := Hi.out; omega⟩
          rw [hm, runP, if_neg (by rw [HB.out]; decide)]
      · have c0 : decide (i < n) = false := decide_eq_false hi
        have hgk : gk = 0 := by have := hk.out; omega
        have c12 := (blk_cell hI.out.1.hb 12).trans rfl
        have HII := Lib.hid hI.out
        have Hgk := Lib.hid hgk
        clear hi hI hgk
        go_wp2
        go_ret3
        refine ⟨HII.out.1.bel, .inr ⟨P, w1.heap.size, ?_, HHB.out, HII.out.2.1.trans HN.out.symm, by simp, HII.out.1.ha, B1.out.size⟩⟩
        rw [HRUN.out, HII.out.2.2.2, Hgk.out, runP]
end
end Go.Proofs.YtdgljnidkhfgpaaDoor
