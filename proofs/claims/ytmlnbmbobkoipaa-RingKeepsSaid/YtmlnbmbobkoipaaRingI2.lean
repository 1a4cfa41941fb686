/-
  What the functions of package ring do to a ring of int64 that lies in memory: grow.
-/
import Derived.Test.YtmlnbmbobkoipaaRingI1
import Derived.Test.YtmlnbmbobkoipaaMonoFns3
namespace Go.Proofs.Ytmlnbmbobkoipaa
open Go.RowKit Go.Proofs.YtmlnbmbobkoipaaW.PrintWords Go.Proofs.YtmlnbmbobkoipaaW.PrintLast Go.Proofs.YtmlnbmbobkoipaaW.PrintMore

set_option maxRecDepth 100000 in
theorem ringI_grow_no {w : World} {g : Nat} {ok : Nat → Prop} {room : Int} {f n : Nat} {P : List Int} (h : RingAtI w g ok room f n P) (hn : n < P.length) :
    Calls Try.prog 45 #[.pointer (some ⟨g, 0, none⟩)] w fun e w' => e = .returned (.tuple #[]) ∧ Below w.heap.size w w' := by
  obtain ⟨A, hb, hq⟩ := h.ex
  have c2 := (blk_cell hb 2).trans rfl
  have c3 := (blk_cell hb 3).trans rfl
  have d1 : decide (n < P.length) = true := decide_eq_true hn
  have d2 : decide ((n : Int) < (P.length : Int)) = true := decide_eq_true (by omega)
  clear h hb hq hn
  go_enter Try.func45, Try.ntmps45
  go_wp2
  go_quiet (fail)
  go_wp2
  refine bodyPost_ret (results_none rfl _ _ _) rfl ?_
  exact ⟨rfl, pw_below_drewN (Below.refl _ _) _⟩
theorem ringI_make (c : Nat) (hc : c * 8 ≤ 281474976710656) (W : World) : (Instr.makeSlice 22 (.int .i64 (c : Int)) (.int .i64 (c : Int))).run Try.prog W = .ok (.slice (some ⟨W.heap.size, 0, none⟩) c c) (W.alloc (.cells (cellsOf encI (List.replicate c 0)) 2)) := by
  obtain ⟨i0, hi, hzz⟩ := Option.map_eq_some_iff.1 info64
  simp only [Prod.mk.injEq] at hzz
  obtain ⟨hz0, hz1, hz2⟩ := hzz
  have h := run_make (P := Try.prog) W 22 2 i0 (.int .i64 0) Try.underlying22 hi hz0 .i64 .i64 (c : Int) (c : Int) (by omega) (by omega) (by rw [hz2]; omega) (by omega)
  have e := cells_made (enc := encI) (zc := #[.int .i64 0]) (z := 0) rfl (by decide) c
  rw [show (#[Value.int .i64 0] : Array Value).size = 1 from rfl, Nat.mul_one] at e
  rw [← e]
  simpa [hz1, Value.cells] using h

set_option maxHeartbeats 4000000 in
set_option maxRecDepth 100000 in
theorem ringI_grow_yes {w : World} {g : Nat} {ok : Nat → Prop} {room : Int} {f n : Nat} {P : List Int} (h : RingAtI w g ok room f n P) (ho : RingOk room f n P.length) (hn : n = P.length) (hr : (n : Int) < room) :
    Calls Try.prog 45 #[.pointer (some ⟨g, 0, none⟩)] w fun e w' => e = .returned (.tuple #[]) ∧ Below 0 w w' ∧ Kept w w' (fun k => k = g) ∧ ∃ Q : List Int,
      RingAtI w' g (fun k => ok k ∨ w.heap.size ≤ k) room 0 n Q ∧ RingOk room 0 n Q.length ∧ n < Q.length ∧ view 0 Q 0 n = view 0 P f n := by
  have hmm := ho.room_
  have hmx := ho.most
  obtain ⟨A, hb, hq⟩ := h.ex
  have c0 := (blk_cell hb 0).trans rfl
  have c1 := (blk_cell hb 1).trans rfl
  have c2 := (blk_cell hb 2).trans rfl
  have c3 := (blk_cell hb 3).trans rfl
  have d1 : decide (n < P.length) = false := decide_eq_false (by omega)
  have d2 : decide ((n : Int) < (P.length : Int)) = false := decide_eq_false (by omega)
  have hmul : IntKind.i64.wrap (2 * (P.length : Int)) = 2 * (P.length : Int) := by rw [i64_w]; unfold wrap64; omega
  have hadd : IntKind.i64.wrap (2 * (P.length : Int) + 4) = 2 * (P.length : Int) + 4 := by rw [i64_w]; unfold wrap64; omega
  obtain ⟨M, hM⟩ : ∃ M : Nat, (if 2 * (P.length : Int) + 4 < room then 2 * (P.length : Int) + 4 else room) = (M : Int) := by
    split
    · exact ⟨2 * P.length + 4, by omega⟩
    · exact ⟨room.toNat, by omega⟩
  have HM := Lib.hid (show n < M ∧ (M : Int) ≤ room by
    rw [← hM]
    split <;> omega)
  have hmk := ringI_make M (by omega)
  have hlt := Lib.hid h.lt
  have HB := Lib.hid hb
  have HQ := Lib.hid hq
  have HH := Lib.hid h
  have HO := Lib.hid ho
  have HN := Lib.hid hn
  have HR := Lib.hid hr
  clear h ho hb hq hn hr hmm hmx
  go_enter Try.func45, Try.ntmps45
  go_wp2
  go_quiet (fail)
  go_wp2
  refine still_tail 12 (by kernel_rfl) (by kernel_rfl) ?_
  simp only [List.take_succ_cons, List.take_zero, List.drop_succ_cons, List.drop_zero]
  repeat still_step
  refine wpStill_nil ?_
  obtain ⟨w2, hw2⟩ : ∃ w2, w2 = (w.drewN nq).drew := ⟨_, rfl⟩
  rw [← hw2]
  have q1 : w2.cell? ⟨g, 1, none⟩ = some (.int .i64 f) := by rw [hw2]; exact c1
  have q2 : w2.cell? ⟨g, 2, none⟩ = some (.int .i64 n) := by rw [hw2]; exact c2
  have q3 : w2.cell? ⟨g, 3, none⟩ = some (.slice A P.length P.length) := by rw [hw2]; exact c3
  have B2 := Lib.hid (show Below w.heap.size w w2 by rw [hw2]; exact below_drew (pw_below_drewN (Below.refl _ _) _))
  have S2 := Lib.hid (show w2.heap.size = w.heap.size by rw [hw2]; rfl)
  have hne : ¬ g = w2.heap.size := by have := S2.out; have := hlt.out; omega
  have hne2 : ¬ w2.heap.size = g := fun e => hne e.symm
  have hlt2 : g < w2.heap.size := by have := S2.out; have := hlt.out; omega
  clear hmul hadd d1 d2 hw2 c0 c1 c2 c3
  go_wp2
  go_loopg [3, 31] n (fun kq v3 v31 w' => ∃ (i : Nat) (Q : List Int), v31 = .int .i64 i ∧ Aside0 (i + kq = n) ∧ Aside0 (Q.length = M ∧ ∀ j, j < i → Q.getD j 0 = P.getD ((f + j) % P.length) 0) ∧ Aside0 (w'.heap[w2.heap.size]? = some (.cells (cellsOf encI Q) 2 (0, 0))) ∧ Aside0 (Below w2.heap.size w2 w'))
  case atStart => exact ⟨0, List.replicate M 0, rfl, ⟨by omega⟩, ⟨by simp, fun j hj => by omega⟩, ⟨blk_new _ _⟩, ⟨below_alloc (Below.refl _ _) _⟩⟩
  case round =>
    obtain ⟨i, Q, rfl, hk, hQ, hbq, hbel⟩ := hrel
    clear hmk q1 q2 q3 hne hne2 hM
    have hlt3 : g < w2.heap.size := hlt2
    clear hlt2
    by_cases hi : i < n
    · obtain ⟨hh, rfl, hok, hq⟩ : ∃ h, A = some ⟨h, 0, none⟩ ∧ ok h ∧ w.heap[h]? = some (.cells (cellsOf encI P) 2 (0, 0)) := by
        rcases HQ.out with ⟨hp, _⟩ | hq
        · have := HN.out
          rw [hp] at this
          simp at this
          omega
        · exact hq
      have hf := (HO.out.at_ : f < P.length ∨ P.length = 0 ∧ f = 0)
      have hn := HN.out
      obtain ⟨q, hqq⟩ : ∃ q, (f + i) % P.length = q := ⟨_, rfl⟩
      have hql : q < P.length := hqq ▸ Nat.mod_lt _ (by omega)
      have hmx := HO.out.most
      have hmm := HO.out.room_
      have hM := HM.out
      have c1 : wr.cell? ⟨g, 1, none⟩ = some (.int .i64 f) := (hbel.out.cell (p := ⟨g, 1, none⟩) hlt3).trans ((B2.out.cell (p := ⟨g, 1, none⟩) hlt.out).trans ((blk_cell HB.out 1).trans rfl))
      have c3 : wr.cell? ⟨g, 3, none⟩ = some (.slice (some ⟨hh, 0, none⟩) P.length P.length) := (hbel.out.cell (p := ⟨g, 3, none⟩) hlt3).trans ((B2.out.cell (p := ⟨g, 3, none⟩) hlt.out).trans ((blk_cell HB.out 3).trans rfl))
      have hhl := blk_lt hq
      have hhl2 : hh < w2.heap.size := by rw [S2.out]; exact hhl
      have c4 : wr.cell? ⟨hh, q, none⟩ = some (.int .i64 (P.getD q 0)) := by
        refine (hbel.out.cell (p := ⟨hh, q, none⟩) hhl2).trans ((B2.out.cell (p := ⟨hh, q, none⟩) hhl).trans ?_)
        rw [blk_cell hq q]
        have := cells_get_of (enc := encI) (j := 0) encI_len (show P[q]? = some (P.getD q 0) by rw [List.getD_eq_getElem?_getD, List.getElem?_eq_getElem hql]; rfl) (by decide)
        simpa [encI] using this
      have hiQ : i < Q.length := by have := hQ.out.1; omega
      have c5 : wr.cell? ⟨w2.heap.size, i, none⟩ = some (.int .i64 (Q.getD i 0)) := by
        rw [blk_cell hbq.out i]
        have := cells_get_of (enc := encI) (j := 0) encI_len (show Q[i]? = some (Q.getD i 0) by rw [List.getD_eq_getElem?_getD, List.getElem?_eq_getElem hiQ]; rfl) (by decide)
        simpa [encI] using this
      have f5 := blk_frozen hbq.out i
      obtain ⟨x, hx⟩ : ∃ x, P.getD q 0 = x := ⟨_, rfl⟩
      rw [hx] at c4
      have HREL := Lib.hid (show (Q.set i x).length = M ∧ ∀ j, j < i + 1 → (Q.set i x).getD j 0 = P.getD ((f + j) % P.length) 0 from ⟨by rw [List.length_set]; exact hQ.out.1, fun j hj => by
        by_cases hji : j = i
        · rw [hji, hqq, hx, List.getD_eq_getElem?_getD, List.getElem?_set_self hiQ]; rfl
        · rw [← hQ.out.2 j (by omega), List.getD_eq_getElem?_getD, List.getD_eq_getElem?_getD, List.getElem?_set_ne (fun e => hji e.symm)]⟩)
      have HSET := Lib.hid (cells_set1 (P := Q) encI_len (show encI x = [.int .i64 x] from rfl) i)
      have d0 : decide (i < n) = true := decide_eq_true hi
      have d1 : decide ((i : Int) < (n : Int)) = true := decide_eq_true (by omega)
      have e1 := eq_true (show (0 : Int) ≤ (q : Int) by omega)
      have e2 : ((q : Int) < (P.length : Int)) = True := eq_true (by omega)
      have e3 := eq_true hql
      have e4 := eq_true (show (0 : Int) ≤ (i : Int) by omega)
      have e5 : ((i : Int) < (M : Int)) = True := eq_true (by omega)
      have e6 := eq_true (show i < M by omega)
      have d5 : ¬ (P.length : Int) = 0 := by omega
      have d8 : ¬ P = [] := by rintro rfl; simp at hql
      have hr : (((f : Int) + (i : Int)).tmod (P.length : Int)) = (q : Int) := by
        rw [← hqq, ← Int.natCast_add, Int.ofNat_tmod]
      have hsum : IntKind.i64.wrap ((f : Int) + (i : Int)) = (f : Int) + (i : Int) := by rw [i64_w]; unfold wrap64; omega
      have hrw : IntKind.i64.wrap ((q : Nat) : Int) = (q : Int) := by rw [i64_w]; unfold wrap64; omega
      have HWI := Lib.hid (show wrap64 ((i : Int) + 1) = ((i + 1 : Nat) : Int) by unfold wrap64; omega)
      have HI := Lib.hid hi
      clear hi hf hn hqq hql hmx hmm hM hx hiQ hok hq hhl hhl2
      go_wp2
      refine still_tail 21 (by kernel_rfl) (by kernel_rfl) ?_
      simp only [List.take_succ_cons, List.take_zero, List.drop_succ_cons, List.drop_zero]
      repeat still_step
      refine wpStill_nil ?_
      clear hr hsum hrw e1 e2 d5
      go_wp2
      go_roundg (gk - 1)
      case measure => have := hk.out; have := HI.out; omega
      case rel =>
        refine ⟨i + 1, Q.set i x, by first | rfl | rw [HWI.out], ⟨by have := hk.out; have := HI.out; omega⟩, ⟨HREL.out⟩, ⟨?_⟩, ⟨?_⟩⟩
        · exact (blk_set hbq.out i _).trans (by rw [HSET.out])
        · exact below_drew (Below.setCell (p := ⟨w2.heap.size, i, none⟩) hbel.out (Nat.le_refl _) _)
    · have d0 : decide (i < n) = false := decide_eq_false hi
      have d1 : decide ((i : Int) < (n : Int)) = false := decide_eq_false (by omega)
      have hin : i = n := by have := hk.out; omega
      subst hin
      clear hi
      have hbg := (hbel.out.block g hlt3).trans ((B2.out.block g hlt.out).trans HB.out)
      have k1 := (blk_cell hbg 1).trans rfl
      have k3 := (blk_cell hbg 3).trans rfl
      have f1 := blk_frozen hbg 1
      have f3 := blk_frozen hbg 3
      have HG := Lib.hid hbg
      have hne : ¬ w2.heap.size = g := by omega
      clear hbg
      go_wp2
      go_end0
      have hz := S2.out
      have hbw : Below w.heap.size w wr := B2.out.trans (hbel.out.mono (by omega))
      refine ⟨rfl, ?_, ?_, Q, ⟨⟨some ⟨w2.heap.size, 0, none⟩, ?_, .inr ⟨w2.heap.size, rfl, .inr (by omega), ?_⟩⟩, ?_, ?_⟩, ⟨?_, ?_, ?_, HO.out.most⟩, ?_, ?_⟩
      · exact Below.setCell (p := ⟨g, 1, none⟩) (Below.setCell (p := ⟨g, 3, none⟩) (hbw.mono (Nat.zero_le _)) (Nat.zero_le _) _) (Nat.zero_le _) _
      · exact Kept.setCell (S := fun k => k = g) (p := ⟨g, 1, none⟩) (Kept.setCell (S := fun k => k = g) (p := ⟨g, 3, none⟩) (Kept.of_below hbw _) (.inl rfl) _) (.inl rfl) _
      · rw [hQ.out.1]
        exact four_set1 (four_set3 HG.out _) _
      · exact blk_far (p := ⟨g, 1, none⟩) (blk_far (p := ⟨g, 3, none⟩) hbq.out hne _) hne _
      · rintro k (hk | hk)
        · exact HH.out.away k hk
        · have := hlt.out; omega
      · have := blk_lt HG.out
        simpa using this
      · have := hQ.out.1; have := HM.out; omega
      · have := hQ.out.1; have := HM.out; omega
      · have := hQ.out.1; have := HM.out; omega
      · have := hQ.out.1; have := HM.out; omega
      · exact view_grow 0 (by have := hQ.out.1; have := HM.out; omega) hQ.out.2
end Go.Proofs.Ytmlnbmbobkoipaa
