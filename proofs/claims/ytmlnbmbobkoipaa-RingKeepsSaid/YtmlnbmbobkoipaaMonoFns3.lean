/-
  What the function Kept of package mono answers: a new list of the kept numbers.
-/
import Derived.Test.YtmlnbmbobkoipaaMonoFns
namespace Go.Proofs.Ytmlnbmbobkoipaa
open Go.RowKit Go.Proofs.Ytmlnbmbobkoipaa.XMono Go.Proofs.YtmlnbmbobkoipaaW.PrintWords Go.Proofs.YtmlnbmbobkoipaaW.PrintLast Go.Proofs.YtmlnbmbobkoipaaW.PrintMore

theorem info64 : (Try.prog.info? 2).map (fun i => (i.zero, i.size, i.bytes)) = some (some (.int .i64 0), 1, 8) := by kernel_rfl
theorem make_run (c : Nat) (hc : c * 8 ≤ 281474976710656) (W : World) : (Instr.makeSlice 22 (.int .i64 0) (.int .i64 (c : Int))).run Try.prog W = .ok (.slice (some ⟨W.heap.size, 0, none⟩) 0 c) (W.alloc (.cells (madeCells #[.int .i64 0] c) 2)) := by
  obtain ⟨i0, hi, hzz⟩ := Option.map_eq_some_iff.1 info64
  simp only [Prod.mk.injEq] at hzz
  obtain ⟨hz0, hz1, hz2⟩ := hzz
  have h := run_make (P := Try.prog) W 22 2 i0 (.int .i64 0) Try.underlying22 hi hz0 .i64 .i64 0 (c : Int) (by decide) (by omega) (by rw [hz2]; omega) (by omega)
  simpa [hz1, Value.cells] using h
theorem make_own (c : Nat) (hc : c * 8 ≤ 281474976710656) (W : World) : Kd.R (Kd.int .i64) 2 (W.alloc (.cells (madeCells #[.int .i64 0] c) 2)) W.heap.size (fun _ => True) (.slice (some ⟨W.heap.size, 0, none⟩) 0 c) [] := by
  refine ⟨fun _ _ => trivial, [], ⟨rfl, .inr ⟨W.heap.size, c, _, rfl, Nat.le_refl _, blk_new W _, Nat.zero_le _, ?_, ?_, rfl⟩⟩, ⟨rfl, fun j p hj => by simp at hj⟩⟩
  · simp only [maxLen]; omega
  · show (madeCells #[Value.int .i64 0] c).size = c * 1
    simp [size_madeCells]

set_option maxHeartbeats 8000000 in
set_option maxRecDepth 100000 in
theorem mono_kept {w : World} {g : Nat} {ok : Nat → Prop} {high : Bool} {come left : Int} {K : List S80} (h : MonoAt w g ok high come left K) (hl : K.length * 16 ≤ 140737488355328) :
    Calls Try.prog 14 #[.pointer (some ⟨g, 0, none⟩)] w fun e w' => ∃ v, e = .returned v ∧ Kd.R (Kd.int .i64) 2 w' w.heap.size (fun _ => True) v (K.map (·.f0)) ∧ Below w.heap.size w w' := by
  obtain ⟨A, c, hb, hq⟩ := h.ex
  have c3 := (blk_cell hb 3).trans rfl
  have HQ := Lib.hid hq
  have HB := Lib.hid hb
  have HL := Lib.hid hl
  have HH := Lib.hid h
  have hmk := make_run K.length (by omega)
  have hlt := h.lt
  have hne : ¬ g = w.heap.size := by omega
  have hne2 : ¬ w.heap.size = g := by omega
  clear hb hq hl h
  go_enter Try.func14, Try.ntmps14
  go_wp2
  go_loopg [3, 19] K.length (fun kq v3 v19 w' => ∃ i : Nat, v19 = .int .i64 i ∧ Aside0 (i + kq = K.length) ∧ Aside0 (Kd.R (Kd.int .i64) 2 w' w.heap.size (fun _ => True) v3 ((K.take i).map (·.f0))) ∧ Aside0 (Below w.heap.size w w'))
  case atStart => exact ⟨0, rfl, ⟨by omega⟩, ⟨make_own K.length (by have := HL.out; omega) w⟩, ⟨below_alloc (Below.refl _ _) _⟩⟩
  case round =>
    obtain ⟨i, rfl, hk, hr, hb⟩ := hrel
    clear hmk c3 hne hne2 hlt
    by_cases hi : i < K.length
    · have hd : decide (i < K.length) = true := decide_eq_true hi
      obtain ⟨ad, rfl, r0', r1'⟩ := at_T80 (Kd.Q_reads' HQ.out).2.2 (i : Int) (by omega) (by omega)
      rw [Int.toNat_natCast] at r0' r1'
      have r0 := (hb.out.cell (World.block_lt_of_cell? w _ r0')).trans r0'
      have r1 := (hb.out.cell (World.block_lt_of_cell? w _ r1')).trans r1'
      have f1 := eq_true (show (0 : Int) ≤ (i : Int) by omega)
      have f2 : ((i : Int) < (K.length : Int)) = True := eq_true (by omega)
      have f3 := eq_true hi
      have Hi := Lib.hid hi
      obtain ⟨L, hL⟩ : ∃ L, (K.take i).map (·.f0) = L := ⟨_, rfl⟩
      rw [hL] at hr
      have HLL := Lib.hid hL
      have HLn := Lib.hid (show L.length = i by rw [← hL, List.length_map, List.length_take]; omega)
      clear hL
      obtain ⟨A3, c3, rfl⟩ := Kd.R_slice hr.out
      clear r0' r1' hi
      go_wp2_with (first | ((with_reducible refine gate_builtin (b := .append) (xs := #[.tmp 23, .tmp 26]) rfl ?_); at_builtin; refine Kd.R_append (Kd.int .i64) (w0 := w) w.heap.size rfl (.tmp 23) (.tmp 26) 22 2 (.int .i64 0) 8 rfl Try.underlying22 info64 rfl (by decide) (by decide) (.slice A3 L.length c3) L (rd_T80 K (i : Int)).f0 [.int .i64 (rd_T80 K (i : Int)).f0] (fun _ => True) (fun _ => False) (by rfl) (by simp only [World.size_alloc]; rfl) ?aP (fun _ hk => hk.elim) ?aF ?aO ?aB ?aS ?aL ?_; (case aP => exact rfl); (case aF => exact (fun _ _ => trivial)); (case aO => exact (by (with_reducible repeat (first | apply Kd.R_alloc | apply Kd.R_drewN | apply Kd.R_drew)); exact hr.out)); (case aB => exact (by repeat (first | (with_reducible first | exact hb.out | apply below_alloc | apply pw_below_drewN | apply below_drew1) | exact hb.out))); (case aS => exact (below_size (by repeat (first | (with_reducible first | exact hb.out | apply below_alloc | apply pw_below_drewN | apply below_drew1) | exact hb.out)))); (case aL => have := HL.out; have := HLn.out; have := Hi.out; omega); intro v108 w9 ho hb9 hg hat; have HO := Lib.hid ho; have HB9 := Lib.hid hb9; clear ho hb9 hg hat))
      have hw : wrap64 ((i : Int) + 1) = ((i + 1 : Nat) : Int) := by have := Hi.out; have := HL.out; unfold wrap64; omega
      go_roundg (gk - 1)
      case measure => have := hk.out; have := Hi.out; omega
      case rel =>
        refine ⟨i + 1, by first | rfl | simp [hw], ⟨by have := hk.out; have := Hi.out; omega⟩, ⟨?_⟩, ⟨HB9.out⟩⟩
        have e : (K.take (i + 1)).map (·.f0) = L ++ [(rd_T80 K (i : Int)).f0] := by
          have hrd : rd_T80 K (i : Int) = K[i]'Hi.out := by
            have := Hi.out
            simp [rd_T80, List.getD_eq_getElem?_getD, List.getElem?_eq_getElem Hi.out]
          rw [hrd, ← HLL.out, List.take_add_one, List.getElem?_eq_getElem Hi.out, Option.toList_some, List.map_append]
          rfl
        rw [e]
        exact HO.out
    · have hd : decide (i < K.length) = false := decide_eq_false hi
      have hik : i = K.length := by have := hk.out; omega
      rw [hik, List.take_length] at hr
      clear hik hi
      obtain ⟨L, hL⟩ : ∃ L, K.map (·.f0) = L := ⟨_, rfl⟩
      rw [hL] at hr
      have HLL := Lib.hid hL
      clear hL
      obtain ⟨A3, c3, rfl⟩ := Kd.R_slice hr.out
      go_wp2
      go_ret
      rw [HLL.out]
      exact ⟨_, rfl, hr.out, hb.out⟩
end Go.Proofs.Ytmlnbmbobkoipaa
