/-
  MonoNil: the law's call answers true, for all numbers of 64 bits; nothing that was there is changed.
-/
import Derived.Test.YtmlnbmbobkoipaaMonoIs
namespace Go.Proofs.Ytmlnbmbobkoipaa
open Go.RowKit Go.Proofs.Ytmlnbmbobkoipaa.XMono Go.Proofs.YtmlnbmbobkoipaaW.PrintWords Go.Proofs.YtmlnbmbobkoipaaW.PrintLast Go.Proofs.YtmlnbmbobkoipaaW.PrintMore

theorem c_ints {w : World} {b : Nat} {t : TypeId} {xs : List Int} (hb : w.heap[b]? = some (.cells (xs.map fun x => Value.int .i64 x).toArray t (0, 0))) (hl : xs.length ≤ 9223372036854775807) : Kd.C (Kd.int .i64) w (some ⟨b, 0, none⟩) xs.length xs := by
  refine ⟨rfl, hl, fun _ => ⟨_, rfl, fun j p hj => ⟨[.int .i64 p], rfl, rfl, fun i u hu => ?_⟩⟩⟩
  have hi : i = 0 := by
    rcases Nat.eq_zero_or_pos i with h | h
    · exact h
    · rw [List.getElem?_eq_none (by simp; omega)] at hu; cases hu
  subst hi
  have hu' : Value.int .i64 p = u := by simpa using hu
  subst hu'
  have e : (⟨b, 0, none⟩ : Addr).add (j * (Kd.int .i64).sz + 0) = ⟨b, j, none⟩ := by
    show (⟨b, 0, none⟩ : Addr).add (j * 1 + 0) = _
    rw [add_plain, Nat.mul_one, Nat.add_zero]
  rw [e, blk_cell hb j]
  simp [hj]
/-- What is done in new memory alone. -/
theorem below_of_kept {w w1 w2 : World} {S : Nat → Prop} (h1 : Below w.heap.size w w1) (h2 : Below 0 w1 w2) (hk : Kept w1 w2 S) (hS : ∀ k, k < w.heap.size → ¬ S k) : Below w.heap.size w w2 :=
  ⟨h2.os.trans h1.os, h2.tape.trans h1.tape, h2.output.trans h1.output, Nat.le_trans h1.size h2.size, fun k hk' => (hk.2 k (Nat.lt_of_lt_of_le hk' h1.size) (hS k hk')).trans (h1.block k hk')⟩

set_option maxHeartbeats 8000000 in
set_option maxRecDepth 100000 in
theorem MonoNil_walk (v : Int) (w : World) : Calls Try.prog 6 #[.int .i64 v] w fun e w' => e = .returned (.bool true) ∧ Below w.heap.size w w' := by
  go_enter Try.func6, Try.ntmps6
  go_wp2_with fail
  refine (awake06 _).mono ?_
  rintro e w1 ⟨rfl, b1⟩
  have B1 := Lib.hid b1
  clear b1
  go_wp2_with fail
  refine (mono_put_nil v _).mono ?_
  rintro e w2 ⟨rfl, b2⟩
  have B2 := Lib.hid (B1.out.trans (b2.mono B1.out.size))
  clear b2
  go_wp2_with fail
  refine (mono_best_nil _).mono ?_
  rintro e w3 ⟨rfl, b3⟩
  have B3 := Lib.hid (B2.out.trans (b3.mono B2.out.size))
  clear b3
  go_wp2_with fail
  refine (mono_take_nil _).mono ?_
  rintro e w4 ⟨rfl, b4⟩
  have B4 := Lib.hid (B3.out.trans (b4.mono B3.out.size))
  clear b4
  go_wp2_with fail
  refine (mono_len_nil _).mono ?_
  rintro e w5 ⟨rfl, b5⟩
  have B5 := Lib.hid (B4.out.trans (b5.mono B4.out.size))
  clear b5
  go_wp2_with fail
  refine (mono_kept_nil _).mono ?_
  rintro e w6 ⟨rfl, b6⟩
  have B6 := Lib.hid (B5.out.trans (b6.mono B5.out.size))
  clear b6
  go_wp2_with fail
  have hz : MonoIs (w6.alloc (.cells #[.bool false, .int .i64 0, .int .i64 0, .slice none 0 0] 42)) w6.heap.size (fun _ => False) false [] 0 :=
    ⟨⟨⟨none, 0, blk_new _ _, Kd.Q_nil _ _ _ _ _⟩, fun _ hk => hk.elim, by simp⟩, Int.le_refl _, by decide, Nat.zero_le _⟩
  have B7 := Lib.hid (below_alloc B6.out (.cells #[.bool false, .int .i64 0, .int .i64 0, .slice none 0 0] 42))
  refine (is_put v hz (by decide) (by decide)).mono ?_
  rintro e w7 ⟨rfl, b7, k7, h7⟩
  have z6 := B6.out.size
  have B8 := Lib.hid (below_of_kept B7.out b7 k7 (by rintro k hk (h | h) <;> omega))
  have H7 := Lib.hid h7
  clear b7 k7 h7 hz
  go_wp2_with fail
  refine (is_put 0 H7.out (by simp) (by simp)).mono ?_
  rintro e w8 ⟨rfl, b8, k8, h8⟩
  have B9 := Lib.hid (below_of_kept B8.out b8 k8 (by intro k hk h; simp at h; omega))
  have H8 := Lib.hid h8
  clear b8 k8 h8
  go_wp2_with fail
  have hb := blk_new w8 (.cells #[.int .i64 v, .int .i64 0] 2)
  have hc : Kd.C (Kd.int .i64) (w8.alloc (.cells #[.int .i64 v, .int .i64 0] 2)) (some ⟨w8.heap.size, 0, none⟩) ([v, 0] : List Int).length [v, 0] := c_ints (t := 2) (xs := [v, 0]) hb (by simp)
  have hB := below_alloc B9.out (.cells #[.int .i64 v, .int .i64 0] 2)
  refine (looks_true (L := [v, 0]) (c := 2) (H8.out.below (below_alloc (Below.refl _ _) _)) hc (by simp)).mono ?_
  rintro e w9 ⟨rfl, b9⟩
  go_wp2
  go_ret
  exact ⟨by simp, hB.trans (b9.mono hB.size)⟩
end Go.Proofs.Ytmlnbmbobkoipaa
