/-
  What the functions of package ring do to a ring of structs of two fields that lies in memory: Len, Room, At, Drop.
-/
import Derived.Test.YtmlnbmbobkoipaaBase
import Derived.Test.YtmlnbmbobkoipaaRingPure
import Derived.Test.YtmlnbmbobkoipaaStill
import Derived.ProofKit
import Derived.WalkKit
import Derived.Lib.Hide
import Derived.WalkMore
import Derived.Deep.RegionHeldLaw
import Derived.Deep.RegionLaw
import Derived.KernelRfl
import Derived.BigRegion
namespace Go.Proofs.Ytmlnbmbobkoipaa
open Go.RowKit Go.Proofs.YtmlnbmbobkoipaaW.PrintWords Go.Proofs.YtmlnbmbobkoipaaW.PrintLast Go.Proofs.YtmlnbmbobkoipaaW.PrintMore

def encP (x : ByteArray × Int) : List Value := [.string x.1, .int .i64 x.2]
theorem encP_len : ∀ x, (encP x).length = 2 := fun _ => rfl
abbrev valP (x : ByteArray × Int) : Value := .agg #[.string x.1, .int .i64 x.2]
abbrev zeroP : ByteArray × Int := (ByteArray.empty, 0)
/-- A ring at block g: its places' block is one of those that ok names. -/
structure RingAtP (w : World) (g : Nat) (ok : Nat → Prop) (room : Int) (f n : Nat) (P : List (ByteArray × Int)) : Prop where
  ex : ∃ A, w.heap[g]? = some (.cells #[.int .i64 room, .int .i64 f, .int .i64 n, .slice A P.length P.length] 84 (0, 0)) ∧
    (P = [] ∧ A = none ∨ ∃ h, A = some ⟨h, 0, none⟩ ∧ ok h ∧ w.heap[h]? = some (.cells (cellsOf encP P) 50 (0, 0)))
  away : ∀ k, ok k → k ≠ g
  lt : g < w.heap.size
structure RingOkP (room : Int) (f n m : Nat) : Prop where
  le : n ≤ m
  at_ : f < m ∨ m = 0 ∧ f = 0
  room_ : (m : Int) ≤ room
  most : room ≤ 4096

theorem two_set {w : World} {g : Nat} {t : TypeId} {a b : Value} (h : w.heap[g]? = some (.cells #[a, b] t (0, 0))) (u v : Value) : ((w.setCell ⟨g, 0, none⟩ u).setCell ⟨g, 1, none⟩ v).heap[g]? = some (.cells #[u, v] t (0, 0)) := by simpa using blk_set (blk_set h 0 u) 1 v
theorem ringP_len {w : World} {g : Nat} {ok : Nat → Prop} {room : Int} {f n : Nat} {P : List (ByteArray × Int)} (h : RingAtP w g ok room f n P) :
    Calls Try.prog 25 #[.pointer (some ⟨g, 0, none⟩)] w fun e w' => e = .returned (.int .i64 n) ∧ w = w' := by
  obtain ⟨A, hb, hq⟩ := h.ex
  have c2 := (blk_cell hb 2).trans rfl
  clear hb hq h
  go_enter Try.func25, Try.ntmps25
  go_wp2
  go_ret
  exact ⟨by simp, rfl⟩
theorem ringP_room {w : World} {g : Nat} {ok : Nat → Prop} {room : Int} {f n : Nat} {P : List (ByteArray × Int)} (h : RingAtP w g ok room f n P) :
    Calls Try.prog 40 #[.pointer (some ⟨g, 0, none⟩)] w fun e w' => e = .returned (.int .i64 room) ∧ w = w' := by
  obtain ⟨A, hb, hq⟩ := h.ex
  have c0 := (blk_cell hb 0).trans rfl
  clear hb hq h
  go_enter Try.func40, Try.ntmps40
  go_wp2
  go_ret
  exact ⟨by simp, rfl⟩
theorem cellsP {w : World} {h : Nat} {P : List (ByteArray × Int)} {t : TypeId} (hq : w.heap[h]? = some (.cells (cellsOf encP P) t (0, 0))) {q : Nat} (hql : q < P.length) :
    w.cell? ⟨h, q * 2, none⟩ = some (.string (P.getD q zeroP).1) ∧ w.cell? ⟨h, q * 2 + 1, none⟩ = some (.int .i64 (P.getD q zeroP).2) := by
  have e : P[q]? = some (P.getD q zeroP) := by rw [List.getD_eq_getElem?_getD, List.getElem?_eq_getElem hql]; rfl
  exact ⟨(blk_cell hq (q * 2)).trans (cells_get_of (enc := encP) (j := 0) encP_len e (by decide)), (blk_cell hq (q * 2 + 1)).trans (cells_get_of (enc := encP) (j := 1) encP_len e (by decide))⟩
theorem ringWrapsP (f n q m : Nat) (h1 : f < 4611686018427387904) (h2 : n < 4611686018427387904) (h3 : q < 4611686018427387904) (h : (f + n) % m = q) :
    (((f : Int) + (n : Int)).tmod (m : Int)) = (q : Int) ∧ IntKind.i64.wrap ((f : Int) + (n : Int)) = (f : Int) + (n : Int) ∧ IntKind.i64.wrap ((q : Nat) : Int) = (q : Int) := by
  refine ⟨by rw [← h, ← Int.natCast_add, Int.ofNat_tmod], ?_, ?_⟩
  · rw [i64_w]; unfold wrap64; omega
  · rw [i64_w]; unfold wrap64; omega
theorem RingAtP.below {w w' : World} {g : Nat} {ok : Nat → Prop} {room : Int} {f n : Nat} {P : List (ByteArray × Int)} (h : RingAtP w g ok room f n P) (hb : Below w.heap.size w w') : RingAtP w' g ok room f n P := by
  obtain ⟨⟨A, h1, h2⟩, h3, h4⟩ := h
  refine ⟨⟨A, (hb.block g h4).trans h1, ?_⟩, h3, Nat.lt_of_lt_of_le h4 hb.size⟩
  rcases h2 with h2 | ⟨hh, e, hok, hq⟩
  · exact .inl h2
  · exact .inr ⟨hh, e, hok, (hb.block hh (blk_lt hq)).trans hq⟩
set_option maxHeartbeats 4000000 in
set_option maxRecDepth 100000 in
theorem ringP_at {w : World} {g : Nat} {ok : Nat → Prop} {room : Int} {f n : Nat} {P : List (ByteArray × Int)} (h : RingAtP w g ok room f n P) (ho : RingOkP room f n P.length) (i : Int) (h0 : 0 ≤ i) (h1 : i < n) :
    Calls Try.prog 24 #[.pointer (some ⟨g, 0, none⟩), .int .i64 i] w fun e w' => e = .returned (.tuple #[valP (P.getD ((f + i.toNat) % P.length) zeroP), .bool true]) ∧ Below w.heap.size w w' := by
  obtain ⟨k, rfl⟩ := Int.eq_ofNat_of_zero_le h0
  have hk : k < n := by omega
  rw [Int.toNat_natCast]
  have hm := ho.le
  have hmm := ho.room_
  have hmx := ho.most
  have hf : f < P.length := by rcases ho.at_ with hf | ⟨h2, _⟩ <;> omega
  have hlt := h.lt
  obtain ⟨A, hb, hq⟩ := h.ex
  rcases hq with ⟨hp, _⟩ | ⟨hh, rfl, hok, hq⟩
  · subst hp; simp at hm; omega
  obtain ⟨q, hqq⟩ : ∃ q, (f + k) % P.length = q := ⟨_, rfl⟩
  have hql : q < P.length := hqq ▸ Nat.mod_lt _ (by omega)
  have HCC := Lib.hid (cellsP hq hql)
  rw [hqq]
  have HWR := Lib.hid (ringWrapsP f k q P.length (by omega) (by omega) (by omega) hqq)
  have HB := Lib.hid hb
  have HHL := Lib.hid (blk_lt hq)
  have e1 := eq_true (show (0 : Int) ≤ (q : Int) by omega)
  have e2 : ((q : Int) < (P.length : Int)) = True := eq_true (by omega)
  have e3 := eq_true hql
  have d1 : decide ((k : Int) < 0) = false := decide_eq_false (by omega)
  have d2 : decide ((n : Int) ≤ (k : Int)) = false := decide_eq_false (by omega)
  have d3 : decide (n ≤ k) = false := decide_eq_false (by omega)
  have d4 : ((P.length : Int) == 0) = false := beq_eq_false_iff_ne.2 (by omega)
  have d5 : ¬ (P.length : Int) = 0 := by omega
  have d8 : ¬ P = [] := by rintro rfl; simp at hf
  have HH := Lib.hid h
  have HLT := Lib.hid hlt
  clear h ho hb hq h0 h1 hk hm hmm hmx hf hqq hql hok hlt
  obtain ⟨x, hx⟩ : ∃ x, P.getD q zeroP = x := ⟨_, rfl⟩
  rw [hx] at HCC
  rw [hx]
  clear hx
  go_enter Try.func24, Try.ntmps24
  go_wp2_with fail
  generalize hw1 : w.alloc _ = w1
  have B1 : Below w.heap.size w w1 := by rw [← hw1]; exact below_alloc (Below.refl _ _) _
  have K1 : w1.heap[w.heap.size]? = some (.cells #[.string ByteArray.empty, .int .i64 0] 50 (0, 0)) := by rw [← hw1]; exact blk_new _ _
  clear hw1
  refine (ringP_len (HH.out.below B1)).mono ?_
  rintro e w2 ⟨rfl, rfl⟩
  have hbg := (B1.block g HLT.out).trans HB.out
  have c1 := (blk_cell hbg 1).trans rfl
  have c3 := (blk_cell hbg 3).trans rfl
  have q0 := (B1.cell (p := ⟨hh, q * 2, none⟩) HHL.out).trans HCC.out.1
  have q1 := (B1.cell (p := ⟨hh, q * 2 + 1, none⟩) HHL.out).trans HCC.out.2
  have b0 := (blk_cell K1 0).trans rfl
  have b1 := (blk_cell K1 1).trans rfl
  have g0 := blk_frozen K1 0
  have g1 := blk_frozen K1 1
  have hr := HWR.out.1
  have hsum := HWR.out.2.1
  have hrw := HWR.out.2.2
  have HB1 := Lib.hid B1
  have HK1 := Lib.hid K1
  clear hbg B1 K1
  go_wp2
  refine still_tail 18 (by kernel_rfl) (by kernel_rfl) ?_
  simp only [List.take_succ_cons, List.take_zero, List.drop_succ_cons, List.drop_zero]
  repeat still_step
  refine wpStill_nil ?_
  clear hr hsum hrw e1 e2 d4 d5
  go_wp2
  refine bodyPost_ret (results_ct rfl _ _ w.heap.size 50 #[.string x.1, .int .i64 x.2] (0, 0) _ rfl (two_set HK1.out _ _) Try.underlying50 rfl (by kernel_rfl)) rfl ?_
  · exact ⟨by first | rfl | simp, below_drew (Below.setCell (p := ⟨w.heap.size, 1, none⟩) (Below.setCell (p := ⟨w.heap.size, 0, none⟩) HB1.out (Nat.le_refl _) _) (Nat.le_refl _) _)⟩
set_option maxRecDepth 100000 in
theorem ringP_drop_none {w : World} {g : Nat} {ok : Nat → Prop} {room : Int} {f n : Nat} {P : List (ByteArray × Int)} (h : RingAtP w g ok room f n P) (hn : n = 0) :
    Calls Try.prog 26 #[.pointer (some ⟨g, 0, none⟩)] w fun e w' => e = .returned (.tuple #[valP zeroP, .bool false]) ∧ Below w.heap.size w w' := by
  subst hn
  go_enter Try.func26, Try.ntmps26
  go_wp2_with fail
  generalize hw1 : w.alloc _ = w1
  have B1 : Below w.heap.size w w1 := by rw [← hw1]; exact below_alloc (Below.refl _ _) _
  have K1 : w1.heap[w.heap.size]? = some (.cells #[.string ByteArray.empty, .int .i64 0] 50 (0, 0)) := by rw [← hw1]; exact blk_new _ _
  clear hw1
  refine (ringP_len (h.below B1)).mono ?_
  rintro e w2 ⟨rfl, rfl⟩
  have b0 := (blk_cell K1 0).trans rfl
  have b1 := (blk_cell K1 1).trans rfl
  have g0 := blk_frozen K1 0
  have g1 := blk_frozen K1 1
  have HK1 := Lib.hid K1
  have HB1 := Lib.hid B1
  clear K1 B1
  go_wp2
  refine bodyPost_ret (results_ct rfl _ _ w.heap.size 50 #[.string ByteArray.empty, .int .i64 0] (0, 0) _ rfl (two_set HK1.out _ _) Try.underlying50 rfl (by kernel_rfl)) rfl ?_
  · exact ⟨by first | rfl | simp, Below.setCell (p := ⟨w.heap.size, 1, none⟩) (Below.setCell (p := ⟨w.heap.size, 0, none⟩) HB1.out (Nat.le_refl _) _) (Nat.le_refl _) _⟩
set_option maxHeartbeats 4000000 in
set_option maxRecDepth 100000 in
theorem ringP_drop {w : World} {g : Nat} {ok : Nat → Prop} {room : Int} {f n : Nat} {P : List (ByteArray × Int)} (h : RingAtP w g ok room f n P) (ho : RingOkP room f n P.length) (hn : 0 < n) :
    Calls Try.prog 26 #[.pointer (some ⟨g, 0, none⟩)] w fun e w' => e = .returned (.tuple #[valP (P.getD f zeroP), .bool true]) ∧ Below 0 w w' ∧ Kept w w' (fun k => k = g ∨ ok k) ∧
      RingAtP w' g ok room ((f + 1) % P.length) (n - 1) (P.set f zeroP) := by
  have hm := ho.le
  have hmm := ho.room_
  have hmx := ho.most
  have hf : f < P.length := by rcases ho.at_ with hf | ⟨h2, _⟩ <;> omega
  obtain ⟨A, hb, hq⟩ := h.ex
  rcases hq with ⟨hp, _⟩ | ⟨hh, rfl, hok, hq⟩
  · subst hp; simp at hf
  obtain ⟨n1, hn1⟩ : ∃ m, n - 1 = m := ⟨_, rfl⟩
  rw [hn1]
  have HCC := Lib.hid (cellsP hq hf)
  have HST := Lib.hid (cells_set2 (P := P) encP_len (show encP zeroP = [.string ByteArray.empty, .int .i64 0] from rfl) f)
  obtain ⟨q, hqq⟩ : ∃ q, (f + 1) % P.length = q := ⟨_, rfl⟩
  have hql : q < P.length := hqq ▸ Nat.mod_lt _ (by omega)
  rw [hqq]
  have HWR := Lib.hid (show (((f : Int) + 1).tmod (P.length : Int)) = (q : Int) ∧ IntKind.i64.wrap ((f : Int) + 1) = (f : Int) + 1 ∧ IntKind.i64.wrap ((q : Nat) : Int) = (q : Int) from ringWrapsP f 1 q P.length (by omega) (by omega) (by omega) hqq)
  have HW2 := Lib.hid (show wrap64 ((n : Int) - 1) = (n1 : Int) by unfold wrap64; omega)
  have HHL := Lib.hid (blk_lt hq)
  have HLT := Lib.hid h.lt
  have e1 := eq_true (show (0 : Int) ≤ (f : Int) by omega)
  have e2 : ((f : Int) < (P.length : Int)) = True := eq_true (by omega)
  have e3 := eq_true hf
  have hne : ¬ hh = g := h.away _ hok
  have hne2 : ¬ g = hh := fun e => hne e.symm
  have d4 : ((P.length : Int) == 0) = false := beq_eq_false_iff_ne.2 (by omega)
  have d5 : ¬ (P.length : Int) = 0 := by omega
  have d8 : ¬ P = [] := by rintro rfl; simp at hf
  have d6 : ((n : Int) == 0) = false := beq_eq_false_iff_ne.2 (by omega)
  have d7 : ¬ n = 0 := by omega
  have HH := Lib.hid h
  have HB := Lib.hid hb
  have HQ := Lib.hid hq
  have HOK := Lib.hid hok
  clear h ho hb hq hn hm hmm hmx hf hqq hql hok hn1
  obtain ⟨x, hx⟩ : ∃ x, P.getD f zeroP = x := ⟨_, rfl⟩
  rw [hx] at HCC
  rw [hx]
  clear hx
  go_enter Try.func26, Try.ntmps26
  go_wp2_with fail
  generalize hw1 : w.alloc _ = w1
  have B1 : Below w.heap.size w w1 := by rw [← hw1]; exact below_alloc (Below.refl _ _) _
  have K1 : w1.heap[w.heap.size]? = some (.cells #[.string ByteArray.empty, .int .i64 0] 50 (0, 0)) := by rw [← hw1]; exact blk_new _ _
  clear hw1
  refine (ringP_len (HH.out.below B1)).mono ?_
  rintro e w2 ⟨rfl, rfl⟩
  obtain ⟨bx, hbx⟩ : ∃ bx, w.heap.size = bx := ⟨_, rfl⟩
  have hbg := (B1.block g HLT.out).trans HB.out
  have hbq := (B1.block hh HHL.out).trans HQ.out
  have n1' : ¬ hh = bx := by have := HHL.out; omega
  have n2' : ¬ bx = hh := fun e => n1' e.symm
  have n3' : ¬ g = bx := by have := HLT.out; omega
  have n4' : ¬ bx = g := fun e => n3' e.symm
  have c1 := (blk_cell hbg 1).trans rfl
  have c2 := (blk_cell hbg 2).trans rfl
  have c3 := (blk_cell hbg 3).trans rfl
  have f1 := blk_frozen hbg 1
  have f2 := blk_frozen hbg 2
  have q0 := (B1.cell (p := ⟨hh, f * 2, none⟩) HHL.out).trans HCC.out.1
  have q1 := (B1.cell (p := ⟨hh, f * 2 + 1, none⟩) HHL.out).trans HCC.out.2
  have qf0 := blk_frozen hbq (f * 2)
  have qf1 := blk_frozen hbq (f * 2 + 1)
  rw [hbx] at K1 ⊢
  have b0 := (blk_cell K1 0).trans rfl
  have b1 := (blk_cell K1 1).trans rfl
  have g0 := blk_frozen K1 0
  have g1 := blk_frozen K1 1
  have hr := HWR.out.1
  have hsum := HWR.out.2.1
  have hrw := HWR.out.2.2
  have hw2 := HW2.out
  have HB1 := Lib.hid B1
  have HK1 := Lib.hid K1
  have HBX := Lib.hid hbx
  have HBG := Lib.hid hbg
  have HBQ := Lib.hid hbq
  clear hbg B1 K1 hbx hbq
  go_wp2
  go_region
  go_wp2
  refine still_tail 14 (by kernel_rfl) (by kernel_rfl) ?_
  simp only [List.take_succ_cons, List.take_zero, List.drop_succ_cons, List.drop_zero]
  repeat still_step
  refine wpStill_nil ?_
  clear hr hsum hrw e1 e2 d4 d5
  go_wp2
  have hle : w.heap.size ≤ bx := Nat.le_of_eq HBX.out
  obtain ⟨W8, hW8⟩ : ∃ W8, W8 = (((((((w1.setCell ⟨bx, 0, none⟩ (.string x.1)).setCell ⟨bx, 1, none⟩ (.int .i64 x.2)).setCell ⟨hh, f * 2, none⟩ (.string ByteArray.empty)).setCell ⟨hh, f * 2 + 1, none⟩ (.int .i64 0)).setCell ⟨g, 1, none⟩ (.int .i64 q)).setCell ⟨g, 2, none⟩ (.int .i64 n1)).setCell ⟨bx, 0, none⟩ (.string x.1)).setCell ⟨bx, 1, none⟩ (.int .i64 x.2) := ⟨_, rfl⟩
  rw [← hW8]
  have r1 : W8.heap[bx]? = some (.cells #[.string x.1, .int .i64 x.2] 50 (0, 0)) := by
    rw [hW8]
    exact two_set (blk_far (p := ⟨g, 2, none⟩) (blk_far (p := ⟨g, 1, none⟩) (blk_far (p := ⟨hh, f * 2 + 1, none⟩) (blk_far (p := ⟨hh, f * 2, none⟩) (two_set HK1.out _ _) n2' _) n2' _) n4' _) n4' _) _ _
  have r2 : Below 0 w W8 := by
    rw [hW8]
    exact Below.setCell (p := ⟨bx, 1, none⟩) (Below.setCell (p := ⟨bx, 0, none⟩) (Below.setCell (p := ⟨g, 2, none⟩) (Below.setCell (p := ⟨g, 1, none⟩) (Below.setCell (p := ⟨hh, f * 2 + 1, none⟩) (Below.setCell (p := ⟨hh, f * 2, none⟩) (Below.setCell (p := ⟨bx, 1, none⟩) (Below.setCell (p := ⟨bx, 0, none⟩) (HB1.out.mono (Nat.zero_le _)) (Nat.zero_le _) _) (Nat.zero_le _) _) (Nat.zero_le _) _) (Nat.zero_le _) _) (Nat.zero_le _) _) (Nat.zero_le _) _) (Nat.zero_le _) _) (Nat.zero_le _) _
  have r3 : Kept w W8 (fun k => k = g ∨ ok k) := by
    rw [hW8]
    exact Kept.setCell (p := ⟨bx, 1, none⟩) (Kept.setCell (p := ⟨bx, 0, none⟩) (Kept.setCell (p := ⟨g, 2, none⟩) (Kept.setCell (p := ⟨g, 1, none⟩) (Kept.setCell (p := ⟨hh, f * 2 + 1, none⟩) (Kept.setCell (p := ⟨hh, f * 2, none⟩) (Kept.setCell (p := ⟨bx, 1, none⟩) (Kept.setCell (p := ⟨bx, 0, none⟩) (Kept.of_below HB1.out _) (.inr hle) _) (.inr hle) _) (.inl (.inr HOK.out)) _) (.inl (.inr HOK.out)) _) (.inl (.inl rfl)) _) (.inl (.inl rfl)) _) (.inr hle) _) (.inr hle) _
  have r4 : W8.heap[g]? = some (.cells #[.int .i64 room, .int .i64 q, .int .i64 n1, .slice (some ⟨hh, 0, none⟩) (P.set f zeroP).length (P.set f zeroP).length] 84 (0, 0)) := by
    rw [hW8, List.length_set]
    exact blk_far (p := ⟨bx, 1, none⟩) (blk_far (p := ⟨bx, 0, none⟩) (four_set2 (four_set1 (blk_far (p := ⟨hh, f * 2 + 1, none⟩) (blk_far (p := ⟨hh, f * 2, none⟩) (blk_far (p := ⟨bx, 1, none⟩) (blk_far (p := ⟨bx, 0, none⟩) HBG.out n3' _) n3' _) hne2 _) hne2 _) _) _) n3' _) n3' _
  have r5 : W8.heap[hh]? = some (.cells (cellsOf encP (P.set f zeroP)) 50 (0, 0)) := by
    rw [hW8, ← HST.out]
    exact blk_far (p := ⟨bx, 1, none⟩) (blk_far (p := ⟨bx, 0, none⟩) (blk_far (p := ⟨g, 2, none⟩) (blk_far (p := ⟨g, 1, none⟩) (blk_set (blk_set (blk_far (p := ⟨bx, 1, none⟩) (blk_far (p := ⟨bx, 0, none⟩) HBQ.out n1' _) n1' _) (f * 2) _) (f * 2 + 1) _) hne _) hne _) n1' _) n1' _
  clear hW8
  refine bodyPost_ret (results_ct rfl _ _ bx 50 #[.string x.1, .int .i64 x.2] (0, 0) _ rfl r1 Try.underlying50 rfl (by kernel_rfl)) rfl ?_
  exact ⟨by first | rfl | simp, below_drew (below_drew r2), r3.drew.drew, ⟨some ⟨hh, 0, none⟩, r4, .inr ⟨hh, rfl, HOK.out, r5⟩⟩, HH.out.away, blk_lt r4⟩
end Go.Proofs.Ytmlnbmbobkoipaa
