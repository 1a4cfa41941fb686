/-
  What the functions of package ring do to a ring of int64 that lies in memory: Len, Room, Drop, At.
-/
import Derived.Test.YtmlnbmbobkoipaaRingPure
import Derived.Test.YtmlnbmbobkoipaaXMonox
import Derived.ProofKit
import Derived.WalkKit
import Derived.Lib.Hide
import Derived.WalkMore
import Derived.Deep.RegionHeldLaw
import Derived.Deep.RegionLaw
import Derived.KernelRfl
import Derived.BigRegion
import Derived.Test.YtmlnbmbobkoipaaStill
namespace Go.Proofs.Ytmlnbmbobkoipaa
open Go.RowKit Go.Proofs.YtmlnbmbobkoipaaW.PrintWords Go.Proofs.YtmlnbmbobkoipaaW.PrintLast Go.Proofs.YtmlnbmbobkoipaaW.PrintMore

def encI : Int → List Value := fun x => [.int .i64 x]
theorem encI_len : ∀ x, (encI x).length = 1 := fun _ => rfl
/-- A ring at block g: its places' block is one of those that ok names. -/
structure RingAtI (w : World) (g : Nat) (ok : Nat → Prop) (room : Int) (f n : Nat) (P : List Int) : Prop where
  ex : ∃ A, w.heap[g]? = some (.cells #[.int .i64 room, .int .i64 f, .int .i64 n, .slice A P.length P.length] 73 (0, 0)) ∧
    (P = [] ∧ A = none ∨ ∃ h, A = some ⟨h, 0, none⟩ ∧ ok h ∧ w.heap[h]? = some (.cells (cellsOf encI P) 2 (0, 0)))
  away : ∀ k, ok k → k ≠ g
  lt : g < w.heap.size
structure RingOk (room : Int) (f n m : Nat) : Prop where
  le : n ≤ m
  at_ : f < m ∨ m = 0 ∧ f = 0
  room_ : (m : Int) ≤ room
  most : room ≤ 4096

theorem ringI_len {w : World} {g : Nat} {ok : Nat → Prop} {room : Int} {f n : Nat} {P : List Int} (h : RingAtI w g ok room f n P) :
    Calls Try.prog 36 #[.pointer (some ⟨g, 0, none⟩)] w fun e w' => e = .returned (.int .i64 n) ∧ w = w' := by
  obtain ⟨A, hb, hq⟩ := h.ex
  have c2 := (blk_cell hb 2).trans rfl
  clear hb hq h
  go_enter Try.func36, Try.ntmps36
  go_wp2
  go_ret
  exact ⟨by simp, rfl⟩
theorem ringI_room {w : World} {g : Nat} {ok : Nat → Prop} {room : Int} {f n : Nat} {P : List Int} (h : RingAtI w g ok room f n P) :
    Calls Try.prog 37 #[.pointer (some ⟨g, 0, none⟩)] w fun e w' => e = .returned (.int .i64 room) ∧ w = w' := by
  obtain ⟨A, hb, hq⟩ := h.ex
  have c0 := (blk_cell hb 0).trans rfl
  clear hb hq h
  go_enter Try.func37, Try.ntmps37
  go_wp2
  go_ret
  exact ⟨by simp, rfl⟩
theorem ringI_len_nil (w : World) :
    Calls Try.prog 36 #[.pointer none] w fun e w' => e = .returned (.int .i64 0) ∧ w = w' := by
  go_enter Try.func36, Try.ntmps36
  go_wp2
  go_ret
  exact ⟨rfl, rfl⟩
theorem ringI_room_nil (w : World) :
    Calls Try.prog 37 #[.pointer none] w fun e w' => e = .returned (.int .i64 0) ∧ w = w' := by
  go_enter Try.func37, Try.ntmps37
  go_wp2
  go_ret
  exact ⟨rfl, rfl⟩
set_option maxRecDepth 100000 in
theorem ringI_at {w : World} {g : Nat} {ok : Nat → Prop} {room : Int} {f n : Nat} {P : List Int} (h : RingAtI w g ok room f n P) (ho : RingOk room f n P.length) (i : Int) (h0 : 0 ≤ i) (h1 : i < n) :
    Calls Try.prog 34 #[.pointer (some ⟨g, 0, none⟩), .int .i64 i] w fun e w' => e = .returned (.tuple #[.int .i64 (P.getD ((f + i.toNat) % P.length) 0), .bool true]) ∧ Below w.heap.size w w' := by
  obtain ⟨k, rfl⟩ := Int.eq_ofNat_of_zero_le h0
  have hk : k < n := by omega
  rw [Int.toNat_natCast]
  have hm := ho.le
  have hmm := ho.room_
  have hmx := ho.most
  have hf : f < P.length := by rcases ho.at_ with hf | ⟨h2, _⟩ <;> omega
  obtain ⟨A, hb, hq⟩ := h.ex
  rcases hq with ⟨hp, _⟩ | ⟨hh, rfl, hok, hq⟩
  · subst hp; simp at hm; omega
  obtain ⟨q, hqq⟩ : ∃ q, (f + k) % P.length = q := ⟨_, rfl⟩
  have hql : q < P.length := hqq ▸ Nat.mod_lt _ (by omega)
  have hcell : w.cell? ⟨hh, q, none⟩ = some (.int .i64 (P.getD q 0)) := by
    rw [blk_cell hq q]
    have := cells_get_of (enc := encI) (j := 0) encI_len (show P[q]? = some (P.getD q 0) by rw [List.getD_eq_getElem?_getD, List.getElem?_eq_getElem hql]; rfl) (by decide)
    simpa [encI] using this
  rw [hqq]
  have hr : (((f : Int) + (k : Int)).tmod (P.length : Int)) = (q : Int) := by
    rw [← hqq, ← Int.natCast_add, Int.ofNat_tmod]
  have hsum : IntKind.i64.wrap ((f : Int) + (k : Int)) = (f : Int) + (k : Int) := by rw [i64_w]; unfold wrap64; omega
  have hrw : IntKind.i64.wrap ((q : Nat) : Int) = (q : Int) := by rw [i64_w]; unfold wrap64; omega
  have c1 := (blk_cell hb 1).trans rfl
  have c3 := (blk_cell hb 3).trans rfl
  have e1 := eq_true (show (0 : Int) ≤ (q : Int) by omega)
  have e2 : ((q : Int) < (P.length : Int)) = True := eq_true (by omega)
  have e3 := eq_true hql
  have d1 : decide ((k : Int) < 0) = false := decide_eq_false (by omega)
  have d2 : decide ((n : Int) ≤ (k : Int)) = false := decide_eq_false (by omega)
  have d3 : decide (n ≤ k) = false := decide_eq_false (by omega)
  have d4 : ((P.length : Int) == 0) = false := beq_eq_false_iff_ne.2 (by omega)
  have d5 : ¬ (P.length : Int) = 0 := by omega
  have HH := Lib.hid h
  clear h ho hb hq h0 h1 hk hm hmm hmx hf hqq hql hok
  obtain ⟨x, hx⟩ : ∃ x, P.getD q 0 = x := ⟨_, rfl⟩
  rw [hx] at hcell
  rw [hx]
  clear hx
  go_enter Try.func34, Try.ntmps34
  go_wp2_with fail
  refine (ringI_len HH.out).mono ?_
  rintro e w1 ⟨rfl, rfl⟩
  go_wp2
  go_quiet (fail)
  go_wp2
  go_ret2
  exact ⟨by simp, pw_below_drewN (Below.refl _ _) _⟩
set_option maxRecDepth 100000 in
theorem ringI_drop_none {w : World} {g : Nat} {ok : Nat → Prop} {room : Int} {f n : Nat} {P : List Int} (h : RingAtI w g ok room f n P) (hn : n = 0) :
    Calls Try.prog 33 #[.pointer (some ⟨g, 0, none⟩)] w fun e w' => e = .returned (.tuple #[.int .i64 0, .bool false]) ∧ Below w.heap.size w w' := by
  subst hn
  go_enter Try.func33, Try.ntmps33
  go_wp2_with fail
  refine (ringI_len h).mono ?_
  rintro e w1 ⟨rfl, rfl⟩
  go_wp2
  go_ret2
  exact ⟨by simp, Below.refl _ _⟩
set_option maxRecDepth 100000 in
theorem ringI_drop_nil (w : World) :
    Calls Try.prog 33 #[.pointer none] w fun e w' => e = .returned (.tuple #[.int .i64 0, .bool false]) ∧ Below w.heap.size w w' := by
  go_enter Try.func33, Try.ntmps33
  go_wp2_with fail
  refine (ringI_len_nil _).mono ?_
  rintro e w1 ⟨rfl, rfl⟩
  go_wp2
  go_ret2
  exact ⟨by simp, Below.refl _ _⟩
set_option maxHeartbeats 4000000 in
set_option maxRecDepth 100000 in
theorem ringI_drop {w : World} {g : Nat} {ok : Nat → Prop} {room : Int} {f n : Nat} {P : List Int} (h : RingAtI w g ok room f n P) (ho : RingOk room f n P.length) (hn : 0 < n) :
    Calls Try.prog 33 #[.pointer (some ⟨g, 0, none⟩)] w fun e w' => e = .returned (.tuple #[.int .i64 (P.getD f 0), .bool true]) ∧ Below 0 w w' ∧ Kept w w' (fun k => k = g ∨ ok k) ∧
      RingAtI w' g ok room ((f + 1) % P.length) (n - 1) (P.set f 0) := by
  have hm := ho.le
  have hmm := ho.room_
  have hmx := ho.most
  have hf : f < P.length := by rcases ho.at_ with hf | ⟨h2, _⟩ <;> omega
  obtain ⟨A, hb, hq⟩ := h.ex
  rcases hq with ⟨hp, _⟩ | ⟨hh, rfl, hok, hq⟩
  · subst hp; simp at hf
  obtain ⟨n1, hn1⟩ : ∃ m, n - 1 = m := ⟨_, rfl⟩
  rw [hn1]
  have hcell : w.cell? ⟨hh, f, none⟩ = some (.int .i64 (P.getD f 0)) := by
    rw [blk_cell hq f]
    have := cells_get_of (enc := encI) (j := 0) encI_len (show P[f]? = some (P.getD f 0) by rw [List.getD_eq_getElem?_getD, List.getElem?_eq_getElem hf]; rfl) (by decide)
    simpa [encI] using this
  have HST := Lib.hid (cells_set1 (P := P) encI_len (show encI 0 = [.int .i64 0] from rfl) f)
  have hfz := blk_frozen hq f
  obtain ⟨q, hqq⟩ : ∃ q, (f + 1) % P.length = q := ⟨_, rfl⟩
  have hql : q < P.length := hqq ▸ Nat.mod_lt _ (by omega)
  rw [hqq]
  have hr : (((f : Int) + 1).tmod (P.length : Int)) = (q : Int) := by
    rw [← hqq, show (f : Int) + 1 = ((f + 1 : Nat) : Int) by omega, Int.ofNat_tmod]
  have hsum : IntKind.i64.wrap ((f : Int) + 1) = (f : Int) + 1 := by rw [i64_w]; unfold wrap64; omega
  have hrw : IntKind.i64.wrap ((q : Nat) : Int) = (q : Int) := by rw [i64_w]; unfold wrap64; omega
  have hw2 : wrap64 ((n : Int) - 1) = (n1 : Int) := by unfold wrap64; omega
  have c1 := (blk_cell hb 1).trans rfl
  have c2 := (blk_cell hb 2).trans rfl
  have c3 := (blk_cell hb 3).trans rfl
  have f1 := blk_frozen hb 1
  have f2 := blk_frozen hb 2
  have e1 := eq_true (show (0 : Int) ≤ (f : Int) by omega)
  have e2 : ((f : Int) < (P.length : Int)) = True := eq_true (by omega)
  have e3 := eq_true hf
  have hne : ¬ hh = g := h.away _ hok
  have hne2 : ¬ g = hh := fun e => hne e.symm
  have d4 : ((P.length : Int) == 0) = false := beq_eq_false_iff_ne.2 (by omega)
  have d5 : ¬ (P.length : Int) = 0 := by omega
  have d8 : ¬ P = [] := by rintro rfl; simp at hf
  have d6 : ((n : Int) == 0) = false := beq_eq_false_iff_ne.2 (by omega)
  have d7 : ¬ n = 0 := by omega
  have HH := Lib.hid h
  have HB := Lib.hid hb
  have HQ := Lib.hid hq
  have HOK := Lib.hid hok
  clear h ho hb hq hn hm hmm hmx hf hqq hql hok hn1
  obtain ⟨x, hx⟩ : ∃ x, P.getD f 0 = x := ⟨_, rfl⟩
  rw [hx] at hcell
  rw [hx]
  clear hx
  go_enter Try.func33, Try.ntmps33
  go_wp2_with fail
  refine (ringI_len HH.out).mono ?_
  rintro e w1 ⟨rfl, rfl⟩
  go_wp2
  go_region
  go_wp2
  refine still_tail 14 (by kernel_rfl) (by kernel_rfl) ?_
  simp only [List.take_succ_cons, List.take_zero, List.drop_succ_cons, List.drop_zero]
  repeat still_step
  refine wpStill_nil ?_
  clear hr hsum hrw e1 e2 d4 d5
  go_wp2
  go_ret2
  refine ⟨by simp, ?_, ?_, ⟨some ⟨hh, 0, none⟩, ?_, .inr ⟨hh, rfl, HOK.out, ?_⟩⟩, HH.out.away, ?_⟩
  · exact below_drew (below_drew (Below.setCell (p := ⟨g, 2, none⟩) (Below.setCell (p := ⟨g, 1, none⟩) (Below.setCell (p := ⟨hh, f, none⟩) (Below.refl 0 w) (Nat.zero_le _) _) (Nat.zero_le _) _) (Nat.zero_le _) _))
  · exact (Kept.setCell (p := ⟨g, 2, none⟩) (Kept.setCell (p := ⟨g, 1, none⟩) (Kept.setCell (p := ⟨hh, f, none⟩) (Kept.refl w _) (.inl (.inr HOK.out)) _) (.inl (.inl rfl)) _) (.inl (.inl rfl)) _).drew.drew
  · rw [List.length_set]
    exact four_set2 (four_set1 (blk_far HB.out (p := ⟨hh, f, none⟩) hne2 _) _) _
  · exact (blk_far (p := ⟨g, 2, none⟩) (blk_far (p := ⟨g, 1, none⟩) (blk_set HQ.out f _) hne _) hne _).trans (by rw [HST.out])
  · have := HH.out.lt
    simpa using this
end Go.Proofs.Ytmlnbmbobkoipaa
