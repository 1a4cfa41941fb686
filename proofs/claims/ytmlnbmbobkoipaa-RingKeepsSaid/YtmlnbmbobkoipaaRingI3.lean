/-
  What the functions of package ring do to a ring of int64 that lies in memory: Push.
-/
import Derived.Test.YtmlnbmbobkoipaaRingI2
namespace Go.Proofs.Ytmlnbmbobkoipaa
open Go.RowKit Go.Proofs.YtmlnbmbobkoipaaW.PrintWords Go.Proofs.YtmlnbmbobkoipaaW.PrintLast Go.Proofs.YtmlnbmbobkoipaaW.PrintMore

theorem ringI_grow {w : World} {g : Nat} {ok : Nat → Prop} {room : Int} {f n : Nat} {P : List Int} (h : RingAtI w g ok room f n P) (ho : RingOk room f n P.length) (hr : (n : Int) < room) :
    Calls Try.prog 45 #[.pointer (some ⟨g, 0, none⟩)] w fun e w' => e = .returned (.tuple #[]) ∧ Below 0 w w' ∧ Kept w w' (fun k => k = g) ∧ ∃ (f' : Nat) (Q : List Int),
      RingAtI w' g (fun k => ok k ∨ w.heap.size ≤ k) room f' n Q ∧ RingOk room f' n Q.length ∧ n < Q.length ∧ view 0 Q f' n = view 0 P f n := by
  by_cases hn : n < P.length
  · refine (ringI_grow_no h hn).mono ?_
    rintro e w' ⟨rfl, hb⟩
    refine ⟨rfl, hb.mono (Nat.zero_le _), Kept.of_below hb _, f, P, ?_, ho, hn, rfl⟩
    obtain ⟨⟨A, h1, h2⟩, h3, h4⟩ := h
    refine ⟨⟨A, (hb.block g h4).trans h1, ?_⟩, ?_, Nat.lt_of_lt_of_le h4 hb.size⟩
    · rcases h2 with h2 | ⟨hh, e, hok, hq⟩
      · exact .inl h2
      · exact .inr ⟨hh, e, .inl hok, (hb.block hh (blk_lt hq)).trans hq⟩
    · rintro k (hk | hk)
      · exact h3 k hk
      · omega
  · refine (ringI_grow_yes h ho (by have := ho.le; omega) hr).mono ?_
    rintro e w' ⟨rfl, h1, h2, Q, h3, h4, h5, h6⟩
    exact ⟨rfl, h1, h2, 0, Q, h3, h4, h5, h6⟩

theorem ring_wraps (f n q m : Nat) (h1 : f < 4611686018427387904) (h2 : n < 4611686018427387904) (h3 : q < 4611686018427387904) (h : (f + n) % m = q) :
    (((f : Int) + (n : Int)).tmod (m : Int)) = (q : Int) ∧ IntKind.i64.wrap ((f : Int) + (n : Int)) = (f : Int) + (n : Int) ∧ IntKind.i64.wrap ((q : Nat) : Int) = (q : Int) := by
  refine ⟨by rw [← h, ← Int.natCast_add, Int.ofNat_tmod], ?_, ?_⟩
  · rw [i64_w]; unfold wrap64; omega
  · rw [i64_w]; unfold wrap64; omega
theorem RingAtI.below {w w' : World} {g : Nat} {ok : Nat → Prop} {room : Int} {f n : Nat} {P : List Int} (h : RingAtI w g ok room f n P) (hb : Below w.heap.size w w') : RingAtI w' g ok room f n P := by
  obtain ⟨⟨A, h1, h2⟩, h3, h4⟩ := h
  refine ⟨⟨A, (hb.block g h4).trans h1, ?_⟩, h3, Nat.lt_of_lt_of_le h4 hb.size⟩
  rcases h2 with h2 | ⟨hh, e, hok, hq⟩
  · exact .inl h2
  · exact .inr ⟨hh, e, hok, (hb.block hh (blk_lt hq)).trans hq⟩
set_option maxRecDepth 100000 in
theorem ringI_push_zero {w : World} {g : Nat} {ok : Nat → Prop} {room : Int} {f n : Nat} {P : List Int} (v : Int) (h : RingAtI w g ok room f n P) (hr : room = 0) :
    Calls Try.prog 31 #[.pointer (some ⟨g, 0, none⟩), .int .i64 v] w fun e w' => e = .returned (.tuple #[.int .i64 0, .bool false]) ∧ Below w.heap.size w w' := by
  subst hr
  go_enter Try.func31, Try.ntmps31
  go_wp2_with fail
  refine (ringI_room h).mono ?_
  rintro e w1 ⟨rfl, rfl⟩
  go_wp2
  go_ret2
  exact ⟨by simp, Below.refl _ _⟩
set_option maxRecDepth 100000 in
theorem ringI_push_nil (v : Int) (w : World) :
    Calls Try.prog 31 #[.pointer none, .int .i64 v] w fun e w' => e = .returned (.tuple #[.int .i64 0, .bool false]) ∧ Below w.heap.size w w' := by
  go_enter Try.func31, Try.ntmps31
  go_wp2_with fail
  refine (ringI_room_nil _).mono ?_
  rintro e w1 ⟨rfl, rfl⟩
  go_wp2
  go_ret2
  exact ⟨by simp, Below.refl _ _⟩
set_option maxHeartbeats 4000000 in
set_option maxRecDepth 100000 in
theorem ringI_push_room {w : World} {g : Nat} {ok : Nat → Prop} {room : Int} {f n : Nat} {P : List Int} (v : Int) (h : RingAtI w g ok room f n P) (ho : RingOk room f n P.length) (hr : 0 < room) (hlt : (n : Int) < room) :
    Calls Try.prog 31 #[.pointer (some ⟨g, 0, none⟩), .int .i64 v] w fun e w' => e = .returned (.tuple #[.int .i64 0, .bool false]) ∧ Below 0 w w' ∧ Kept w w' (fun k => k = g ∨ ok k) ∧ ∃ (f' : Nat) (Q : List Int),
      RingAtI w' g (fun k => ok k ∨ w.heap.size ≤ k) room f' (n + 1) Q ∧ RingOk room f' (n + 1) Q.length ∧ view 0 Q f' (n + 1) = view 0 P f n ++ [v] := by
  obtain ⟨A, hb, hq⟩ := h.ex
  have c0 := (blk_cell hb 0).trans rfl
  have c2 := (blk_cell hb 2).trans rfl
  have d0 : (room == 0) = false := beq_eq_false_iff_ne.2 (by omega)
  have d1 : ((n : Int) == room) = false := beq_eq_false_iff_ne.2 (by omega)
  have HH := Lib.hid h
  have HO := Lib.hid ho
  have HR := Lib.hid hr
  have HL := Lib.hid hlt
  clear h ho hb hq hr hlt
  go_enter Try.func31, Try.ntmps31
  go_wp2_with fail
  refine (ringI_room HH.out).mono ?_
  rintro e w1 ⟨rfl, rfl⟩
  go_wp2_with fail
  go_quiet (fail)
  clear c0 c2
  obtain ⟨w1, hw1⟩ : ∃ w1, w1 = w.drewN nq := ⟨_, rfl⟩
  rw [← hw1]
  have bw : Below w.heap.size w w1 := by rw [hw1]; exact pw_below_drewN (Below.refl _ _) _
  have b1 : Below 0 w w1 := bw.mono (Nat.zero_le _)
  have k1 : Kept w w1 (fun k => k = g ∨ ok k) := Kept.of_below bw _
  have m1 : RingAtI w1 g ok room f n P := by rw [hw1]; exact HH.out.below (pw_below_drewN (Below.refl _ _) _)
  have m2 := HO.out
  have m3 := HL.out
  clear hw1 bw d0 d1
  have M1 := Lib.hid m1
  have M2 := Lib.hid m2
  have M3 := Lib.hid m3
  have B1 := Lib.hid b1
  have K1 := Lib.hid k1
  clear m1 m2 m3 b1 k1
  go_wp2_with fail
  refine (ringI_grow M1.out M2.out M3.out).mono ?_
  rintro e w2 ⟨rfl, b2, k2, f2, Q, a2, o2, l2, v2⟩
  obtain ⟨A, hb, hq⟩ := a2.ex
  obtain ⟨hh, rfl, hok, hq⟩ : ∃ h, A = some ⟨h, 0, none⟩ ∧ (ok h ∨ w1.heap.size ≤ h) ∧ w2.heap[h]? = some (.cells (cellsOf encI Q) 2 (0, 0)) := by
    rcases hq with ⟨hp, _⟩ | hq
    · rw [hp] at l2
      simp at l2
    · exact hq
  have hf : f2 < Q.length := by rcases o2.at_ with hf | ⟨h2, _⟩ <;> omega
  have hmm := o2.room_
  have hmx := o2.most
  obtain ⟨q, hqq⟩ : ∃ q, (f2 + n) % Q.length = q := ⟨_, rfl⟩
  have hql : q < Q.length := hqq ▸ Nat.mod_lt _ (by omega)
  have hcell : w2.cell? ⟨hh, q, none⟩ = some (.int .i64 (Q.getD q 0)) := by
    rw [blk_cell hq q]
    have := cells_get_of (enc := encI) (j := 0) encI_len (show Q[q]? = some (Q.getD q 0) by rw [List.getD_eq_getElem?_getD, List.getElem?_eq_getElem hql]; rfl) (by decide)
    simpa [encI] using this
  have HST := Lib.hid (cells_set1 (P := Q) encI_len (show encI v = [.int .i64 v] from rfl) q)
  have VW := Lib.hid (show view 0 (Q.set q v) f2 (n + 1) = view 0 Q f2 n ++ [v] by rw [← hqq]; exact view_push 0 hf l2)
  have hfz := blk_frozen hq q
  obtain ⟨N1, hN1⟩ : ∃ N1, n + 1 = N1 := ⟨_, rfl⟩
  have HW2 := Lib.hid (show wrap64 ((n : Int) + 1) = (N1 : Int) by unfold wrap64; omega)
  have c1 := (blk_cell hb 1).trans rfl
  have c2 := (blk_cell hb 2).trans rfl
  have c3 := (blk_cell hb 3).trans rfl
  have g2 := blk_frozen hb 2
  have e1 := eq_true (show (0 : Int) ≤ (q : Int) by omega)
  have e2 : ((q : Int) < (Q.length : Int)) = True := eq_true (by omega)
  have e3 := eq_true hql
  have hne : ¬ hh = g := a2.away _ hok
  have hne2 : ¬ g = hh := fun e => hne e.symm
  have d5 : ¬ (Q.length : Int) = 0 := by omega
  have d8 : ¬ Q = [] := by rintro rfl; simp at hf
  have OK2 := Lib.hid (show RingOk room f2 N1 Q.length from ⟨by omega, .inl hf, hmm, hmx⟩)
  have WR := Lib.hid (ring_wraps f2 n q Q.length (by omega) (by omega) (by omega) hqq)
  have A2 := Lib.hid a2
  have HB := Lib.hid hb
  have HQ := Lib.hid hq
  have HOK := Lib.hid hok
  have B2 := Lib.hid b2
  have K2 := Lib.hid k2
  have V2 := Lib.hid v2
  have HN1 := Lib.hid hN1
  have Z2 := Lib.hid k2.1
  clear a2 hb hq hok b2 k2 v2 o2 l2 hf hmm hmx hqq hql hN1
  have hr := WR.out.1
  have hsum := WR.out.2.1
  have hrw := WR.out.2.2
  have hw2 := HW2.out
  go_wp2
  refine still_tail 21 (by kernel_rfl) (by kernel_rfl) ?_
  simp only [List.take_succ_cons, List.take_zero, List.drop_succ_cons, List.drop_zero]
  repeat still_step
  refine wpStill_nil ?_
  clear hr hsum hrw e1 e2 d5
  go_wp2
  go_ret2
  refine ⟨by simp, ?_, ?_, f2, Q.set q v, ⟨⟨some ⟨hh, 0, none⟩, ?_, .inr ⟨hh, rfl, ?_, ?_⟩⟩, ?_, ?_⟩, ?_, ?_⟩
  · exact below_drew (Below.setCell (p := ⟨g, 2, none⟩) (Below.setCell (p := ⟨hh, q, none⟩) (B1.out.trans B2.out) (Nat.zero_le _) _) (Nat.zero_le _) _)
  · have hk := Kept.then_ K1.out K2.out (fun k hk => .inl (.inl hk))
    refine (Kept.setCell (p := ⟨g, 2, none⟩) (Kept.setCell (p := ⟨hh, q, none⟩) hk ?_ _) (.inl (.inl rfl)) _).drew
    rcases HOK.out with h1 | h1
    · exact .inl (.inr h1)
    · exact .inr (Nat.le_trans K1.out.1 h1)
  · rw [List.length_set, HN1.out]
    exact four_set2 (blk_far HB.out (p := ⟨hh, q, none⟩) hne2 _) _
  · rcases HOK.out with h1 | h1
    · exact .inl h1
    · exact .inr (Nat.le_trans K1.out.1 h1)
  · exact (blk_far (p := ⟨g, 2, none⟩) (blk_set HQ.out q _) hne _).trans (by rw [HST.out])
  · rintro k (hk | hk)
    · exact HH.out.away k hk
    · have := HH.out.lt; omega
  · have := A2.out.lt
    simpa using this
  · rw [List.length_set, HN1.out]
    exact OK2.out
  · rw [VW.out, V2.out]
set_option maxHeartbeats 4000000 in
set_option maxRecDepth 100000 in
theorem ringI_push_full {w : World} {g : Nat} {ok : Nat → Prop} {room : Int} {f n : Nat} {P : List Int} (v : Int) (h : RingAtI w g ok room f n P) (ho : RingOk room f n P.length) (hr : 0 < room) (hlt : (n : Int) = room) :
    Calls Try.prog 31 #[.pointer (some ⟨g, 0, none⟩), .int .i64 v] w fun e w' => e = .returned (.tuple #[.int .i64 (P.getD f 0), .bool true]) ∧ Below 0 w w' ∧ Kept w w' (fun k => k = g ∨ ok k) ∧ ∃ (f' : Nat) (Q : List Int),
      RingAtI w' g (fun k => ok k ∨ w.heap.size ≤ k) room f' (n) Q ∧ RingOk room f' (n) Q.length ∧ view 0 Q f' (n) = (view 0 P f n).tail ++ [v] := by
  obtain ⟨A, hb, hq⟩ := h.ex
  have c0 := (blk_cell hb 0).trans rfl
  have c2 := (blk_cell hb 2).trans rfl
  have d0 : (room == 0) = false := beq_eq_false_iff_ne.2 (by omega)
  have d1 : ((n : Int) == room) = true := by simp [hlt]
  have HH := Lib.hid h
  have HO := Lib.hid ho
  have HR := Lib.hid hr
  have HL := Lib.hid hlt
  clear h ho hb hq hr hlt
  go_enter Try.func31, Try.ntmps31
  go_wp2_with fail
  refine (ringI_room HH.out).mono ?_
  rintro e w1 ⟨rfl, rfl⟩
  go_wp2_with fail
  go_quiet (fail)
  clear c0 c2
  obtain ⟨n1, hn1⟩ : ∃ n1, n = n1 + 1 := ⟨n - 1, by have := HR.out; have := HL.out; omega⟩
  have HNN := Lib.hid hn1
  go_wp2_with fail
  refine (ringI_drop (HH.out.below (pw_below_drewN (Below.refl _ _) nq)) HO.out (by omega)).mono ?_
  rintro e w1 ⟨rfl, b1, k1, m1⟩
  have b1 : Below 0 w w1 := (pw_below_drewN (Below.refl 0 w) nq).trans b1
  have k1 : Kept w w1 (fun k => k = g ∨ ok k) := k1
  have hm := HO.out.le
  have hf : f < P.length := by rcases HO.out.at_ with hf | ⟨h2, _⟩ <;> omega
  have hrl := HO.out.room_
  have hrm := HO.out.most
  have m2 : RingOk room ((f + 1) % P.length) n1 (P.set f 0).length := by
    rw [List.length_set]
    exact ⟨by omega, .inl (Nat.mod_lt _ (by omega)), hrl, hrm⟩
  have m3 : (n1 : Int) < room := by have := HL.out; omega
  have v1 : view 0 (P.set f 0) ((f + 1) % P.length) n1 = (view 0 P f n).tail := by
    rw [hn1, view_drop 0 hf (by omega)]
    rfl
  rw [show n - 1 = n1 by omega] at m1
  obtain ⟨P1, hP1⟩ : ∃ P1, P.set f 0 = P1 := ⟨_, rfl⟩
  obtain ⟨f1, hf1⟩ : ∃ f1, (f + 1) % P.length = f1 := ⟨_, rfl⟩
  rw [hP1, hf1] at m1 m2 v1
  obtain ⟨o, ho⟩ : ∃ o, P.getD f 0 = o := ⟨_, rfl⟩
  have HOO := Lib.hid ho
  clear hm hf hrl hrm hn1 hP1 hf1 ho d0 d1
  have M1 := Lib.hid m1
  have M2 := Lib.hid m2
  have M3 := Lib.hid m3
  have B1 := Lib.hid b1
  have K1 := Lib.hid k1
  have V1 := Lib.hid v1
  clear v1
  clear m1 m2 m3 b1 k1
  go_wp2_with fail
  refine (ringI_grow M1.out M2.out M3.out).mono ?_
  rintro e w2 ⟨rfl, b2, k2, f2, Q, a2, o2, l2, v2⟩
  obtain ⟨A, hb, hq⟩ := a2.ex
  obtain ⟨hh, rfl, hok, hq⟩ : ∃ h, A = some ⟨h, 0, none⟩ ∧ (ok h ∨ w1.heap.size ≤ h) ∧ w2.heap[h]? = some (.cells (cellsOf encI Q) 2 (0, 0)) := by
    rcases hq with ⟨hp, _⟩ | hq
    · rw [hp] at l2
      simp at l2
    · exact hq
  have hf : f2 < Q.length := by rcases o2.at_ with hf | ⟨h2, _⟩ <;> omega
  have hmm := o2.room_
  have hmx := o2.most
  obtain ⟨q, hqq⟩ : ∃ q, (f2 + n1) % Q.length = q := ⟨_, rfl⟩
  have hql : q < Q.length := hqq ▸ Nat.mod_lt _ (by omega)
  have hcell : w2.cell? ⟨hh, q, none⟩ = some (.int .i64 (Q.getD q 0)) := by
    rw [blk_cell hq q]
    have := cells_get_of (enc := encI) (j := 0) encI_len (show Q[q]? = some (Q.getD q 0) by rw [List.getD_eq_getElem?_getD, List.getElem?_eq_getElem hql]; rfl) (by decide)
    simpa [encI] using this
  have HST := Lib.hid (cells_set1 (P := Q) encI_len (show encI v = [.int .i64 v] from rfl) q)
  have VW := Lib.hid (show view 0 (Q.set q v) f2 (n1 + 1) = view 0 Q f2 n1 ++ [v] by rw [← hqq]; exact view_push 0 hf l2)
  have hfz := blk_frozen hq q
  obtain ⟨N1, hN1⟩ : ∃ N1, n1 + 1 = N1 := ⟨_, rfl⟩
  have HW2 := Lib.hid (show wrap64 ((n1 : Int) + 1) = (N1 : Int) by unfold wrap64; omega)
  have c1 := (blk_cell hb 1).trans rfl
  have c2 := (blk_cell hb 2).trans rfl
  have c3 := (blk_cell hb 3).trans rfl
  have g2 := blk_frozen hb 2
  have e1 := eq_true (show (0 : Int) ≤ (q : Int) by omega)
  have e2 : ((q : Int) < (Q.length : Int)) = True := eq_true (by omega)
  have e3 := eq_true hql
  have hne : ¬ hh = g := a2.away _ hok
  have hne2 : ¬ g = hh := fun e => hne e.symm
  have d5 : ¬ (Q.length : Int) = 0 := by omega
  have d8 : ¬ Q = [] := by rintro rfl; simp at hf
  have OK2 := Lib.hid (show RingOk room f2 N1 Q.length from ⟨by omega, .inl hf, hmm, hmx⟩)
  have WR := Lib.hid (ring_wraps f2 n1 q Q.length (by omega) (by omega) (by omega) hqq)
  have A2 := Lib.hid a2
  have HB := Lib.hid hb
  have HQ := Lib.hid hq
  have HOK := Lib.hid hok
  have B2 := Lib.hid b2
  have K2 := Lib.hid k2
  have V2 := Lib.hid v2
  have HN1 := Lib.hid hN1
  have Z2 := Lib.hid k2.1
  clear a2 hb hq hok b2 k2 v2 o2 l2 hf hmm hmx hqq hql hN1
  have hr := WR.out.1
  have hsum := WR.out.2.1
  have hrw := WR.out.2.2
  have hw2 := HW2.out
  go_wp2
  refine still_tail 21 (by kernel_rfl) (by kernel_rfl) ?_
  simp only [List.take_succ_cons, List.take_zero, List.drop_succ_cons, List.drop_zero]
  repeat still_step
  refine wpStill_nil ?_
  clear hr hsum hrw e1 e2 d5
  go_wp2
  go_ret2
  refine ⟨by simp, ?_, ?_, f2, Q.set q v, ⟨⟨some ⟨hh, 0, none⟩, ?_, .inr ⟨hh, rfl, ?_, ?_⟩⟩, ?_, ?_⟩, ?_, ?_⟩
  · exact below_drew (Below.setCell (p := ⟨g, 2, none⟩) (Below.setCell (p := ⟨hh, q, none⟩) (B1.out.trans B2.out) (Nat.zero_le _) _) (Nat.zero_le _) _)
  · have hk := Kept.then_ K1.out K2.out (fun k hk => .inl (.inl hk))
    refine (Kept.setCell (p := ⟨g, 2, none⟩) (Kept.setCell (p := ⟨hh, q, none⟩) hk ?_ _) (.inl (.inl rfl)) _).drew
    rcases HOK.out with h1 | h1
    · exact .inl (.inr h1)
    · exact .inr (Nat.le_trans K1.out.1 h1)
  · rw [List.length_set, HNN.out, HN1.out]
    exact four_set2 (blk_far HB.out (p := ⟨hh, q, none⟩) hne2 _) _
  · rcases HOK.out with h1 | h1
    · exact .inl h1
    · exact .inr (Nat.le_trans K1.out.1 h1)
  · exact (blk_far (p := ⟨g, 2, none⟩) (blk_set HQ.out q _) hne _).trans (by rw [HST.out])
  · rintro k (hk | hk)
    · exact HH.out.away k hk
    · have := HH.out.lt; omega
  · have := A2.out.lt
    simpa using this
  · rw [List.length_set, HNN.out, HN1.out]
    exact OK2.out
  · rw [HNN.out, VW.out, V2.out, V1.out, HNN.out]
end Go.Proofs.Ytmlnbmbobkoipaa
