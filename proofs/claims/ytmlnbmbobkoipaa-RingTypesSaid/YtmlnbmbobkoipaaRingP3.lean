/-
  What the functions of package ring do to a ring of structs of two fields that lies in memory: Push.
-/
import Derived.Test.YtmlnbmbobkoipaaRingP2
namespace Go.Proofs.Ytmlnbmbobkoipaa
open Go.RowKit Go.Proofs.YtmlnbmbobkoipaaW.PrintWords Go.Proofs.YtmlnbmbobkoipaaW.PrintLast Go.Proofs.YtmlnbmbobkoipaaW.PrintMore
theorem ringP_grow {w : World} {g : Nat} {ok : Nat → Prop} {room : Int} {f n : Nat} {P : List (ByteArray × Int)} (h : RingAtP w g ok room f n P) (ho : RingOkP room f n P.length) (hr : (n : Int) < room) :
    Calls Try.prog 41 #[.pointer (some ⟨g, 0, none⟩)] w fun e w' => e = .returned (.tuple #[]) ∧ Below 0 w w' ∧ Kept w w' (fun k => k = g) ∧ ∃ (f' : Nat) (Q : List (ByteArray × Int)),
      RingAtP w' g (fun k => ok k ∨ w.heap.size ≤ k) room f' n Q ∧ RingOkP room f' n Q.length ∧ n < Q.length ∧ view zeroP Q f' n = view zeroP P f n := by
  by_cases hn : n < P.length
  · refine (ringP_grow_no h hn).mono ?_
    rintro e w' ⟨rfl, hb⟩
    refine ⟨rfl, hb.mono (Nat.zero_le _), Kept.of_below hb _, f, P, ?_, ho, hn, rfl⟩
    obtain ⟨⟨A, h1, h2⟩, h3, h4⟩ := h
    refine ⟨⟨A, (hb.block g h4).trans h1, ?_⟩, ?_, Nat.lt_of_lt_of_le h4 hb.size⟩
    · rcases h2 with h2 | ⟨hh, e, hok, hq⟩
      · exact .inl h2
      · exact .inr ⟨hh, e, .inl hok, (hb.block hh (blk_lt hq)).trans hq⟩
    · rintro k (hk | hk)
      · exact h3 k hk
      · omega
  · refine (ringP_grow_yes h ho (by have := ho.le; omega) hr).mono ?_
    rintro e w' ⟨rfl, h1, h2, Q, h3, h4, h5, h6⟩
    exact ⟨rfl, h1, h2, 0, Q, h3, h4, h5, h6⟩
theorem RingAtP.tight {w : World} {g : Nat} {ok : Nat → Prop} {room : Int} {f n : Nat} {P : List (ByteArray × Int)} (h : RingAtP w g ok room f n P) : RingAtP w g (fun k => ok k ∧ k < w.heap.size) room f n P := by
  obtain ⟨⟨A, h1, hq⟩, h3, h4⟩ := h
  refine ⟨⟨A, h1, ?_⟩, fun k hk => h3 k hk.1, h4⟩
  rcases hq with hq | ⟨hh, e, hok, hq⟩
  · exact .inl hq
  · exact .inr ⟨hh, e, ⟨hok, blk_lt hq⟩, hq⟩
theorem RingAtP.kept {w w' : World} {g : Nat} {ok : Nat → Prop} {room : Int} {f n : Nat} {P : List (ByteArray × Int)} {S : Nat → Prop} (h : RingAtP w g ok room f n P) (hk : Kept w w' S) (hg : ¬ S g) (hs : ∀ k, ok k → ¬ S k) : RingAtP w' g ok room f n P := by
  obtain ⟨⟨A, h1, h2⟩, h3, h4⟩ := h
  refine ⟨⟨A, blk_kept h1 hk hg, ?_⟩, h3, Nat.lt_of_lt_of_le h4 hk.1⟩
  rcases h2 with h2 | ⟨hh, e, hok, hq⟩
  · exact .inl h2
  · exact .inr ⟨hh, e, hok, blk_kept hq hk (hs _ hok)⟩
set_option maxHeartbeats 8000000 in
set_option maxRecDepth 100000 in
theorem ringP_push_room {w : World} {g : Nat} {ok : Nat → Prop} {room : Int} {f n : Nat} {P : List (ByteArray × Int)} (v : ByteArray × Int) (h : RingAtP w g ok room f n P) (ho : RingOkP room f n P.length) (hr : 0 < room) (hlt : (n : Int) < room) :
    Calls Try.prog 23 #[.pointer (some ⟨g, 0, none⟩), valP v] w fun e w' => e = .returned (.tuple #[valP zeroP, .bool false]) ∧ Below 0 w w' ∧ Kept w w' (fun k => k = g ∨ ok k) ∧ ∃ (f' : Nat) (Q : List (ByteArray × Int)),
      RingAtP w' g (fun k => ok k ∨ w.heap.size ≤ k) room f' (n + 1) Q ∧ RingOkP room f' (n + 1) Q.length ∧ view zeroP Q f' (n + 1) = view zeroP P f n ++ [v] := by
  obtain ⟨A, hb, hq⟩ := h.ex
  have d0 : (room == 0) = false := beq_eq_false_iff_ne.2 (by omega)
  have d1 : ((n : Int) == room) = false := beq_eq_false_iff_ne.2 (by omega)
  have HB0 := Lib.hid hb
  have HH := Lib.hid h
  have HO := Lib.hid ho
  have HR := Lib.hid hr
  have HL := Lib.hid hlt
  have HLT := Lib.hid h.lt
  clear h ho hb hq hr hlt
  go_enter Try.func23, Try.ntmps23
  go_wp2_with fail
  generalize hw0 : World.alloc (World.alloc w _) _ = w0
  obtain ⟨bv, hbv⟩ : ∃ bv, w.heap.size = bv := ⟨_, rfl⟩
  obtain ⟨bo, hbo⟩ : ∃ bo, bv + 1 = bo := ⟨_, rfl⟩
  have b0 : Below w.heap.size w w0 := by rw [← hw0]; exact below_alloc (below_alloc (Below.refl _ _) _) _
  have vb0 : w0.heap[bv]? = some (.cells #[.string v.1, .int .i64 v.2] 50 (0, 0)) := by rw [← hw0, ← hbv]; exact blk_alloc (blk_new w _) _
  have ob0 : w0.heap[bo]? = some (.cells #[.string ByteArray.empty, .int .i64 0] 50 (0, 0)) := by
    rw [← hw0, ← hbo, ← hbv]
    have := blk_new (w.alloc (.cells #[.string v.1, .int .i64 v.2] 50 (0, 0))) (.cells #[.string ByteArray.empty, .int .i64 0] 50 (0, 0))
    rw [World.size_alloc] at this
    exact this
  have s0 : w0.heap.size = w.heap.size + 2 := by rw [← hw0, World.size_alloc, World.size_alloc]
  rw [hbv, hbo]
  have HBV := Lib.hid hbv
  have HBO := Lib.hid (show bo = w.heap.size + 1 by omega)
  clear hw0 hbv hbo
  refine (ringP_room (HH.out.below b0)).mono ?_
  rintro e wz ⟨rfl, rfl⟩
  have hbg := (b0.block g HLT.out).trans HB0.out
  have c0 := (blk_cell hbg 0).trans rfl
  have c2 := (blk_cell hbg 2).trans rfl
  have BB0 := Lib.hid b0
  have VB0 := Lib.hid vb0
  have OB0 := Lib.hid ob0
  have SS0 := Lib.hid s0
  clear hbg b0 vb0 ob0 s0
  go_wp2_with fail
  go_quiet (fail)
  clear c0 c2
  obtain ⟨w1, hw1⟩ : ∃ w1, w1 = w0.drewN nq := ⟨_, rfl⟩
  rw [← hw1]
  have bw : Below w.heap.size w w1 := by rw [hw1]; exact pw_below_drewN BB0.out _
  have b1 : Below 0 w w1 := bw.mono (Nat.zero_le _)
  have k1 : Kept w w1 (fun k => k = g ∨ ok k) := Kept.of_below bw _
  have m1 : RingAtP w1 g (fun k => ok k ∧ k < w.heap.size) room f n P := HH.out.tight.below bw
  have m2 := HO.out
  have m3 := HL.out
  have vb : w1.heap[bv]? = some (.cells #[.string v.1, .int .i64 v.2] 50 (0, 0)) := by rw [hw1]; exact VB0.out
  have ob : w1.heap[bo]? = some (.cells #[.string ByteArray.empty, .int .i64 0] 50 (0, 0)) := by rw [hw1]; exact OB0.out
  have sz : w.heap.size + 2 ≤ w1.heap.size := by rw [hw1]; exact Nat.le_of_eq SS0.out.symm
  clear hw1 bw d0 d1
  have M1 := Lib.hid m1
  have M2 := Lib.hid m2
  have M3 := Lib.hid m3
  have B1 := Lib.hid b1
  have K1 := Lib.hid k1
  have VB := Lib.hid vb
  have OB := Lib.hid ob
  have SZ := Lib.hid sz
  clear m1 m2 m3 b1 k1 vb ob sz
  go_wp2_with fail
  refine (ringP_grow M1.out M2.out M3.out).mono ?_
  rintro e w2 ⟨rfl, b2, k2, f2, Q, a2, o2, l2, v2⟩
  obtain ⟨A, hb, hq⟩ := a2.ex
  obtain ⟨hh, rfl, hok, hq⟩ : ∃ h, A = some ⟨h, 0, none⟩ ∧ (ok h ∧ h < w.heap.size ∨ w1.heap.size ≤ h) ∧ w2.heap[h]? = some (.cells (cellsOf encP Q) 50 (0, 0)) := by
    rcases hq with ⟨hp, _⟩ | hq
    · rw [hp] at l2
      simp at l2
    · exact hq
  have hf : f2 < Q.length := by rcases o2.at_ with hf | ⟨h2, _⟩ <;> omega
  have hmm := o2.room_
  have hmx := o2.most
  obtain ⟨q, hqq⟩ : ∃ q, (f2 + n) % Q.length = q := ⟨_, rfl⟩
  have hql : q < Q.length := hqq ▸ Nat.mod_lt _ (by omega)
  have hcc := cellsP hq hql
  have qc0 := hcc.1
  have qc1 := hcc.2
  have HST := Lib.hid (cells_set2 (P := Q) encP_len (show encP v = [.string v.1, .int .i64 v.2] from rfl) q)
  have VW := Lib.hid (show view zeroP (Q.set q v) f2 (n + 1) = view zeroP Q f2 n ++ [v] by rw [← hqq]; exact view_push zeroP hf l2)
  have qf0 := blk_frozen hq (q * 2)
  have qf1 := blk_frozen hq (q * 2 + 1)
  obtain ⟨N1, hN1⟩ : ∃ N1, n + 1 = N1 := ⟨_, rfl⟩
  have HW2 := Lib.hid (show wrap64 ((n : Int) + 1) = (N1 : Int) by unfold wrap64; omega)
  have c1 := (blk_cell hb 1).trans rfl
  have c2 := (blk_cell hb 2).trans rfl
  have c3 := (blk_cell hb 3).trans rfl
  have g2 := blk_frozen hb 2
  have e1 := eq_true (show (0 : Int) ≤ (q : Int) by omega)
  have e2 : ((q : Int) < (Q.length : Int)) = True := eq_true (by omega)
  have e3 := eq_true hql
  have hne : ¬ hh = g := a2.away _ hok
  have hne2 : ¬ g = hh := fun e => hne e.symm
  have hlg := HLT.out
  have sz := SZ.out
  have x1 : ¬ bv = g := by have := HBV.out; omega
  have x2 : ¬ bo = g := by have := HBO.out; omega
  have x1' : ¬ g = bv := fun e => x1 e.symm
  have x2' : ¬ g = bo := fun e => x2 e.symm
  have x3 : ¬ bv = hh := by have := HBV.out; rcases hok with hok | hok <;> omega
  have x4 : ¬ bo = hh := by have := HBO.out; rcases hok with hok | hok <;> omega
  have x3' : ¬ hh = bv := fun e => x3 e.symm
  have x4' : ¬ hh = bo := fun e => x4 e.symm
  have hvb := blk_kept VB.out k2 x1
  have hob := blk_kept OB.out k2 x2
  have v0 := (blk_cell hvb 0).trans rfl
  have v1 := (blk_cell hvb 1).trans rfl
  have o0 := (blk_cell hob 0).trans rfl
  have o1 := (blk_cell hob 1).trans rfl
  have of0 := blk_frozen hob 0
  have of1 := blk_frozen hob 1
  have d5 : ¬ (Q.length : Int) = 0 := by omega
  have d8 : ¬ Q = [] := by rintro rfl; simp at hf
  have OK2 := Lib.hid (show RingOkP room f2 N1 Q.length from ⟨by omega, .inl hf, hmm, hmx⟩)
  have WR := Lib.hid (ringWrapsP f2 n q Q.length (by omega) (by omega) (by omega) hqq)
  have A2 := Lib.hid a2
  have HB := Lib.hid hb
  have HQ := Lib.hid hq
  have HOK := Lib.hid hok
  have B2 := Lib.hid b2
  have K2 := Lib.hid k2
  have V2 := Lib.hid v2
  have HN1 := Lib.hid hN1
  have HOB := Lib.hid hob
  clear a2 hb hq hok b2 k2 v2 o2 l2 hf hmm hmx hqq hql hN1 hcc hvb hob hlg sz
  have hr := WR.out.1
  have hsum := WR.out.2.1
  have hrw := WR.out.2.2
  have hw2 := HW2.out
  go_wp2
  refine still_tail 21 (by kernel_rfl) (by kernel_rfl) ?_
  simp only [List.take_succ_cons, List.take_zero, List.drop_succ_cons, List.drop_zero]
  repeat still_step
  refine wpStill_nil ?_
  clear hr hsum hrw e1 e2 d5
  go_wp2
  obtain ⟨W8, hW8⟩ : ∃ W8, W8 = ((((w2.setCell ⟨hh, q * 2, none⟩ (.string v.1)).setCell ⟨hh, q * 2 + 1, none⟩ (.int .i64 v.2)).setCell ⟨g, 2, none⟩ (.int .i64 N1)).setCell ⟨bo, 0, none⟩ (.string ByteArray.empty)).setCell ⟨bo, 1, none⟩ (.int .i64 0) := ⟨_, rfl⟩
  rw [← hW8]
  have r1 : W8.heap[bo]? = some (.cells #[(.string ByteArray.empty), (.int .i64 0)] 50 (0, 0)) := by
    rw [hW8]
    exact two_set (blk_far (p := ⟨g, 2, none⟩) (blk_far (p := ⟨hh, q * 2 + 1, none⟩) (blk_far (p := ⟨hh, q * 2, none⟩) HOB.out x4 _) x4 _) x2 _) _ _
  have r2 : Below 0 w W8 := by
    rw [hW8]
    exact Below.setCell (p := ⟨bo, 1, none⟩) (Below.setCell (p := ⟨bo, 0, none⟩) (Below.setCell (p := ⟨g, 2, none⟩) (Below.setCell (p := ⟨hh, q * 2 + 1, none⟩) (Below.setCell (p := ⟨hh, q * 2, none⟩) (B1.out.trans B2.out) (Nat.zero_le _) _) (Nat.zero_le _) _) (Nat.zero_le _) _) (Nat.zero_le _) _) (Nat.zero_le _) _
  have hS : (k : Nat) → (ok k ∧ k < w.heap.size ∨ w1.heap.size ≤ k) → (k = g ∨ ok k) ∨ w.heap.size ≤ k := by
    rintro k (hk | hk)
    · exact .inl (.inr hk.1)
    · exact .inr (Nat.le_trans K1.out.1 hk)
  have hbo : w.heap.size ≤ bo := by have := HBO.out; omega
  have r3 : Kept w W8 (fun k => k = g ∨ ok k) := by
    rw [hW8]
    exact Kept.setCell (p := ⟨bo, 1, none⟩) (Kept.setCell (p := ⟨bo, 0, none⟩) (Kept.setCell (p := ⟨g, 2, none⟩) (Kept.setCell (p := ⟨hh, q * 2 + 1, none⟩) (Kept.setCell (p := ⟨hh, q * 2, none⟩) (Kept.then_ K1.out K2.out (fun k hk => .inl (.inl hk))) (hS hh HOK.out) _) (hS hh HOK.out) _) (.inl (.inl rfl)) _) (.inr hbo) _) (.inr hbo) _
  have r4 : W8.heap[g]? = some (.cells #[.int .i64 room, .int .i64 f2, .int .i64 N1, .slice (some ⟨hh, 0, none⟩) (Q.set q v).length (Q.set q v).length] 84 (0, 0)) := by
    rw [hW8, List.length_set]
    exact blk_far (p := ⟨bo, 1, none⟩) (blk_far (p := ⟨bo, 0, none⟩) (four_set2 (blk_far (p := ⟨hh, q * 2 + 1, none⟩) (blk_far (p := ⟨hh, q * 2, none⟩) HB.out hne2 _) hne2 _) _) x2' _) x2' _
  have r5 : W8.heap[hh]? = some (.cells (cellsOf encP (Q.set q v)) 50 (0, 0)) := by
    rw [hW8, ← HST.out]
    exact blk_far (p := ⟨bo, 1, none⟩) (blk_far (p := ⟨bo, 0, none⟩) (blk_far (p := ⟨g, 2, none⟩) (blk_set (blk_set HQ.out (q * 2) _) (q * 2 + 1) _) hne _) x4' _) x4' _
  clear hW8
  refine bodyPost_ret (results_ct rfl _ _ bo 50 #[(.string ByteArray.empty), (.int .i64 0)] (0, 0) _ rfl r1 Try.underlying50 rfl (by kernel_rfl)) rfl ?_
  refine ⟨by first | rfl | simp, below_drew r2, r3.drew, f2, Q.set q v, ⟨⟨some ⟨hh, 0, none⟩, ?_, .inr ⟨hh, rfl, ?_, r5⟩⟩, ?_, blk_lt r4⟩, ?_, ?_⟩
  · rw [HN1.out]
    exact r4
  · rcases HOK.out with h1 | h1
    · exact .inl h1.1
    · exact .inr (Nat.le_trans K1.out.1 h1)
  · rintro k (hk | hk)
    · exact HH.out.away k hk
    · have := HLT.out; omega
  · rw [List.length_set, HN1.out]
    exact OK2.out
  · rw [VW.out, V2.out]
set_option maxHeartbeats 8000000 in
set_option maxRecDepth 100000 in
theorem ringP_push_full {w : World} {g : Nat} {ok : Nat → Prop} {room : Int} {f n : Nat} {P : List (ByteArray × Int)} (v : ByteArray × Int) (h : RingAtP w g ok room f n P) (ho : RingOkP room f n P.length) (hr : 0 < room) (hlt : (n : Int) = room) :
    Calls Try.prog 23 #[.pointer (some ⟨g, 0, none⟩), valP v] w fun e w' => e = .returned (.tuple #[valP (P.getD f zeroP), .bool true]) ∧ Below 0 w w' ∧ Kept w w' (fun k => k = g ∨ ok k) ∧ ∃ (f' : Nat) (Q : List (ByteArray × Int)),
      RingAtP w' g (fun k => ok k ∨ w.heap.size ≤ k) room f' (n) Q ∧ RingOkP room f' (n) Q.length ∧ view zeroP Q f' (n) = (view zeroP P f n).tail ++ [v] := by
  obtain ⟨A, hb, hq⟩ := h.ex
  have d0 : (room == 0) = false := beq_eq_false_iff_ne.2 (by omega)
  have d1 : ((n : Int) == room) = true := by simp [hlt]
  have HB0 := Lib.hid hb
  have HH := Lib.hid h
  have HO := Lib.hid ho
  have HR := Lib.hid hr
  have HL := Lib.hid hlt
  have HLT := Lib.hid h.lt
  clear h ho hb hq hr hlt
  go_enter Try.func23, Try.ntmps23
  go_wp2_with fail
  generalize hw0 : World.alloc (World.alloc w _) _ = w0
  obtain ⟨bv, hbv⟩ : ∃ bv, w.heap.size = bv := ⟨_, rfl⟩
  obtain ⟨bo, hbo⟩ : ∃ bo, bv + 1 = bo := ⟨_, rfl⟩
  have b0 : Below w.heap.size w w0 := by rw [← hw0]; exact below_alloc (below_alloc (Below.refl _ _) _) _
  have vb0 : w0.heap[bv]? = some (.cells #[.string v.1, .int .i64 v.2] 50 (0, 0)) := by rw [← hw0, ← hbv]; exact blk_alloc (blk_new w _) _
  have ob0 : w0.heap[bo]? = some (.cells #[.string ByteArray.empty, .int .i64 0] 50 (0, 0)) := by
    rw [← hw0, ← hbo, ← hbv]
    have := blk_new (w.alloc (.cells #[.string v.1, .int .i64 v.2] 50 (0, 0))) (.cells #[.string ByteArray.empty, .int .i64 0] 50 (0, 0))
    rw [World.size_alloc] at this
    exact this
  have s0 : w0.heap.size = w.heap.size + 2 := by rw [← hw0, World.size_alloc, World.size_alloc]
  rw [hbv, hbo]
  have HBV := Lib.hid hbv
  have HBO := Lib.hid (show bo = w.heap.size + 1 by omega)
  clear hw0 hbv hbo
  refine (ringP_room (HH.out.below b0)).mono ?_
  rintro e wz ⟨rfl, rfl⟩
  have hbg := (b0.block g HLT.out).trans HB0.out
  have c0 := (blk_cell hbg 0).trans rfl
  have c2 := (blk_cell hbg 2).trans rfl
  have BB0 := Lib.hid b0
  have VB0 := Lib.hid vb0
  have OB0 := Lib.hid ob0
  have SS0 := Lib.hid s0
  clear hbg b0 vb0 ob0 s0
  go_wp2_with fail
  go_quiet (fail)
  clear c0 c2
  obtain ⟨n1, hn1⟩ : ∃ n1, n = n1 + 1 := ⟨n - 1, by have := HR.out; have := HL.out; omega⟩
  have HNN := Lib.hid hn1
  have ht : RingAtP (w0.drewN nq) g (fun k => ok k ∧ k < w.heap.size) room f n P := HH.out.tight.below (pw_below_drewN BB0.out _)
  go_wp2_with fail
  refine (ringP_drop ht HO.out (by omega)).mono ?_
  rintro e w1 ⟨rfl, b1, k1, m1⟩
  have b1 : Below 0 w w1 := (pw_below_drewN (BB0.out.mono (Nat.zero_le _)) nq).trans b1
  have hb2 := HBV.out
  have hb3 := HBO.out
  have hlg := HLT.out
  have nx : ∀ k, w.heap.size ≤ k → ¬ (k = g ∨ ok k ∧ k < w.heap.size) := by
    rintro k hk (rfl | ⟨_, h2⟩) <;> omega
  have vb : w1.heap[bv]? = some (.cells #[.string v.1, .int .i64 v.2] 50 (0, 0)) := blk_kept (W := w0.drewN nq) VB0.out k1 (nx bv (by omega))
  have ob' : w1.heap[bo]? = some (.cells #[.string ByteArray.empty, .int .i64 0] 50 (0, 0)) := blk_kept (W := w0.drewN nq) OB0.out k1 (nx bo (by omega))
  have sz : w.heap.size + 2 ≤ w1.heap.size := Nat.le_trans (Nat.le_of_eq SS0.out.symm) k1.1
  have k1 : Kept w w1 (fun k => k = g ∨ ok k) := Kept.then_ (Kept.of_below (pw_below_drewN BB0.out nq) _) k1 (fun k hk => .inl (by rcases hk with hk | hk; exact .inl hk; exact .inr hk.1))
  have hm := HO.out.le
  have hf : f < P.length := by rcases HO.out.at_ with hf | ⟨h2, _⟩ <;> omega
  have hrl := HO.out.room_
  have hrm := HO.out.most
  have m2 : RingOkP room ((f + 1) % P.length) n1 (P.set f zeroP).length := by
    rw [List.length_set]
    exact ⟨by omega, .inl (Nat.mod_lt _ (by omega)), hrl, hrm⟩
  have m3 : (n1 : Int) < room := by have := HL.out; omega
  have v1 : view zeroP (P.set f zeroP) ((f + 1) % P.length) n1 = (view zeroP P f n).tail := by
    rw [hn1, view_drop zeroP hf (by omega)]
    rfl
  rw [show n - 1 = n1 by omega] at m1
  obtain ⟨P1, hP1⟩ : ∃ P1, P.set f zeroP = P1 := ⟨_, rfl⟩
  obtain ⟨f1, hf1⟩ : ∃ f1, (f + 1) % P.length = f1 := ⟨_, rfl⟩
  rw [hP1, hf1] at m1 m2 v1
  obtain ⟨o, ho⟩ : ∃ o, P.getD f zeroP = o := ⟨_, rfl⟩
  have HOO := Lib.hid ho
  rw [ho]
  have hng : ¬ bo = g := by omega
  have hng' : ¬ g = bo := by omega
  have b1' := blk_cell ob' 0
  have b2' := blk_cell ob' 1
  have t1' := blk_frozen ob' 0
  have t2' := blk_frozen ob' 1
  have HM1 := Lib.hid m1
  have HM2 := Lib.hid m2
  have HM3 := Lib.hid m3
  have HV1 := Lib.hid v1
  have HVB := Lib.hid vb
  have HOB' := Lib.hid ob'
  have HSZ := Lib.hid sz
  have HK1 := Lib.hid k1
  have HB1 := Lib.hid b1
  clear hm hf hrl hrm hn1 hP1 hf1 ho d0 d1 ht m1 m2 m3 v1 vb ob' sz k1 b1 nx hb2 hb3 hlg
  go_wp2_with fail
  obtain ⟨w1', hw1'⟩ : ∃ w1', w1' = (w1.setCell ⟨bo, 0, none⟩ (.string o.1)).setCell ⟨bo, 1, none⟩ (.int .i64 o.2) := ⟨_, rfl⟩
  rw [← hw1']
  have kk : Kept w1 w1' (fun k => k = bo) := by
    rw [hw1']
    exact Kept.setCell (S := fun k => k = bo) (p := ⟨bo, 1, none⟩) (Kept.setCell (S := fun k => k = bo) (p := ⟨bo, 0, none⟩) (Kept.refl _ _) (.inl rfl) _) (.inl rfl) _
  have ob : w1'.heap[bo]? = some (.cells #[.string o.1, .int .i64 o.2] 50 (0, 0)) := by rw [hw1']; exact two_set HOB'.out _ _
  have hb3 := HBO.out
  have hbv := HBV.out
  have vb : w1'.heap[bv]? = some (.cells #[.string v.1, .int .i64 v.2] 50 (0, 0)) := blk_kept HVB.out kk (by omega)
  have m1 := HM1.out.kept kk hng' (fun k hk e => by have := hk.2; omega)
  have m2 := HM2.out
  have m3 := HM3.out
  have v1 := HV1.out
  have b1 : Below 0 w w1' := by
    rw [hw1']
    exact Below.setCell (p := ⟨bo, 1, none⟩) (Below.setCell (p := ⟨bo, 0, none⟩) HB1.out (Nat.zero_le _) _) (Nat.zero_le _) _
  have k1 : Kept w w1' (fun k => k = g ∨ ok k) := Kept.then_ HK1.out kk (fun k hk => .inr (by omega))
  have sz : w.heap.size + 2 ≤ w1'.heap.size := Nat.le_trans HSZ.out kk.1
  clear hw1' kk hb3 hbv b1' b2' t1' t2' hng hng'
  have M1 := Lib.hid m1
  have M2 := Lib.hid m2
  have M3 := Lib.hid m3
  have B1 := Lib.hid b1
  have K1 := Lib.hid k1
  have VB := Lib.hid vb
  have OB := Lib.hid ob
  have SZ := Lib.hid sz
  have V1 := Lib.hid v1
  clear v1
  clear m1 m2 m3 b1 k1 vb ob sz
  go_wp2_with fail
  refine (ringP_grow M1.out M2.out M3.out).mono ?_
  rintro e w2 ⟨rfl, b2, k2, f2, Q, a2, o2, l2, v2⟩
  obtain ⟨A, hb, hq⟩ := a2.ex
  obtain ⟨hh, rfl, hok, hq⟩ : ∃ h, A = some ⟨h, 0, none⟩ ∧ (ok h ∧ h < w.heap.size ∨ w1'.heap.size ≤ h) ∧ w2.heap[h]? = some (.cells (cellsOf encP Q) 50 (0, 0)) := by
    rcases hq with ⟨hp, _⟩ | hq
    · rw [hp] at l2
      simp at l2
    · exact hq
  have hf : f2 < Q.length := by rcases o2.at_ with hf | ⟨h2, _⟩ <;> omega
  have hmm := o2.room_
  have hmx := o2.most
  obtain ⟨q, hqq⟩ : ∃ q, (f2 + n1) % Q.length = q := ⟨_, rfl⟩
  have hql : q < Q.length := hqq ▸ Nat.mod_lt _ (by omega)
  have hcc := cellsP hq hql
  have qc0 := hcc.1
  have qc1 := hcc.2
  have HST := Lib.hid (cells_set2 (P := Q) encP_len (show encP v = [.string v.1, .int .i64 v.2] from rfl) q)
  have VW := Lib.hid (show view zeroP (Q.set q v) f2 (n1 + 1) = view zeroP Q f2 n1 ++ [v] by rw [← hqq]; exact view_push zeroP hf l2)
  have qf0 := blk_frozen hq (q * 2)
  have qf1 := blk_frozen hq (q * 2 + 1)
  obtain ⟨N1, hN1⟩ : ∃ N1, n1 + 1 = N1 := ⟨_, rfl⟩
  have HW2 := Lib.hid (show wrap64 ((n1 : Int) + 1) = (N1 : Int) by unfold wrap64; omega)
  have c1 := (blk_cell hb 1).trans rfl
  have c2 := (blk_cell hb 2).trans rfl
  have c3 := (blk_cell hb 3).trans rfl
  have g2 := blk_frozen hb 2
  have e1 := eq_true (show (0 : Int) ≤ (q : Int) by omega)
  have e2 : ((q : Int) < (Q.length : Int)) = True := eq_true (by omega)
  have e3 := eq_true hql
  have hne : ¬ hh = g := a2.away _ hok
  have hne2 : ¬ g = hh := fun e => hne e.symm
  have hlg := HLT.out
  have sz := SZ.out
  have x1 : ¬ bv = g := by have := HBV.out; omega
  have x2 : ¬ bo = g := by have := HBO.out; omega
  have x1' : ¬ g = bv := fun e => x1 e.symm
  have x2' : ¬ g = bo := fun e => x2 e.symm
  have x3 : ¬ bv = hh := by have := HBV.out; rcases hok with hok | hok <;> omega
  have x4 : ¬ bo = hh := by have := HBO.out; rcases hok with hok | hok <;> omega
  have x3' : ¬ hh = bv := fun e => x3 e.symm
  have x4' : ¬ hh = bo := fun e => x4 e.symm
  have hvb := blk_kept VB.out k2 x1
  have hob := blk_kept OB.out k2 x2
  have v0 := (blk_cell hvb 0).trans rfl
  have v1' := (blk_cell hvb 1).trans rfl
  have o0 := (blk_cell hob 0).trans rfl
  have o1 := (blk_cell hob 1).trans rfl
  have of0 := blk_frozen hob 0
  have of1 := blk_frozen hob 1
  have d5 : ¬ (Q.length : Int) = 0 := by omega
  have d8 : ¬ Q = [] := by rintro rfl; simp at hf
  have OK2 := Lib.hid (show RingOkP room f2 N1 Q.length from ⟨by omega, .inl hf, hmm, hmx⟩)
  have WR := Lib.hid (ringWrapsP f2 n1 q Q.length (by omega) (by omega) (by omega) hqq)
  have A2 := Lib.hid a2
  have HB := Lib.hid hb
  have HQ := Lib.hid hq
  have HOK := Lib.hid hok
  have B2 := Lib.hid b2
  have K2 := Lib.hid k2
  have V2 := Lib.hid v2
  have HN1 := Lib.hid hN1
  have HOB := Lib.hid hob
  clear a2 hb hq hok b2 k2 v2 o2 l2 hf hmm hmx hqq hql hN1 hcc hvb hob hlg sz
  have hr := WR.out.1
  have hsum := WR.out.2.1
  have hrw := WR.out.2.2
  have hw2 := HW2.out
  go_wp2
  refine still_tail 21 (by kernel_rfl) (by kernel_rfl) ?_
  simp only [List.take_succ_cons, List.take_zero, List.drop_succ_cons, List.drop_zero]
  repeat still_step
  refine wpStill_nil ?_
  clear hr hsum hrw e1 e2 d5
  go_wp2
  obtain ⟨W8, hW8⟩ : ∃ W8, W8 = ((((w2.setCell ⟨hh, q * 2, none⟩ (.string v.1)).setCell ⟨hh, q * 2 + 1, none⟩ (.int .i64 v.2)).setCell ⟨g, 2, none⟩ (.int .i64 N1)).setCell ⟨bo, 0, none⟩ (.string o.1)).setCell ⟨bo, 1, none⟩ (.int .i64 o.2) := ⟨_, rfl⟩
  rw [← hW8]
  have r1 : W8.heap[bo]? = some (.cells #[(.string o.1), (.int .i64 o.2)] 50 (0, 0)) := by
    rw [hW8]
    exact two_set (blk_far (p := ⟨g, 2, none⟩) (blk_far (p := ⟨hh, q * 2 + 1, none⟩) (blk_far (p := ⟨hh, q * 2, none⟩) HOB.out x4 _) x4 _) x2 _) _ _
  have r2 : Below 0 w W8 := by
    rw [hW8]
    exact Below.setCell (p := ⟨bo, 1, none⟩) (Below.setCell (p := ⟨bo, 0, none⟩) (Below.setCell (p := ⟨g, 2, none⟩) (Below.setCell (p := ⟨hh, q * 2 + 1, none⟩) (Below.setCell (p := ⟨hh, q * 2, none⟩) (B1.out.trans B2.out) (Nat.zero_le _) _) (Nat.zero_le _) _) (Nat.zero_le _) _) (Nat.zero_le _) _) (Nat.zero_le _) _
  have hS : (k : Nat) → (ok k ∧ k < w.heap.size ∨ w1'.heap.size ≤ k) → (k = g ∨ ok k) ∨ w.heap.size ≤ k := by
    rintro k (hk | hk)
    · exact .inl (.inr hk.1)
    · exact .inr (Nat.le_trans K1.out.1 hk)
  have hbo : w.heap.size ≤ bo := by have := HBO.out; omega
  have r3 : Kept w W8 (fun k => k = g ∨ ok k) := by
    rw [hW8]
    exact Kept.setCell (p := ⟨bo, 1, none⟩) (Kept.setCell (p := ⟨bo, 0, none⟩) (Kept.setCell (p := ⟨g, 2, none⟩) (Kept.setCell (p := ⟨hh, q * 2 + 1, none⟩) (Kept.setCell (p := ⟨hh, q * 2, none⟩) (Kept.then_ K1.out K2.out (fun k hk => .inl (.inl hk))) (hS hh HOK.out) _) (hS hh HOK.out) _) (.inl (.inl rfl)) _) (.inr hbo) _) (.inr hbo) _
  have r4 : W8.heap[g]? = some (.cells #[.int .i64 room, .int .i64 f2, .int .i64 N1, .slice (some ⟨hh, 0, none⟩) (Q.set q v).length (Q.set q v).length] 84 (0, 0)) := by
    rw [hW8, List.length_set]
    exact blk_far (p := ⟨bo, 1, none⟩) (blk_far (p := ⟨bo, 0, none⟩) (four_set2 (blk_far (p := ⟨hh, q * 2 + 1, none⟩) (blk_far (p := ⟨hh, q * 2, none⟩) HB.out hne2 _) hne2 _) _) x2' _) x2' _
  have r5 : W8.heap[hh]? = some (.cells (cellsOf encP (Q.set q v)) 50 (0, 0)) := by
    rw [hW8, ← HST.out]
    exact blk_far (p := ⟨bo, 1, none⟩) (blk_far (p := ⟨bo, 0, none⟩) (blk_far (p := ⟨g, 2, none⟩) (blk_set (blk_set HQ.out (q * 2) _) (q * 2 + 1) _) hne _) x4' _) x4' _
  clear hW8
  refine bodyPost_ret (results_ct rfl _ _ bo 50 #[(.string o.1), (.int .i64 o.2)] (0, 0) _ rfl r1 Try.underlying50 rfl (by kernel_rfl)) rfl ?_
  refine ⟨by rw [HOO.out]; first | rfl | simp, below_drew r2, r3.drew, f2, Q.set q v, ⟨⟨some ⟨hh, 0, none⟩, ?_, .inr ⟨hh, rfl, ?_, r5⟩⟩, ?_, blk_lt r4⟩, ?_, ?_⟩
  · rw [HNN.out, HN1.out]
    exact r4
  · rcases HOK.out with h1 | h1
    · exact .inl h1.1
    · exact .inr (Nat.le_trans K1.out.1 h1)
  · rintro k (hk | hk)
    · exact HH.out.away k hk
    · have := HLT.out; omega
  · rw [List.length_set, HNN.out, HN1.out]
    exact OK2.out
  · rw [HNN.out, VW.out, V2.out, V1.out, HNN.out]
end Go.Proofs.Ytmlnbmbobkoipaa
