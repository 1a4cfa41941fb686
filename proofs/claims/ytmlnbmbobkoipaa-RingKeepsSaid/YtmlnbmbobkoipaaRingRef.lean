/-
  The reference's ring of numbers: what each call does to it, and what it answers.
-/
import Derived.Test.YtmlnbmbobkoipaaRingI4
import Derived.Test.YtmlnbmbobkoipaaMonoPlaysLaw
namespace Go.Proofs.Ytmlnbmbobkoipaa
open Go.RowKit Go.Proofs.Ytmlnbmbobkoipaa.XMono Go.Proofs.YtmlnbmbobkoipaaW.PrintWords Go.Proofs.YtmlnbmbobkoipaaW.PrintLast Go.Proofs.YtmlnbmbobkoipaaW.PrintMore

/-- The reference's ring at block g holds L. -/
structure RefAt (w : World) (g : Nat) (ok : Nat → Prop) (room : Int) (L : List Int) : Prop where
  ex : ∃ A c, w.heap[g]? = some (.cells #[.int .i64 room, .slice A L.length c] 66 (0, 0)) ∧ Kd.Q (Kd.int .i64) 2 w 0 ok (.slice A L.length c) L
  away : ∀ k, ok k → k ≠ g
  lt : g < w.heap.size
section
variable {w w' : World} {g : Nat} {ok : Nat → Prop} {room : Int} {L : List Int}
theorem RefAt.below (h : RefAt w g ok room L) (hb : Below w.heap.size w w') : RefAt w' g ok room L := by
  obtain ⟨⟨A, c, h1, h2⟩, h3, h4⟩ := h
  exact ⟨⟨A, c, (hb.block g h4).trans h1, Kd.Q_below h2 hb⟩, h3, Nat.lt_of_lt_of_le h4 hb.size⟩
theorem RefAt.kept {S : Nat → Prop} (h : RefAt w g ok room L) (hk : Kept w w' S) (hg : ¬ S g) (hs : ∀ k, ok k → ¬ S k) : RefAt w' g ok room L := by
  obtain ⟨⟨A, c, h1, h2⟩, h3, h4⟩ := h
  exact ⟨⟨A, c, blk_kept h1 hk hg, Kd.Q_kept h2 hk hs⟩, h3, Nat.lt_of_lt_of_le h4 hk.1⟩
theorem RefAt.mono {ok' : Nat → Prop} (h : RefAt w g ok room L) (hm : ∀ k, ok k → ok' k) (ha : ∀ k, ok' k → k ≠ g) : RefAt w g ok' room L := by
  obtain ⟨⟨A, c, h1, h2⟩, h3, h4⟩ := h
  exact ⟨⟨A, c, h1, Kd.Q_mono h2 hm⟩, ha, h4⟩
theorem RefAt.tight (h : RefAt w g ok room L) : RefAt w g (fun k => ok k ∧ k < w.heap.size) room L := by
  obtain ⟨⟨A, c, h1, h2⟩, h3, h4⟩ := h
  exact ⟨⟨A, c, h1, Kd.Q_mono (Kd.Q_bound h2) (fun k hk => ⟨hk.1, hk.2.2.1⟩)⟩, fun k hk => h3 k hk.1, h4⟩
end
section
variable {w : World} {g : Nat} {t : TypeId} {a b : Value}
/-- A block of two cells. -/
theorem two_set1 (h : w.heap[g]? = some (.cells #[a, b] t (0, 0))) (u : Value) : (w.setCell ⟨g, 1, none⟩ u).heap[g]? = some (.cells #[a, u] t (0, 0)) := by simpa using blk_set h 1 u
end
set_option maxRecDepth 100000 in
theorem ref05_new_no (room : Int) (w : World) (hr : room < 1 ∨ 4096 < room) : Calls Try.prog 28 #[.int .i64 room] w fun e w' => e = .returned (.tuple #[.pointer none, .int .i64 3]) ∧ Below w.heap.size w w' := by
  by_cases h0 : room < 1
  · have d1 : decide (room < 1) = true := decide_eq_true h0
    clear hr
    go_enter Try.func28, Try.ntmps28
    go_wp2
    go_ret2
    exact ⟨by simp, Below.refl _ _⟩
  · have d1 : decide (room < 1) = false := decide_eq_false h0
    have d2 : decide (4096 < room) = true := decide_eq_true (by omega)
    clear hr
    go_enter Try.func28, Try.ntmps28
    go_wp2
    go_ret2
    exact ⟨by simp, Below.refl _ _⟩
set_option maxRecDepth 100000 in
theorem ref05_new (room : Int) (w : World) (h1 : 1 ≤ room) (h2 : room ≤ 4096) : Calls Try.prog 28 #[.int .i64 room] w fun e w' => ∃ g, e = .returned (.tuple #[.pointer (some ⟨g, 0, none⟩), .int .i64 0]) ∧ w.heap.size ≤ g ∧ RefAt w' g (fun _ => False) room [] ∧ Below w.heap.size w w' := by
  have d1 : decide (room < 1) = false := decide_eq_false (by omega)
  have d2 : decide (4096 < room) = false := decide_eq_false (by omega)
  go_enter Try.func28, Try.ntmps28
  go_wp2_with (first | ((with_reducible refine gate_dst (N := 12) rfl ?_); refine box_event ?hg (N := 12) ?hd (cs := #[.int .i64 room, .slice none 0 0]) (t := 66) ?hr ?_; (case hd => rfl); (case hg => rfl); (case hr => first | (go_simp; done) | (go_simp; rfl)); intro gb hg w2 hbox hb; have HBOX := Lib.hid hbox; have HG := Lib.hid hg; have HB2 := Lib.hid hb; clear hbox hg hb))
  go_ret2
  refine ⟨gb, by simp, Nat.le_of_eq HG.out.symm, ⟨⟨none, 0, HBOX.out, Kd.Q_nil _ _ _ _ _⟩, fun _ hk => hk.elim, blk_lt HBOX.out⟩, HB2.out⟩
section
variable {w : World} {g : Nat} {ok : Nat → Prop} {room : Int} {L : List Int}
set_option maxRecDepth 100000 in
theorem ref05_drop_none (h : RefAt w g ok room []) : Calls Try.prog 43 #[.pointer (some ⟨g, 0, none⟩)] w fun e w' => e = .returned (.tuple #[.int .i64 0, .bool false]) ∧ Below w.heap.size w w' := by
  obtain ⟨A, c, hb, hq⟩ := h.ex
  have c1 := (blk_cell hb 1).trans rfl
  clear h hb hq
  go_enter Try.func43, Try.ntmps43
  go_wp2
  go_ret2
  exact ⟨by simp, Below.refl _ _⟩
set_option maxRecDepth 100000 in
theorem ref05_drop {x : Int} (h : RefAt w g ok room (x :: L)) : Calls Try.prog 43 #[.pointer (some ⟨g, 0, none⟩)] w fun e w' => e = .returned (.tuple #[.int .i64 x, .bool true]) ∧ Below 0 w w' ∧ Kept w w' (fun k => k = g) ∧ RefAt w' g ok room L := by
  obtain ⟨A, c, hb, hq⟩ := h.ex
  obtain ⟨ad, rfl, r0⟩ := Kd.at_int (Kd.Q_reads' hq).2.2 0 (by decide) (by simp)
  have r1 : w.cell? ad = some (.int .i64 x) := by simpa [Addr.add, rd] using r0
  have c1 := (blk_cell hb 1).trans rfl
  have f1 := blk_frozen hb 1
  have hc := (Kd.Q_reads' hq).2.1
  simp only [List.length_cons] at c1 hb hq hc
  have e1 := eq_true (show (1 : Int) ≤ (L.length : Int) + 1 by omega)
  have e2 : ((L.length : Int) + 1 ≤ (c : Int)) = True := eq_true (by omega)
  have e3 : (L.length + 1 ≤ c) = True := eq_true hc
  obtain ⟨A2, hA2⟩ : ∃ A2, (if c = 1 then some ad else some (⟨ad.block, ad.off + 1, none⟩ : Addr)) = A2 := ⟨_, rfl⟩
  have hd := show Kd.Q (Kd.int .i64) 2 w 0 ok (.slice (if c = 1 then some ad else some ⟨ad.block, ad.off + 1, none⟩) L.length (c - 1)) L from Kd.Q_drop (k := 1) hq (by simp)
  rw [hA2] at hd
  have HD := Lib.hid hd
  have HB := Lib.hid hb
  have HH := Lib.hid h
  clear h hb hq hd hc r0
  go_enter Try.func43, Try.ntmps43
  go_wp2
  go_ret2
  refine ⟨by simp, Below.setCell (p := ⟨g, 1, none⟩) (Below.refl 0 w) (Nat.zero_le _) _, Kept.setCell (S := fun k => k = g) (p := ⟨g, 1, none⟩) (Kept.refl w _) (.inl rfl) _, ⟨A2, c - 1, two_set1 HB.out _, Kd.Q_far (p := ⟨g, 1, none⟩) HD.out HH.out.away _⟩, HH.out.away, ?_⟩
  have := HH.out.lt
  simpa using this
set_option maxRecDepth 100000 in
theorem ref05_at (h : RefAt w g ok room L) (i : Int) : Calls Try.prog 44 #[.pointer (some ⟨g, 0, none⟩), .int .i64 i] w fun e w' => e = .returned (.tuple #[.int .i64 (atV L i), .bool (atB L i)]) ∧ w = w' := by
  obtain ⟨A, c, hb, hq⟩ := h.ex
  have c1 := (blk_cell hb 1).trans rfl
  by_cases h0 : i < 0
  · have d1 : decide (i < 0) = true := decide_eq_true h0
    have E1 := Lib.hid (show atB L i = false from decide_eq_false (by omega))
    have E2 := Lib.hid (show atV L i = 0 from if_neg (by omega))
    clear h hb hq h0
    go_enter Try.func44, Try.ntmps44
    go_wp2
    go_ret2
    exact ⟨by simp [E1.out, E2.out], rfl⟩
  · by_cases hn : (L.length : Int) ≤ i
    · have d1 : decide (i < 0) = false := decide_eq_false h0
      have d2 : decide ((L.length : Int) ≤ i) = true := decide_eq_true hn
      have E1 := Lib.hid (show atB L i = false from decide_eq_false (by omega))
      have E2 := Lib.hid (show atV L i = 0 from if_neg (by omega))
      clear h hb hq h0 hn
      go_enter Try.func44, Try.ntmps44
      go_wp2
      go_ret2
      exact ⟨by simp [E1.out, E2.out], rfl⟩
    · have d1 : decide (i < 0) = false := decide_eq_false h0
      have d2 : decide ((L.length : Int) ≤ i) = false := decide_eq_false hn
      have E1 := Lib.hid (show atB L i = true from decide_eq_true (by omega))
      have E2 := Lib.hid (show atV L i = rd L i from if_pos (by omega))
      obtain ⟨ad, rfl, r0⟩ := Kd.at_int (Kd.Q_reads' hq).2.2 i (by omega) (by omega)
      have e1 := eq_true (show (0 : Int) ≤ i by omega)
      have e2 : (i < (L.length : Int)) = True := eq_true (by omega)
      clear h hb hq h0 hn
      go_enter Try.func44, Try.ntmps44
      go_wp2
      go_ret2
      exact ⟨by simp [E1.out, E2.out], rfl⟩
theorem RefAt.appended {w1 : World} {v1 : Value} {A : Option Addr} {c : Nat} {x : Int} (h : RefAt w g ok room L) (hb : w.heap[g]? = some (.cells #[.int .i64 room, .slice A L.length c] 66 (0, 0)))
    (hv : ∀ k, (Value.slice A L.length c).ownBlock = some k → ok k) (q : Kd.Q (Kd.int .i64) 2 w1 0 (fun k => ok k ∨ w.heap.size ≤ k) v1 (L ++ [x])) (b : Below 0 w w1) (gr : w.grownBy w1 (Value.slice A L.length c).ownBlock) :
    Below 0 w (w1.setCell ⟨g, 1, none⟩ v1) ∧ Kept w (w1.setCell ⟨g, 1, none⟩ v1) (fun k => k = g ∨ ok k) ∧ RefAt (w1.setCell ⟨g, 1, none⟩ v1) g (fun k => ok k ∨ w.heap.size ≤ k) room (L ++ [x]) := by
  have hk : Kept w w1 (fun k => k = g ∨ ok k) := Kept.of_grown gr (Kept.refl w _) (fun k hk => .inl (.inr (hv k hk)))
  have hb1 : w1.heap[g]? = some (.cells #[.int .i64 room, .slice A L.length c] 66 (0, 0)) := (gr.block g h.lt (fun e => h.away g (hv g e.symm) rfl)).trans hb
  have ha : ∀ k, (ok k ∨ w.heap.size ≤ k) → k ≠ g := by
    rintro k (hk | hk)
    · exact h.away k hk
    · have := h.lt; omega
  refine ⟨Below.setCell (p := ⟨g, 1, none⟩) b (Nat.zero_le _) _, Kept.setCell (p := ⟨g, 1, none⟩) hk (.inl (.inl rfl)) _, ?_, ha, ?_⟩
  · obtain ⟨A1, c1, rfl, _⟩ := Kd.Q_slice q
    exact ⟨A1, c1, two_set1 hb1 _, Kd.Q_far (p := ⟨g, 1, none⟩) q ha _⟩
  · have := blk_lt hb1
    simpa using this
set_option maxHeartbeats 4000000 in
set_option maxRecDepth 100000 in
theorem ref05_push_room (v : Int) (h : RefAt w g ok room L) (hr : (L.length : Int) < room) (hm : room ≤ 4096) : Calls Try.prog 42 #[.pointer (some ⟨g, 0, none⟩), .int .i64 v] w fun e w' =>
    e = .returned (.tuple #[.int .i64 0, .bool false]) ∧ Below 0 w w' ∧ Kept w w' (fun k => k = g ∨ ok k) ∧ RefAt w' g (fun k => ok k ∨ w.heap.size ≤ k) room (L ++ [v]) := by
  obtain ⟨A, c, hb, hq⟩ := h.ex
  have c0 := (blk_cell hb 0).trans rfl
  have c1 := (blk_cell hb 1).trans rfl
  have d1 : ((L.length : Int) == room) = false := beq_eq_false_iff_ne.2 (by omega)
  have HB := Lib.hid hb
  have HH := Lib.hid h
  have HQ := Lib.hid hq
  have HL := Lib.hid (show (L.length + 1) * 8 ≤ 140737488355328 by omega)
  clear h hb hq hr hm
  go_enter Try.func42, Try.ntmps42
  go_wp2
  go_quiet (fail)
  obtain ⟨w1, hw1⟩ : ∃ w1, w1 = w.drewN nq := ⟨_, rfl⟩
  rw [← hw1]
  have bw : Below w.heap.size w w1 := by rw [hw1]; exact pw_below_drewN (Below.refl _ _) _
  have q1 : w1.cell? ⟨g, 1, none⟩ = some (.slice A L.length c) := by rw [hw1]; exact c1
  have f1 : w1.frozen? ⟨g, 1, none⟩ = false := by rw [hw1]; exact blk_frozen HB.out 1
  have hz : w1.heap.size = w.heap.size := by rw [hw1]; rfl
  have HZ := Lib.hid hz
  have H1 := Lib.hid (HH.out.below bw)
  have HQ1 := Lib.hid (Kd.Q_below HQ.out bw)
  have HB1 := Lib.hid ((bw.block g HH.out.lt).trans HB.out)
  have BW := Lib.hid bw
  clear hw1 bw c0 c1 hz
  go_wp2_with (first | ((with_reducible refine gate_builtin (b := .append) (xs := #[.tmp 28, .tmp 30]) rfl ?_); at_builtin; refine Kd.Q_append (Kd.int .i64) (w0 := w1) 0 rfl (.tmp 28) (.tmp 30) 22 2 (.int .i64 0) 8 rfl Try.underlying22 info64 rfl (by decide) (by decide) (.slice A L.length c) L v [.int .i64 v] (fun k => ok k ∨ w1.heap.size ≤ k) (fun _ => False) (by rfl) (by rfl) ?aP (fun _ hk => hk.elim) (fun k hk => .inr hk) (Kd.Q_mono HQ1.out (fun k hk => .inl hk)) (Below.refl 0 w1) (Nat.zero_le _) HL.out ?_; (case aP => exact rfl); intro v108 w9 ho hb9 hg9 hat; obtain ⟨t1, t2, t3⟩ := RefAt.appended H1.out HB1.out HQ1.out.1 ho hb9 hg9; have hc9 := cell_grown hg9 q1 (fun e => H1.out.away g (HQ1.out.1 g e.symm) rfl); have hf9 : w9.frozen? ⟨g, 1, none⟩ = false := blk_frozen ((hg9.block g H1.out.lt (fun e => H1.out.away g (HQ1.out.1 g e.symm) rfl)).trans HB1.out) 1; obtain ⟨A9, c9, rfl, _⟩ := Kd.Q_slice ho; rw [show (L ++ [v]).length = L.length + 1 by simp] at t1 t2 t3; have T1 := Lib.hid t1; have T2 := Lib.hid t2; have T3 := Lib.hid t3; clear ho hb9 hg9 hat t1 t2 t3))
  go_ret2
  refine ⟨by simp, (BW.out.mono (Nat.zero_le _)).trans T1.out, Kept.then_ (Kept.of_below BW.out _) T2.out (fun k hk => .inl hk), ?_⟩
  have := T3.out
  rw [HZ.out] at this
  exact this
set_option maxHeartbeats 4000000 in
set_option maxRecDepth 100000 in
theorem ref05_push_full {x : Int} (v : Int) (h : RefAt w g ok room (x :: L)) (hr : ((x :: L).length : Int) = room) (hm : room ≤ 4096) : Calls Try.prog 42 #[.pointer (some ⟨g, 0, none⟩), .int .i64 v] w fun e w' =>
    e = .returned (.tuple #[.int .i64 x, .bool true]) ∧ Below 0 w w' ∧ Kept w w' (fun k => k = g ∨ ok k) ∧ RefAt w' g (fun k => ok k ∨ w.heap.size ≤ k) room (L ++ [v]) := by
  obtain ⟨A, c, hb, hq⟩ := h.ex
  have c0 := (blk_cell hb 0).trans rfl
  have c1 := (blk_cell hb 1).trans rfl
  have HL := Lib.hid (show (L.length + 1) * 8 ≤ 140737488355328 by simp only [List.length_cons] at hr; omega)
  subst hr
  obtain ⟨n, hn⟩ : ∃ n, (x :: L).length = n := ⟨_, rfl⟩
  obtain ⟨M, hM⟩ : ∃ M, x :: L = M := ⟨_, rfl⟩
  have HM := Lib.hid hM
  rw [hn] at c0 c1
  have d1 : ((n : Int) == (n : Int)) = true := by simp
  have HH := Lib.hid h
  clear h hb hq hm hn hM
  go_enter Try.func42, Try.ntmps42
  go_wp2
  go_quiet (fail)
  clear c0 c1
  go_wp2_with fail
  refine (ref05_drop (HH.out.below (pw_below_drewN (Below.refl _ _) nq))).mono ?_
  rintro e w1 ⟨rfl, b1, k1, m1⟩
  have b1 : Below 0 w w1 := (pw_below_drewN (Below.refl 0 w) nq).trans b1
  have k1 : Kept w w1 (fun k => k = g) := k1
  obtain ⟨A, c, hb, hq⟩ := m1.ex
  have q1 := (blk_cell hb 1).trans rfl
  have f1 := blk_frozen hb 1
  have H1 := Lib.hid m1
  have HQ1 := Lib.hid hq
  have HB1 := Lib.hid hb
  have B1 := Lib.hid b1
  have K1 := Lib.hid k1
  clear m1 hq hb b1 k1
  go_wp2_with (first | ((with_reducible refine gate_builtin (b := .append) (xs := #[.tmp 28, .tmp 30]) rfl ?_); at_builtin; refine Kd.Q_append (Kd.int .i64) (w0 := w1) 0 rfl (.tmp 28) (.tmp 30) 22 2 (.int .i64 0) 8 rfl Try.underlying22 info64 rfl (by decide) (by decide) (.slice A L.length c) L v [.int .i64 v] (fun k => ok k ∨ w1.heap.size ≤ k) (fun _ => False) (by rfl) (by rfl) ?aP (fun _ hk => hk.elim) (fun k hk => .inr hk) (Kd.Q_mono HQ1.out (fun k hk => .inl hk)) (Below.refl 0 w1) (Nat.zero_le _) HL.out ?_; (case aP => exact rfl); intro v108 w9 ho hb9 hg9 hat; obtain ⟨t1, t2, t3⟩ := RefAt.appended H1.out HB1.out HQ1.out.1 ho hb9 hg9; have hc9 := cell_grown hg9 q1 (fun e => H1.out.away g (HQ1.out.1 g e.symm) rfl); have hf9 : w9.frozen? ⟨g, 1, none⟩ = false := blk_frozen ((hg9.block g H1.out.lt (fun e => H1.out.away g (HQ1.out.1 g e.symm) rfl)).trans HB1.out) 1; obtain ⟨A9, c9, rfl, _⟩ := Kd.Q_slice ho; rw [show (L ++ [v]).length = L.length + 1 by simp] at t1 t2 t3; have T1 := Lib.hid t1; have T2 := Lib.hid t2; have T3 := Lib.hid t3; clear ho hb9 hg9 hat t1 t2 t3))
  go_ret2
  refine ⟨by simp, B1.out.trans T1.out, Kept.then_ (Kept.mono K1.out (fun k hk => .inl hk)) T2.out (fun k hk => .inl hk), ?_⟩
  refine T3.out.mono ?_ ?_
  · rintro k (hk | hk)
    · exact .inl hk
    · exact .inr (Nat.le_trans K1.out.1 hk)
  · rintro k (hk | hk)
    · exact HH.out.away k hk
    · have := HH.out.lt; omega
theorem ref05_push (v : Int) (h : RefAt w g ok room L) (hr : (L.length : Int) ≤ room) (h0 : 0 < room) (hm : room ≤ 4096) : Calls Try.prog 42 #[.pointer (some ⟨g, 0, none⟩), .int .i64 v] w fun e w' =>
    e = .returned (.tuple #[.int .i64 (if (L.length : Int) = room then L.headD 0 else 0), .bool (decide ((L.length : Int) = room))]) ∧ Below 0 w w' ∧ Kept w w' (fun k => k = g ∨ ok k) ∧
      RefAt w' g (fun k => ok k ∨ w.heap.size ≤ k) room ((if (L.length : Int) = room then L.tail else L) ++ [v]) := by
  by_cases hf : (L.length : Int) = room
  · rw [if_pos hf, if_pos hf, decide_eq_true hf]
    cases L with
    | nil => simp at hf; omega
    | cons x T => exact ref05_push_full v h hf hm
  · rw [if_neg hf, if_neg hf, decide_eq_false hf]
    exact ref05_push_room v h (by omega) hm
end
end Go.Proofs.Ytmlnbmbobkoipaa
