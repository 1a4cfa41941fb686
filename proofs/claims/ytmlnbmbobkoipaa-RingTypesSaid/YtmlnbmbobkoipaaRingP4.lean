/-
  What the functions of package ring do to a ring of structs of two fields that lies in memory: what each call does to a ring that holds a list.
-/
import Derived.Test.YtmlnbmbobkoipaaRingP3
namespace Go.Proofs.Ytmlnbmbobkoipaa
open Go.RowKit Go.Proofs.YtmlnbmbobkoipaaW.PrintWords Go.Proofs.YtmlnbmbobkoipaaW.PrintLast Go.Proofs.YtmlnbmbobkoipaaW.PrintMore
/-- The ring at block g holds L, the oldest first. -/
structure RingIsP (w : World) (g : Nat) (ok : Nat → Prop) (room : Int) (L : List (ByteArray × Int)) : Prop where
  ex : ∃ (f : Nat) (P : List (ByteArray × Int)), RingAtP w g ok room f L.length P ∧ RingOkP room f L.length P.length ∧ view zeroP P f L.length = L
section
variable {w w' : World} {g : Nat} {ok : Nat → Prop} {room : Int} {L : List (ByteArray × Int)}
theorem RingIsP.below (h : RingIsP w g ok room L) (hb : Below w.heap.size w w') : RingIsP w' g ok room L := by
  obtain ⟨f, P, h1, h2, h3⟩ := h
  exact ⟨f, P, h1.below hb, h2, h3⟩
theorem RingIsP.kept {S : Nat → Prop} (h : RingIsP w g ok room L) (hk : Kept w w' S) (hg : ¬ S g) (hs : ∀ k, ok k → ¬ S k) : RingIsP w' g ok room L := by
  obtain ⟨f, P, h1, h2, h3⟩ := h
  exact ⟨f, P, h1.kept hk hg hs, h2, h3⟩
theorem RingIsP.few (h : RingIsP w g ok room L) : (L.length : Int) ≤ room ∧ room ≤ 4096 := by
  obtain ⟨f, P, h1, h2, h3⟩ := h
  have h4 := h2.room_
  have h5 := h2.le
  exact ⟨by omega, h2.most⟩
theorem RingIsP.lt (h : RingIsP w g ok room L) : g < w.heap.size := by
  obtain ⟨f, P, h1, h2, h3⟩ := h
  exact h1.lt
theorem RingIsP.away (h : RingIsP w g ok room L) : ∀ k, ok k → k ≠ g := by
  obtain ⟨f, P, h1, h2, h3⟩ := h
  exact h1.away
/-- Only blocks that are there. -/
theorem RingIsP.tight (h : RingIsP w g ok room L) : RingIsP w g (fun k => ok k ∧ k < w.heap.size) room L := by
  obtain ⟨f, P, ⟨⟨A, h1, hq⟩, h3, h4⟩, h5, h6⟩ := h
  refine ⟨f, P, ⟨⟨A, h1, ?_⟩, fun k hk => h3 k hk.1, h4⟩, h5, h6⟩
  rcases hq with hq | ⟨hh, e, hok, hq⟩
  · exact .inl hq
  · exact .inr ⟨hh, e, ⟨hok, blk_lt hq⟩, hq⟩
theorem ringsP_len (h : RingIsP w g ok room L) : Calls Try.prog 25 #[.pointer (some ⟨g, 0, none⟩)] w fun e w' => e = .returned (.int .i64 (L.length : Int)) ∧ w = w' := by
  obtain ⟨f, P, h1, h2, h3⟩ := h
  exact ringP_len h1
theorem ringsP_room (h : RingIsP w g ok room L) : Calls Try.prog 40 #[.pointer (some ⟨g, 0, none⟩)] w fun e w' => e = .returned (.int .i64 room) ∧ w = w' := by
  obtain ⟨f, P, h1, h2, h3⟩ := h
  exact ringP_room h1
/-- The number at a place, and whether there is one. -/
def atP (L : List (ByteArray × Int)) (i : Int) : ByteArray × Int := if 0 ≤ i ∧ i < L.length then L.getD i.toNat zeroP else zeroP
def hasP (L : List (ByteArray × Int)) (i : Int) : Bool := decide (0 ≤ i ∧ i < L.length)
set_option maxRecDepth 100000 in
theorem ringP_at_out {f n : Nat} {P : List (ByteArray × Int)} (h : RingAtP w g ok room f n P) (i : Int) (hi : i < 0 ∨ (n : Int) ≤ i) :
    Calls Try.prog 24 #[.pointer (some ⟨g, 0, none⟩), .int .i64 i] w fun e w' => e = .returned (.tuple #[valP zeroP, .bool false]) ∧ Below w.heap.size w w' := by
  by_cases h0 : i < 0
  · have d1 : decide (i < 0) = true := decide_eq_true h0
    clear hi h0
    go_enter Try.func24, Try.ntmps24
    go_wp2
    have r1 := blk_new w (.cells #[.string ByteArray.empty, .int .i64 0] 50 (0, 0))
    refine bodyPost_ret (results_ct rfl _ _ w.heap.size 50 #[.string ByteArray.empty, .int .i64 0] (0, 0) _ rfl r1 Try.underlying50 rfl (by kernel_rfl)) rfl ?_
    exact ⟨by first | rfl | simp, below_alloc (Below.refl _ _) _⟩
  · have hn : (n : Int) ≤ i := by omega
    have d1 : decide (i < 0) = false := decide_eq_false h0
    have d2 : decide ((n : Int) ≤ i) = true := decide_eq_true hn
    clear hi h0 hn
    go_enter Try.func24, Try.ntmps24
    go_wp2_with fail
    generalize hw1 : w.alloc _ = w1
    have B1 : Below w.heap.size w w1 := by rw [← hw1]; exact below_alloc (Below.refl _ _) _
    have K1 : w1.heap[w.heap.size]? = some (.cells #[.string ByteArray.empty, .int .i64 0] 50 (0, 0)) := by rw [← hw1]; exact blk_new _ _
    clear hw1
    refine (ringP_len (h.below B1)).mono ?_
    rintro e w2 ⟨rfl, rfl⟩
    have b0 := (blk_cell K1 0).trans rfl
    have b1 := (blk_cell K1 1).trans rfl
    have g0 := blk_frozen K1 0
    have g1 := blk_frozen K1 1
    have HK1 := Lib.hid K1
    have HB1 := Lib.hid B1
    clear K1 B1
    go_wp2
    refine bodyPost_ret (results_ct rfl _ _ w.heap.size 50 #[.string ByteArray.empty, .int .i64 0] (0, 0) _ rfl (two_set HK1.out _ _) Try.underlying50 rfl (by kernel_rfl)) rfl ?_
    exact ⟨by first | rfl | simp, Below.setCell (p := ⟨w.heap.size, 1, none⟩) (Below.setCell (p := ⟨w.heap.size, 0, none⟩) HB1.out (Nat.le_refl _) _) (Nat.le_refl _) _⟩
theorem ringsP_at (h : RingIsP w g ok room L) (i : Int) : Calls Try.prog 24 #[.pointer (some ⟨g, 0, none⟩), .int .i64 i] w fun e w' => e = .returned (.tuple #[valP (atP L i), .bool (hasP L i)]) ∧ Below w.heap.size w w' := by
  obtain ⟨f, P, h1, h2, h3⟩ := h
  by_cases hi : 0 ≤ i ∧ i < L.length
  · refine (ringP_at h1 h2 i hi.1 hi.2).mono ?_
    rintro e w' ⟨rfl, hb⟩
    have e1 : hasP L i = true := decide_eq_true hi
    have e2 : atP L i = P.getD ((f + i.toNat) % P.length) zeroP := by
      unfold atP
      rw [if_pos hi]
      have := view_get zeroP (P := P) (f := f) (n := L.length) (i := i.toNat) (by omega)
      rw [h3] at this
      rw [List.getD_eq_getElem?_getD, this]
      rfl
    rw [e1, e2]
    exact ⟨rfl, hb⟩
  · refine (ringP_at_out h1 i (by omega)).mono ?_
    rintro e w' ⟨rfl, hb⟩
    have e1 : hasP L i = false := decide_eq_false hi
    have e2 : atP L i = zeroP := if_neg hi
    rw [e1, e2]
    exact ⟨rfl, hb⟩
theorem ringsP_drop_none (h : RingIsP w g ok room []) : Calls Try.prog 26 #[.pointer (some ⟨g, 0, none⟩)] w fun e w' => e = .returned (.tuple #[valP zeroP, .bool false]) ∧ Below w.heap.size w w' := by
  obtain ⟨f, P, h1, h2, h3⟩ := h
  exact ringP_drop_none h1 rfl
theorem ringsP_drop {x : ByteArray × Int} (h : RingIsP w g ok room (x :: L)) : Calls Try.prog 26 #[.pointer (some ⟨g, 0, none⟩)] w fun e w' => e = .returned (.tuple #[valP x, .bool true]) ∧ Below 0 w w' ∧ Kept w w' (fun k => k = g ∨ ok k) ∧ RingIsP w' g ok room L := by
  obtain ⟨f, P, h1, h2, h3⟩ := h
  have hm := h2.le
  simp only [List.length_cons] at hm h3
  have hf : f < P.length := by rcases h2.at_ with hf | ⟨h2, _⟩ <;> omega
  rw [view_drop zeroP hf hm] at h3
  injection h3 with e1 e2
  refine (ringP_drop h1 h2 (by simp)).mono ?_
  rintro e w' ⟨rfl, k1, k2, k3⟩
  rw [e1]
  refine ⟨rfl, k1, k2, _, _, k3, ?_, ?_⟩
  · rw [List.length_set]
    exact ⟨by omega, .inl (Nat.mod_lt _ (by omega)), h2.room_, h2.most⟩
  · exact e2
theorem ringsP_push (v : ByteArray × Int) (h : RingIsP w g ok room L) (hr : 0 < room) : Calls Try.prog 23 #[.pointer (some ⟨g, 0, none⟩), valP v] w fun e w' =>
    e = .returned (.tuple #[valP (if (L.length : Int) = room then L.headD zeroP else zeroP), .bool (decide ((L.length : Int) = room))]) ∧ Below 0 w w' ∧ Kept w w' (fun k => k = g ∨ ok k) ∧
      RingIsP w' g (fun k => ok k ∨ w.heap.size ≤ k) room ((if (L.length : Int) = room then L.tail else L) ++ [v]) := by
  have hfew := h.few
  obtain ⟨f, P, h1, h2, h3⟩ := h
  by_cases hf : (L.length : Int) = room
  · rw [if_pos hf, if_pos hf, decide_eq_true hf]
    cases L with
    | nil => simp at hf; omega
    | cons x T =>
      refine (ringP_push_full v h1 h2 hr hf).mono ?_
      rintro e w' ⟨rfl, k1, k2, f', Q, k3, k4, k5⟩
      have hm := h2.le
      simp only [List.length_cons] at hm
      have hf1 : f < P.length := by rcases h2.at_ with hf | ⟨h2, _⟩ <;> omega
      have e0 : P.getD f zeroP = x := by
        simp only [List.length_cons] at h3
        rw [view_drop zeroP hf1 hm] at h3
        injection h3
      rw [h3] at k5
      have el : (T ++ [v]).length = (x :: T).length := by simp
      refine ⟨by rw [e0]; rfl, k1, k2, f', Q, ?_, ?_, ?_⟩
      · simp only [List.tail_cons]
        rw [el]
        exact k3
      · simp only [List.tail_cons]
        rw [el]
        exact k4
      · simp only [List.tail_cons]
        rw [el]
        exact k5
  · rw [if_neg hf, if_neg hf, decide_eq_false hf]
    refine (ringP_push_room v h1 h2 hr (by omega)).mono ?_
    rintro e w' ⟨rfl, k1, k2, f', Q, k3, k4, k5⟩
    rw [h3] at k5
    have el : (L ++ [v]).length = L.length + 1 := by simp
    refine ⟨rfl, k1, k2, f', Q, ?_, ?_, ?_⟩
    · rw [el]; exact k3
    · rw [el]; exact k4
    · rw [el]; exact k5
end
set_option maxRecDepth 100000 in
theorem ringsP_new_no (room : Int) (w : World) (hr : room < 1 ∨ 4096 < room) : Calls Try.prog 22 #[.int .i64 room] w fun e w' => e = .returned (.tuple #[.pointer none, .int .i64 3]) ∧ Below w.heap.size w w' := by
  by_cases h0 : room < 1
  · have d1 : decide (room < 1) = true := decide_eq_true h0
    clear hr
    go_enter Try.func22, Try.ntmps22
    go_wp2
    go_ret2
    exact ⟨by simp, Below.refl _ _⟩
  · have d1 : decide (room < 1) = false := decide_eq_false h0
    have d2 : decide (4096 < room) = true := decide_eq_true (by omega)
    clear hr
    go_enter Try.func22, Try.ntmps22
    go_wp2
    go_ret2
    exact ⟨by simp, Below.refl _ _⟩
set_option maxRecDepth 100000 in
theorem ringsP_new (room : Int) (w : World) (h1 : 1 ≤ room) (h2 : room ≤ 4096) : Calls Try.prog 22 #[.int .i64 room] w fun e w' => ∃ g, e = .returned (.tuple #[.pointer (some ⟨g, 0, none⟩), .int .i64 0]) ∧ w.heap.size ≤ g ∧ RingIsP w' g (fun _ => False) room [] ∧ Below w.heap.size w w' := by
  have d1 : decide (room < 1) = false := decide_eq_false (by omega)
  have d2 : decide (4096 < room) = false := decide_eq_false (by omega)
  go_enter Try.func22, Try.ntmps22
  go_wp2
  go_ret2
  refine ⟨w.heap.size, by simp, Nat.le_refl _, ⟨0, [], ⟨⟨none, blk_new _ _, .inl ⟨rfl, rfl⟩⟩, fun _ hk => hk.elim, by simp⟩, ⟨Nat.le_refl _, .inr ⟨rfl, rfl⟩, by simp; omega, h2⟩, rfl⟩, below_alloc (Below.refl _ _) _⟩
end Go.Proofs.Ytmlnbmbobkoipaa
