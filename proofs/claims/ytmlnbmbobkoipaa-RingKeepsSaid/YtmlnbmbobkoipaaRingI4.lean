/-
  A ring of int64 that holds a list: what each call does to it, and what it answers.
-/
import Derived.Test.YtmlnbmbobkoipaaRingI3
namespace Go.Proofs.Ytmlnbmbobkoipaa
open Go.RowKit Go.Proofs.YtmlnbmbobkoipaaW.PrintWords Go.Proofs.YtmlnbmbobkoipaaW.PrintLast Go.Proofs.YtmlnbmbobkoipaaW.PrintMore

/-- The ring at block g holds L, the oldest first. -/
structure RingIsI (w : World) (g : Nat) (ok : Nat → Prop) (room : Int) (L : List Int) : Prop where
  ex : ∃ (f : Nat) (P : List Int), RingAtI w g ok room f L.length P ∧ RingOk room f L.length P.length ∧ view 0 P f L.length = L
section
variable {w w' : World} {g : Nat} {ok : Nat → Prop} {room : Int} {L : List Int}
theorem RingAtI.kept {f n : Nat} {P : List Int} {S : Nat → Prop} (h : RingAtI w g ok room f n P) (hk : Kept w w' S) (hg : ¬ S g) (hs : ∀ k, ok k → ¬ S k) : RingAtI w' g ok room f n P := by
  obtain ⟨⟨A, h1, h2⟩, h3, h4⟩ := h
  refine ⟨⟨A, blk_kept h1 hk hg, ?_⟩, h3, Nat.lt_of_lt_of_le h4 hk.1⟩
  rcases h2 with h2 | ⟨hh, e, hok, hq⟩
  · exact .inl h2
  · exact .inr ⟨hh, e, hok, blk_kept hq hk (hs _ hok)⟩
theorem RingIsI.below (h : RingIsI w g ok room L) (hb : Below w.heap.size w w') : RingIsI w' g ok room L := by
  obtain ⟨f, P, h1, h2, h3⟩ := h
  exact ⟨f, P, h1.below hb, h2, h3⟩
theorem RingIsI.kept {S : Nat → Prop} (h : RingIsI w g ok room L) (hk : Kept w w' S) (hg : ¬ S g) (hs : ∀ k, ok k → ¬ S k) : RingIsI w' g ok room L := by
  obtain ⟨f, P, h1, h2, h3⟩ := h
  exact ⟨f, P, h1.kept hk hg hs, h2, h3⟩
theorem RingIsI.few (h : RingIsI w g ok room L) : (L.length : Int) ≤ room ∧ room ≤ 4096 := by
  obtain ⟨f, P, h1, h2, h3⟩ := h
  have h4 := h2.room_
  have h5 := h2.le
  exact ⟨by omega, h2.most⟩
theorem RingIsI.lt (h : RingIsI w g ok room L) : g < w.heap.size := by
  obtain ⟨f, P, h1, h2, h3⟩ := h
  exact h1.lt
theorem RingIsI.away (h : RingIsI w g ok room L) : ∀ k, ok k → k ≠ g := by
  obtain ⟨f, P, h1, h2, h3⟩ := h
  exact h1.away
/-- Only blocks that are there. -/
theorem RingIsI.tight (h : RingIsI w g ok room L) : RingIsI w g (fun k => ok k ∧ k < w.heap.size) room L := by
  obtain ⟨f, P, ⟨⟨A, h1, hq⟩, h3, h4⟩, h5, h6⟩ := h
  refine ⟨f, P, ⟨⟨A, h1, ?_⟩, fun k hk => h3 k hk.1, h4⟩, h5, h6⟩
  rcases hq with hq | ⟨hh, e, hok, hq⟩
  · exact .inl hq
  · exact .inr ⟨hh, e, ⟨hok, blk_lt hq⟩, hq⟩
theorem ring_len (h : RingIsI w g ok room L) : Calls Try.prog 36 #[.pointer (some ⟨g, 0, none⟩)] w fun e w' => e = .returned (.int .i64 (L.length : Int)) ∧ w = w' := by
  obtain ⟨f, P, h1, h2, h3⟩ := h
  exact ringI_len h1
theorem ring_room (h : RingIsI w g ok room L) : Calls Try.prog 37 #[.pointer (some ⟨g, 0, none⟩)] w fun e w' => e = .returned (.int .i64 room) ∧ w = w' := by
  obtain ⟨f, P, h1, h2, h3⟩ := h
  exact ringI_room h1
/-- The number at a place, and whether there is one. -/
def atV (L : List Int) (i : Int) : Int := if 0 ≤ i ∧ i < L.length then L.getD i.toNat 0 else 0
def atB (L : List Int) (i : Int) : Bool := decide (0 ≤ i ∧ i < L.length)
set_option maxRecDepth 100000 in
theorem ringI_at_out {f n : Nat} {P : List Int} (h : RingAtI w g ok room f n P) (i : Int) (hi : i < 0 ∨ (n : Int) ≤ i) :
    Calls Try.prog 34 #[.pointer (some ⟨g, 0, none⟩), .int .i64 i] w fun e w' => e = .returned (.tuple #[.int .i64 0, .bool false]) ∧ Below w.heap.size w w' := by
  by_cases h0 : i < 0
  · have d1 : decide (i < 0) = true := decide_eq_true h0
    clear hi
    go_enter Try.func34, Try.ntmps34
    go_wp2
    go_ret2
    exact ⟨by simp, Below.refl _ _⟩
  · have hn : (n : Int) ≤ i := by omega
    have d1 : decide (i < 0) = false := decide_eq_false h0
    have d2 : decide ((n : Int) ≤ i) = true := decide_eq_true hn
    clear hi
    go_enter Try.func34, Try.ntmps34
    go_wp2_with fail
    refine (ringI_len h).mono ?_
    rintro e w1 ⟨rfl, rfl⟩
    go_wp2
    go_ret2
    exact ⟨by simp, Below.refl _ _⟩
theorem ring_at (h : RingIsI w g ok room L) (i : Int) : Calls Try.prog 34 #[.pointer (some ⟨g, 0, none⟩), .int .i64 i] w fun e w' => e = .returned (.tuple #[.int .i64 (atV L i), .bool (atB L i)]) ∧ Below w.heap.size w w' := by
  obtain ⟨f, P, h1, h2, h3⟩ := h
  by_cases hi : 0 ≤ i ∧ i < L.length
  · refine (ringI_at h1 h2 i hi.1 hi.2).mono ?_
    rintro e w' ⟨rfl, hb⟩
    have e1 : atB L i = true := decide_eq_true hi
    have e2 : atV L i = P.getD ((f + i.toNat) % P.length) 0 := by
      unfold atV
      rw [if_pos hi]
      have := view_get 0 (P := P) (f := f) (n := L.length) (i := i.toNat) (by omega)
      rw [h3] at this
      rw [List.getD_eq_getElem?_getD, this]
      rfl
    rw [e1, e2]
    exact ⟨rfl, hb⟩
  · refine (ringI_at_out h1 i (by omega)).mono ?_
    rintro e w' ⟨rfl, hb⟩
    have e1 : atB L i = false := decide_eq_false hi
    have e2 : atV L i = 0 := if_neg hi
    rw [e1, e2]
    exact ⟨rfl, hb⟩
theorem ring_drop_none (h : RingIsI w g ok room []) : Calls Try.prog 33 #[.pointer (some ⟨g, 0, none⟩)] w fun e w' => e = .returned (.tuple #[.int .i64 0, .bool false]) ∧ Below w.heap.size w w' := by
  obtain ⟨f, P, h1, h2, h3⟩ := h
  exact ringI_drop_none h1 rfl
theorem ring_drop {x : Int} (h : RingIsI w g ok room (x :: L)) : Calls Try.prog 33 #[.pointer (some ⟨g, 0, none⟩)] w fun e w' => e = .returned (.tuple #[.int .i64 x, .bool true]) ∧ Below 0 w w' ∧ Kept w w' (fun k => k = g ∨ ok k) ∧ RingIsI w' g ok room L := by
  obtain ⟨f, P, h1, h2, h3⟩ := h
  have hm := h2.le
  simp only [List.length_cons] at hm h3
  have hf : f < P.length := by rcases h2.at_ with hf | ⟨h2, _⟩ <;> omega
  rw [view_drop 0 hf hm] at h3
  injection h3 with e1 e2
  refine (ringI_drop h1 h2 (by simp)).mono ?_
  rintro e w' ⟨rfl, k1, k2, k3⟩
  rw [e1]
  refine ⟨rfl, k1, k2, _, _, k3, ?_, ?_⟩
  · rw [List.length_set]
    exact ⟨by omega, .inl (Nat.mod_lt _ (by omega)), h2.room_, h2.most⟩
  · exact e2
theorem ring_push (v : Int) (h : RingIsI w g ok room L) (hr : 0 < room) : Calls Try.prog 31 #[.pointer (some ⟨g, 0, none⟩), .int .i64 v] w fun e w' =>
    e = .returned (.tuple #[.int .i64 (if (L.length : Int) = room then L.headD 0 else 0), .bool (decide ((L.length : Int) = room))]) ∧ Below 0 w w' ∧ Kept w w' (fun k => k = g ∨ ok k) ∧
      RingIsI w' g (fun k => ok k ∨ w.heap.size ≤ k) room ((if (L.length : Int) = room then L.tail else L) ++ [v]) := by
  have hfew := h.few
  obtain ⟨f, P, h1, h2, h3⟩ := h
  by_cases hf : (L.length : Int) = room
  · rw [if_pos hf, if_pos hf, decide_eq_true hf]
    cases L with
    | nil => simp at hf; omega
    | cons x T =>
      refine (ringI_push_full v h1 h2 hr hf).mono ?_
      rintro e w' ⟨rfl, k1, k2, f', Q, k3, k4, k5⟩
      have hm := h2.le
      simp only [List.length_cons] at hm
      have hf1 : f < P.length := by rcases h2.at_ with hf | ⟨h2, _⟩ <;> omega
      have e0 : P.getD f 0 = x := by
        simp only [List.length_cons] at h3
        rw [view_drop 0 hf1 hm] at h3
        injection h3
      rw [h3] at k5
      have el : (T ++ [v]).length = (x :: T).length := by simp
      refine ⟨by rw [e0]; rfl, k1, k2, f', Q, ?_, ?_, ?_⟩
      · simp only [List.tail_cons]
        rw [el]
        exact k3
      · simp only [List.tail_cons]
        rw [el]
        exact k4
      · simp only [List.tail_cons]
        rw [el]
        exact k5
  · rw [if_neg hf, if_neg hf, decide_eq_false hf]
    refine (ringI_push_room v h1 h2 hr (by omega)).mono ?_
    rintro e w' ⟨rfl, k1, k2, f', Q, k3, k4, k5⟩
    rw [h3] at k5
    have el : (L ++ [v]).length = L.length + 1 := by simp
    refine ⟨rfl, k1, k2, f', Q, ?_, ?_, ?_⟩
    · rw [el]; exact k3
    · rw [el]; exact k4
    · rw [el]; exact k5
end
set_option maxRecDepth 100000 in
theorem ring_new_no (room : Int) (w : World) (hr : room < 1 ∨ 4096 < room) : Calls Try.prog 27 #[.int .i64 room] w fun e w' => e = .returned (.tuple #[.pointer none, .int .i64 3]) ∧ Below w.heap.size w w' := by
  by_cases h0 : room < 1
  · have d1 : decide (room < 1) = true := decide_eq_true h0
    clear hr
    go_enter Try.func27, Try.ntmps27
    go_wp2
    go_ret2
    exact ⟨by simp, Below.refl _ _⟩
  · have d1 : decide (room < 1) = false := decide_eq_false h0
    have d2 : decide (4096 < room) = true := decide_eq_true (by omega)
    clear hr
    go_enter Try.func27, Try.ntmps27
    go_wp2
    go_ret2
    exact ⟨by simp, Below.refl _ _⟩
set_option maxRecDepth 100000 in
theorem ring_new (room : Int) (w : World) (h1 : 1 ≤ room) (h2 : room ≤ 4096) : Calls Try.prog 27 #[.int .i64 room] w fun e w' => ∃ g, e = .returned (.tuple #[.pointer (some ⟨g, 0, none⟩), .int .i64 0]) ∧ w.heap.size ≤ g ∧ RingIsI w' g (fun _ => False) room [] ∧ Below w.heap.size w w' := by
  have d1 : decide (room < 1) = false := decide_eq_false (by omega)
  have d2 : decide (4096 < room) = false := decide_eq_false (by omega)
  go_enter Try.func27, Try.ntmps27
  go_wp2_with (first | ((with_reducible refine gate_dst (N := 12) rfl ?_); refine box_event ?hg (N := 12) ?hd (cs := #[.int .i64 room, .int .i64 0, .int .i64 0, .slice none 0 0]) (t := 73) ?hr ?_; (case hd => rfl); (case hg => rfl); (case hr => first | (go_simp; done) | (go_simp; rfl)); intro gb hg w2 hbox hb; have HBOX := Lib.hid hbox; have HG := Lib.hid hg; have HB2 := Lib.hid hb; clear hbox hg hb))
  go_ret2
  refine ⟨gb, by simp, Nat.le_of_eq HG.out.symm, ⟨0, [], ⟨⟨none, HBOX.out, .inl ⟨rfl, rfl⟩⟩, fun _ hk => hk.elim, blk_lt HBOX.out⟩, ⟨Nat.le_refl _, .inr ⟨rfl, rfl⟩, by simp; omega, h2⟩, rfl⟩, HB2.out⟩
set_option maxHeartbeats 8000000 in
set_option maxRecDepth 100000 in
theorem ring_list {w : World} {g : Nat} {ok : Nat → Prop} {room : Int} {L : List Int} (h : RingIsI w g ok room L) :
    Calls Try.prog 30 #[.pointer (some ⟨g, 0, none⟩)] w fun e w' => ∃ v, e = .returned v ∧ Kd.R (Kd.int .i64) 2 w' w.heap.size (fun _ => True) v L ∧ Below w.heap.size w w' := by
  have HH := Lib.hid h
  have HF := Lib.hid h.few
  clear h
  go_enter Try.func30, Try.ntmps30
  go_wp2_with fail
  refine (ring_len HH.out).mono ?_
  rintro e w1 ⟨rfl, rfl⟩
  go_wp2
  go_loopg [3, 9] L.length (fun kq v3 v9 w' => ∃ i : Nat, v9 = .int .i64 i ∧ Aside0 (i + kq = L.length) ∧ Aside0 (Kd.R (Kd.int .i64) 2 w' w.heap.size (fun _ => True) v3 (L.take i)) ∧ Aside0 (Below w.heap.size w w'))
  case atStart => exact ⟨0, rfl, ⟨by omega⟩, ⟨Kd.R_nil _ _ _ _ _⟩, ⟨Below.refl _ _⟩⟩
  case round =>
    obtain ⟨i, rfl, hk, hr, hb⟩ := hrel
    by_cases hi : i < L.length
    · have hd : decide (i < L.length) = true := decide_eq_true hi
      have Hi := Lib.hid hi
      clear hi
      go_wp2_with fail
      refine (ring_at (HH.out.below hb.out) (i : Int)).mono ?_
      rintro e w2 ⟨rfl, hb2⟩
      have Hb2 := Lib.hid (hb.out.trans (hb2.mono hb.out.size))
      have HR2 := Lib.hid (Kd.R_below hr.out hb2)
      obtain ⟨T, hT⟩ : ∃ T, L.take i = T := ⟨_, rfl⟩
      rw [hT] at HR2
      have HTT := Lib.hid hT
      have HLn := Lib.hid (show T.length = i by have := Hi.out; rw [← hT, List.length_take]; omega)
      obtain ⟨x, hx⟩ : ∃ x, atV L (i : Int) = x := ⟨_, rfl⟩
      have HX := Lib.hid hx
      rw [hx]
      clear hT hb2 hx hr
      obtain ⟨A3, c3, rfl⟩ := Kd.R_slice HR2.out
      go_wp2_with (first | ((with_reducible refine gate_builtin (b := .append) (xs := #[.tmp 18, .tmp 20]) rfl ?_); at_builtin; refine Kd.R_append (Kd.int .i64) (w0 := w) w.heap.size rfl (.tmp 18) (.tmp 20) 22 2 (.int .i64 0) 8 rfl Try.underlying22 info64 rfl (by decide) (by decide) (.slice A3 T.length c3) T x [.int .i64 x] (fun _ => True) (fun _ => False) (by rfl) (by first | rfl | (simp only [World.size_alloc]; rfl)) ?aP (fun _ hk => hk.elim) ?aF ?aO ?aB ?aS ?aL ?_; (case aP => exact rfl); (case aF => exact (fun _ _ => trivial)); (case aO => exact (by (with_reducible repeat (first | apply Kd.R_alloc | apply Kd.R_drewN | apply Kd.R_drew)); exact HR2.out)); (case aB => exact (by repeat (first | (with_reducible first | exact Hb2.out | apply below_alloc | apply pw_below_drewN | apply below_drew1) | exact Hb2.out))); (case aS => exact (below_size (by repeat (first | (with_reducible first | exact Hb2.out | apply below_alloc | apply pw_below_drewN | apply below_drew1) | exact Hb2.out)))); (case aL => have := HF.out; have := HLn.out; have := Hi.out; omega); intro v108 w9 ho hb9 hg hat; have HO := Lib.hid ho; have HB9 := Lib.hid hb9; clear ho hb9 hg hat))
      have hw : wrap64 ((i : Int) + 1) = ((i + 1 : Nat) : Int) := by have := Hi.out; have := HF.out; unfold wrap64; omega
      go_roundg (gk - 1)
      case measure => have := hk.out; have := Hi.out; omega
      case rel =>
        refine ⟨i + 1, by first | rfl | simp [hw], ⟨by have := hk.out; have := Hi.out; omega⟩, ⟨?_⟩, ⟨HB9.out⟩⟩
        have e : L.take (i + 1) = T ++ [x] := by
          have hi := Hi.out
          rw [← HTT.out, List.take_add_one, List.getElem?_eq_getElem hi, Option.toList_some, ← HX.out]
          unfold atV
          rw [if_pos ⟨by omega, by omega⟩, Int.toNat_natCast, List.getD_eq_getElem?_getD, List.getElem?_eq_getElem hi]
          rfl
        rw [e]
        exact HO.out
    · have hd : decide (i < L.length) = false := decide_eq_false hi
      have hik : i = L.length := by have := hk.out; omega
      rw [hik, List.take_length] at hr
      clear hik hi
      obtain ⟨A3, c3, rfl⟩ := Kd.R_slice hr.out
      go_wp2
      go_ret
      exact ⟨_, rfl, hr.out, hb.out⟩
end Go.Proofs.Ytmlnbmbobkoipaa
