/-
  The law's step on a ring and the reference's ring: it answers true, and both hold the same again.
-/
import Derived.Test.YtmlnbmbobkoipaaRingRef
import Derived.Test.YtmlnbmbobkoipaaRingEach
import Derived.Test.YtmlnbmbobkoipaaRingTypesPure
namespace Go.Proofs.Ytmlnbmbobkoipaa
open Go.RowKit Go.Proofs.Ytmlnbmbobkoipaa.XMono Go.Proofs.YtmlnbmbobkoipaaW.PrintWords Go.Proofs.YtmlnbmbobkoipaaW.PrintLast Go.Proofs.YtmlnbmbobkoipaaW.PrintMore

theorem RingIsI.mono {w : World} {g : Nat} {ok ok' : Nat → Prop} {room : Int} {L : List Int} (h : RingIsI w g ok room L) (hm : ∀ k, ok k → ok' k) (ha : ∀ k, ok' k → k ≠ g) : RingIsI w g ok' room L := by
  obtain ⟨f, P, ⟨⟨A, h1, hq⟩, h3, h4⟩, h5, h6⟩ := h
  refine ⟨f, P, ⟨⟨A, h1, ?_⟩, ha, h4⟩, h5, h6⟩
  rcases hq with hq | ⟨hh, e, hok, hq⟩
  · exact .inl hq
  · exact .inr ⟨hh, e, hm _ hok, hq⟩
/-- The ring at g holds L, the reference's at h holds M; neither lies in the other's memory, nor in what was there at the call, nor in the block x, which holds what it holds. -/
structure RInv (W : World) (x : Option (Nat × Obj)) (g h : Nat) (room : Int) (L M : List Int) (w : World) : Prop where
  gb : W.heap.size ≤ g
  hb : W.heap.size ≤ h
  ne : h ≠ g
  bel : Below W.heap.size W w
  pos : 0 < room
  xs : ∀ b o, x = some (b, o) → W.heap.size ≤ b ∧ b ≠ g ∧ b ≠ h ∧ w.heap[b]? = some o
  ex : ∃ okr okl : Nat → Prop, RingIsI w g okr room L ∧ RefAt w h okl room M ∧ (∀ k, okr k → W.heap.size ≤ k ∧ k ≠ h ∧ ∀ b o, x = some (b, o) → k ≠ b) ∧ (∀ k, okl k → W.heap.size ≤ k ∧ k ≠ g ∧ ¬ okr k ∧ ∀ b o, x = some (b, o) → k ≠ b)
section
variable {W w w' : World} {x : Option (Nat × Obj)} {g h : Nat} {room : Int} {L M : List Int}
theorem RInv.below (i : RInv W x g h room L M w) (hb : Below w.heap.size w w') : RInv W x g h room L M w' := by
  obtain ⟨h1, h2, h3, h4, h5, h6, okr, okl, m1, m2, m3, m4⟩ := i
  exact ⟨h1, h2, h3, h4.trans (hb.mono h4.size), h5, fun b o e => ⟨(h6 b o e).1, (h6 b o e).2.1, (h6 b o e).2.2.1, blk_below (h6 b o e).2.2.2 hb⟩, okr, okl, m1.below hb, m2.below hb, m3, m4⟩
/-- A block of the call's own is laid beside. -/
theorem RInv.beside (i : RInv W x g h room L M w) (o : Obj) : RInv W (some (w.heap.size, o)) g h room L M (w.alloc o) := by
  obtain ⟨h1, h2, h3, h4, h5, h6, okr, okl, m1, m2, m3, m4⟩ := i
  have hb : Below w.heap.size w (w.alloc o) := below_alloc (Below.refl _ w) o
  have hg := m1.lt
  have hh := m2.lt
  refine ⟨h1, h2, h3, h4.trans (hb.mono h4.size), h5, ?_, fun k => okr k ∧ k < w.heap.size, fun k => okl k ∧ k < w.heap.size, m1.tight.below hb, m2.tight.below hb, ?_, ?_⟩
  · intro b o' e
    cases e
    exact ⟨h4.size, by omega, by omega, blk_new _ _⟩
  · rintro k ⟨hk, hl⟩
    exact ⟨(m3 k hk).1, (m3 k hk).2.1, fun b o' e => by cases e; omega⟩
  · rintro k ⟨hk, hl⟩
    exact ⟨(m4 k hk).1, (m4 k hk).2.1, fun e => (m4 k hk).2.2.1 e.1, fun b o' e => by cases e; omega⟩
/-- The block beside is forgotten. -/
theorem RInv.plain (i : RInv W x g h room L M w) : RInv W none g h room L M w := by
  obtain ⟨h1, h2, h3, h4, h5, h6, okr, okl, m1, m2, m3, m4⟩ := i
  exact ⟨h1, h2, h3, h4, h5, fun b o e => (by cases e), okr, okl, m1, m2, fun k hk => ⟨(m3 k hk).1, (m3 k hk).2.1, fun b o e => (by cases e)⟩, fun k hk => ⟨(m4 k hk).1, (m4 k hk).2.1, (m4 k hk).2.2.1, fun b o e => (by cases e)⟩⟩
theorem RInv.ring {L2 : List Int} {okr ok2 okl : Nat → Prop} (i : RInv W x g h room L M w) (m1 : RingIsI w g okr room L) (m2 : RefAt w h okl room M) (m3 : ∀ k, okr k → W.heap.size ≤ k ∧ k ≠ h ∧ ∀ b o, x = some (b, o) → k ≠ b) (m4 : ∀ k, okl k → W.heap.size ≤ k ∧ k ≠ g ∧ ¬ okr k ∧ ∀ b o, x = some (b, o) → k ≠ b)
    (b : Below 0 w w') (k : Kept w w' (fun k => k = g ∨ okr k)) (hok : ∀ k, ok2 k → okr k ∨ w.heap.size ≤ k) (m : RingIsI w' g ok2 room L2) : RInv W x g h room L2 M w' := by
  have hx : ∀ b o, x = some (b, o) → b < w.heap.size := fun b o e => blk_lt (i.xs b o e).2.2.2
  refine ⟨i.gb, i.hb, i.ne, below_of_kept i.bel b k ?_, i.pos, ?_, ok2, fun k => okl k ∧ k < w.heap.size, m, ?_, ?_, ?_⟩
  · rintro k hk (rfl | h)
    · have := i.gb; omega
    · have := (m3 k h).1; omega
  · intro b o e
    obtain ⟨e1, e2, e3, e4⟩ := i.xs b o e
    refine ⟨e1, e2, e3, blk_kept e4 k ?_⟩
    rintro (h | h)
    · exact e2 h
    · exact (m3 _ h).2.2 b o e rfl
  · refine m2.tight.kept k ?_ ?_
    · rintro (e | h)
      · exact i.ne e
      · exact (m3 _ h).2.1 rfl
    · rintro k ⟨hk, _⟩ (rfl | h)
      · exact (m4 _ hk).2.1 rfl
      · exact (m4 k hk).2.2.1 h
  · intro k hk
    rcases hok k hk with h | h
    · exact m3 k h
    · have := i.bel.size
      have := m2.lt
      exact ⟨by omega, by omega, fun b o e => by have := hx b o e; omega⟩
  · rintro k ⟨hk, hlt⟩
    refine ⟨(m4 k hk).1, (m4 k hk).2.1, fun h => ?_, (m4 k hk).2.2.2⟩
    rcases hok k h with h | h
    · exact (m4 k hk).2.2.1 h
    · omega
theorem RInv.ref {M2 : List Int} {okr ok2 okl : Nat → Prop} (i : RInv W x g h room L M w) (m1 : RingIsI w g okr room L) (m2 : RefAt w h okl room M) (m3 : ∀ k, okr k → W.heap.size ≤ k ∧ k ≠ h ∧ ∀ b o, x = some (b, o) → k ≠ b) (m4 : ∀ k, okl k → W.heap.size ≤ k ∧ k ≠ g ∧ ¬ okr k ∧ ∀ b o, x = some (b, o) → k ≠ b)
    (b : Below 0 w w') (k : Kept w w' (fun k => k = h ∨ okl k)) (hok : ∀ k, ok2 k → okl k ∨ w.heap.size ≤ k) (m : RefAt w' h ok2 room M2) : RInv W x g h room L M2 w' := by
  have hx : ∀ b o, x = some (b, o) → b < w.heap.size := fun b o e => blk_lt (i.xs b o e).2.2.2
  refine ⟨i.gb, i.hb, i.ne, below_of_kept i.bel b k ?_, i.pos, ?_, fun k => okr k ∧ k < w.heap.size, ok2, ?_, m, ?_, ?_⟩
  · rintro k hk (rfl | h)
    · have := i.hb; omega
    · have := (m4 k h).1; omega
  · intro b o e
    obtain ⟨e1, e2, e3, e4⟩ := i.xs b o e
    refine ⟨e1, e2, e3, blk_kept e4 k ?_⟩
    rintro (h | h)
    · exact e3 h
    · exact (m4 _ h).2.2.2 b o e rfl
  · refine m1.tight.kept k ?_ ?_
    · rintro (e | h)
      · exact i.ne e.symm
      · exact (m4 _ h).2.1 rfl
    · rintro k ⟨hk, _⟩ (rfl | h)
      · exact (m3 _ hk).2.1 rfl
      · exact (m4 k h).2.2.1 hk
  · rintro k ⟨hk, _⟩
    exact m3 k hk
  · intro k hk
    rcases hok k hk with h | h
    · exact ⟨(m4 k h).1, (m4 k h).2.1, fun h2 => (m4 k h).2.2.1 h2.1, (m4 k h).2.2.2⟩
    · have := i.bel.size
      have := m1.lt
      exact ⟨by omega, by omega, fun h2 => by omega, fun b o e => by have := hx b o e; omega⟩
theorem rinv_len (i : RInv W x g h room L M w) : Calls Try.prog 36 #[.pointer (some ⟨g, 0, none⟩)] w fun e w' => e = .returned (.int .i64 (L.length : Int)) ∧ w = w' := by
  obtain ⟨okr, okl, m1, m2, m3, m4⟩ := i.ex
  exact ring_len m1
theorem rinv_room (i : RInv W x g h room L M w) : Calls Try.prog 37 #[.pointer (some ⟨g, 0, none⟩)] w fun e w' => e = .returned (.int .i64 room) ∧ w = w' := by
  obtain ⟨okr, okl, m1, m2, m3, m4⟩ := i.ex
  exact ring_room m1
theorem rinv_few (i : RInv W x g h room L M w) : (L.length : Int) ≤ room ∧ room ≤ 4096 := by
  obtain ⟨okr, okl, m1, m2, m3, m4⟩ := i.ex
  exact m1.few
theorem rinv_list (i : RInv W x g h room L M w) : Calls Try.prog 30 #[.pointer (some ⟨g, 0, none⟩)] w fun e w' => ∃ v, e = .returned v ∧ Kd.R (Kd.int .i64) 2 w' w.heap.size (fun _ => True) v L ∧ Below w.heap.size w w' := by
  obtain ⟨okr, okl, m1, m2, m3, m4⟩ := i.ex
  exact ring_list m1
theorem rinv_each (nn : Int) (i : RInv W x g h room L M w) : Calls Try.prog 35 #[.pointer (some ⟨g, 0, none⟩), .int .i64 nn] w fun e w' => ∃ v, e = .returned (.tuple #[v, .int .i64 (mostN nn L.length)]) ∧ Kd.R (Kd.int .i64) 2 w' w.heap.size (fun _ => True) v (L.take (mostN nn L.length)) ∧ Below w.heap.size w w' := by
  have hf := rinv_few i
  obtain ⟨okr, okl, m1, m2, m3, m4⟩ := i.ex
  exact each_calls nn (by omega) (fun w2 hb => ring_list (m1.below hb))
theorem rinv_at (y : Int) (i : RInv W x g h room L M w) : Calls Try.prog 34 #[.pointer (some ⟨g, 0, none⟩), .int .i64 y] w fun e w' => e = .returned (.tuple #[.int .i64 (atV L y), .bool (atB L y)]) ∧ Below w.heap.size w w' := by
  obtain ⟨okr, okl, m1, m2, m3, m4⟩ := i.ex
  exact ring_at m1 y
theorem rinv_at_ref (y : Int) (i : RInv W x g h room L M w) : Calls Try.prog 44 #[.pointer (some ⟨h, 0, none⟩), .int .i64 y] w fun e w' => e = .returned (.tuple #[.int .i64 (atV M y), .bool (atB M y)]) ∧ w = w' := by
  obtain ⟨okr, okl, m1, m2, m3, m4⟩ := i.ex
  exact ref05_at m2 y
/-- What a push and a drop leave, and what they answer. -/
def pushL (room : Int) (v : Int) (L : List Int) : List Int := (if (L.length : Int) = room then L.tail else L) ++ [v]
def pushV (room : Int) (L : List Int) : Int := if (L.length : Int) = room then L.headD 0 else 0
def pushB (room : Int) (L : List Int) : Bool := decide ((L.length : Int) = room)
theorem rinv_push (v : Int) (i : RInv W x g h room L M w) : Calls Try.prog 31 #[.pointer (some ⟨g, 0, none⟩), .int .i64 v] w fun e w' =>
    e = .returned (.tuple #[.int .i64 (pushV room L), .bool (pushB room L)]) ∧ RInv W x g h room (pushL room v L) M w' := by
  obtain ⟨okr, okl, m1, m2, m3, m4⟩ := i.ex
  refine (ring_push v m1 i.pos).mono ?_
  rintro e w' ⟨rfl, b, k, m⟩
  exact ⟨rfl, i.ring m1 m2 m3 m4 b k (fun _ hk => hk) m⟩
theorem rinv_push_ref (v : Int) (i : RInv W x g h room L M w) (hL : (M.length : Int) ≤ room) : Calls Try.prog 42 #[.pointer (some ⟨h, 0, none⟩), .int .i64 v] w fun e w' =>
    e = .returned (.tuple #[.int .i64 (pushV room M), .bool (pushB room M)]) ∧ RInv W x g h room L (pushL room v M) w' := by
  have hf := rinv_few i
  obtain ⟨okr, okl, m1, m2, m3, m4⟩ := i.ex
  refine (ref05_push v m2 hL i.pos hf.2).mono ?_
  rintro e w' ⟨rfl, b, k, m⟩
  exact ⟨rfl, i.ref m1 m2 m3 m4 b k (fun _ hk => hk) m⟩
def dropB (L : List Int) : Bool := decide (L ≠ [])
def dropV (L : List Int) : Int := L.headD 0
def tailL (L : List Int) : List Int := L.tail
theorem rinv_drop (i : RInv W x g h room L M w) : Calls Try.prog 33 #[.pointer (some ⟨g, 0, none⟩)] w fun e w' =>
    e = .returned (.tuple #[.int .i64 (dropV L), .bool (dropB L)]) ∧ RInv W x g h room (tailL L) M w' := by
  obtain ⟨okr, okl, m1, m2, m3, m4⟩ := i.ex
  cases L with
  | nil =>
    refine (ring_drop_none m1).mono ?_
    rintro e w' ⟨rfl, b⟩
    exact ⟨rfl, i.below b⟩
  | cons x T =>
    refine (ring_drop m1).mono ?_
    rintro e w' ⟨rfl, b, k, m⟩
    exact ⟨rfl, i.ring m1 m2 m3 m4 b k (fun _ hk => .inl hk) m⟩
theorem rinv_drop_ref (i : RInv W x g h room L M w) : Calls Try.prog 43 #[.pointer (some ⟨h, 0, none⟩)] w fun e w' =>
    e = .returned (.tuple #[.int .i64 (dropV M), .bool (dropB M)]) ∧ RInv W x g h room L (tailL M) w' := by
  obtain ⟨okr, okl, m1, m2, m3, m4⟩ := i.ex
  cases M with
  | nil =>
    refine (ref05_drop_none m2).mono ?_
    rintro e w' ⟨rfl, b⟩
    exact ⟨rfl, i.below b⟩
  | cons x T =>
    refine (ref05_drop m2).mono ?_
    rintro e w' ⟨rfl, b, k, m⟩
    exact ⟨rfl, i.ref m1 m2 m3 m4 b (Kept.mono k (fun _ hk => .inl hk)) (fun _ hk => .inl hk) m⟩
/-- The reference's ring, in cells. -/
theorem rinv_ref (i : RInv W x g h room L M w) : ∃ A c, w.cell? ⟨h, 0, none⟩ = some (.int .i64 room) ∧ w.cell? ⟨h, 1, none⟩ = some (.slice A M.length c) ∧ M.length ≤ c ∧ Kd.C (Kd.int .i64) w A M.length M := by
  obtain ⟨okr, okl, m1, m2, m3, m4⟩ := i.ex
  obtain ⟨A, c, h1, h2⟩ := m2.ex
  have h3 := Kd.Q_reads' h2
  exact ⟨A, c, (blk_cell h1 0).trans rfl, (blk_cell h1 1).trans rfl, h3.2.1, h3.2.2⟩
theorem same05 {A B : Option Addr} {c d n m : Nat} {X Y : List Int} (e : X = Y) (hn : X.length = n) (hm : Y.length = m) (hs : n ≤ 1048576) (hC : Kd.C (Kd.int .i64) w A X.length X) (hc : n ≤ c) (hD : Kd.C (Kd.int .i64) w B Y.length Y) (hd : m ≤ d) :
    Calls Try.prog 15 #[.slice A n c, .slice B m d] w fun e w' => e = .returned (.bool true) ∧ Below w.heap.size w w' := by
  subst e hn hm
  refine (capstanref05_Same.calls (X.length + 1) A c X B d X true w hC hc hD hd (same_f X (by omega) _ (by omega))).mono ?_
  rintro e w' ⟨rfl, ⟨nd, rfl⟩⟩
  exact ⟨rfl, pw_below_drewN (Below.refl _ _) nd⟩
end
theorem pushL_len {room v : Int} {L : List Int} (h : (L.length : Int) ≤ room) (h0 : 0 < room) : ((pushL room v L).length : Int) ≤ room := by
  unfold pushL
  by_cases hf : (L.length : Int) = room
  · rw [if_pos hf]
    cases L with
    | nil => simp at hf; omega
    | cons x T => simp at hf ⊢; omega
  · rw [if_neg hf]
    simp
    omega
/-- What a call leaves. -/
def nextL (room kd v : Int) (L : List Int) : List Int := if kd = 1 then pushL room v L else if kd = 2 then tailL L else L
theorem rinv_op {W w : World} {B : Nat} {kd v : Int} {g h : Nat} {room : Int} {L M : List Int} (i : RInv W (some (B, .cells #[.int .i64 kd, .int .i64 v] 64 (0, 0))) g h room L M w) : w.cell? ⟨B, 0, none⟩ = some (.int .i64 kd) ∧ w.cell? ⟨B, 1, none⟩ = some (.int .i64 v) := by
  have := (i.xs _ _ rfl).2.2.2
  exact ⟨(blk_cell this 0).trans rfl, (blk_cell this 1).trans rfl⟩
set_option maxHeartbeats 8000000 in
set_option maxRecDepth 100000 in
theorem step05 {W w : World} {g h : Nat} {room : Int} {L : List Int} (kd v : Int) (i : RInv W none g h room L L w) :
    Calls Try.prog 29 #[.pointer (some ⟨g, 0, none⟩), .pointer (some ⟨h, 0, none⟩), .agg #[.int .i64 kd, .int .i64 v]] w fun e w' => e = .returned (.bool true) ∧ RInv W none g h room (nextL room kd v L) (nextL room kd v L) w' := by
  have HF := Lib.hid (rinv_few i)
  have HP := Lib.hid i.pos
  have H0 := Lib.hid (i.beside (.cells #[.int .i64 kd, .int .i64 v] 64 (0, 0)))
  clear i
  by_cases k1 : kd = 1
  · subst k1
    go_enter Try.func29, Try.ntmps29
    go_wp2_with fail
    refine (rinv_push v H0.out).mono ?_
    rintro e w1 ⟨rfl, i1⟩
    have I1 := Lib.hid i1
    obtain ⟨c10, c11⟩ := rinv_op i1
    clear i1
    go_wp2_with fail
    refine (rinv_push_ref v I1.out HF.out.1).mono ?_
    rintro e w2 ⟨rfl, i2⟩
    have I2 := Lib.hid i2
    obtain ⟨A, c, c20, c21, -, -⟩ := rinv_ref i2
    clear i2 c10 c11
    have e1 : (pushV room L == pushV room L) = true := beq_self_eq_true _
    have e2 : (pushB room L == pushB room L) = true := beq_self_eq_true _
    go_wp2_with fail
    go_quiet ((first | (go_at_call 36; exact (rinv_len (I2.out.below (pw_below_drewN (Below.refl _ _) _))).mono fun _ _ ⟨he, hw⟩ => ⟨he, _, hw.symm⟩) | (go_at_call 37; exact (rinv_room (I2.out.below (pw_below_drewN (Below.refl _ _) _))).mono fun _ _ ⟨he, hw⟩ => ⟨he, _, hw.symm⟩)))
    go_wp2
    go_ret
    have e : nextL room 1 v L = pushL room v L := by simp [nextL]
    rw [e]
    exact ⟨by simp, (I2.out.below (pw_below_drewN (Below.refl _ _) _)).plain⟩
  by_cases k2 : kd = 2
  · subst k2
    go_enter Try.func29, Try.ntmps29
    go_wp2_with fail
    refine (rinv_drop H0.out).mono ?_
    rintro e w1 ⟨rfl, i1⟩
    have I1 := Lib.hid i1
    obtain ⟨c10, c11⟩ := rinv_op i1
    clear i1
    go_wp2_with fail
    refine (rinv_drop_ref I1.out).mono ?_
    rintro e w2 ⟨rfl, i2⟩
    have I2 := Lib.hid i2
    obtain ⟨A, c, c20, c21, -, -⟩ := rinv_ref i2
    clear i2 c10 c11
    have e1 : (dropV L == dropV L) = true := beq_self_eq_true _
    have e2 : (dropB L == dropB L) = true := beq_self_eq_true _
    go_wp2_with fail
    go_quiet ((first | (go_at_call 36; exact (rinv_len (I2.out.below (pw_below_drewN (Below.refl _ _) _))).mono fun _ _ ⟨he, hw⟩ => ⟨he, _, hw.symm⟩) | (go_at_call 37; exact (rinv_room (I2.out.below (pw_below_drewN (Below.refl _ _) _))).mono fun _ _ ⟨he, hw⟩ => ⟨he, _, hw.symm⟩)))
    go_wp2
    go_ret
    have e : nextL room 2 v L = tailL L := by simp [nextL]
    rw [e]
    exact ⟨by simp, (I2.out.below (pw_below_drewN (Below.refl _ _) _)).plain⟩
  by_cases k3 : kd = 3
  · subst k3
    go_enter Try.func29, Try.ntmps29
    go_wp2_with fail
    refine (rinv_at v H0.out).mono ?_
    rintro e w1 ⟨rfl, b1⟩
    have I1 := Lib.hid (H0.out.below b1)
    obtain ⟨c10, c11⟩ := rinv_op I1.out
    obtain ⟨A, c, c20, c21, -, -⟩ := rinv_ref I1.out
    clear b1
    go_wp2_with fail
    refine (rinv_at_ref v I1.out).mono ?_
    rintro e w2 ⟨rfl, rfl⟩
    clear c10 c11
    have e1 : (atV L v == atV L v) = true := beq_self_eq_true _
    have e2 : (atB L v == atB L v) = true := beq_self_eq_true _
    go_wp2_with fail
    go_quiet ((first | (go_at_call 36; exact (rinv_len (I1.out.below (pw_below_drewN (Below.refl _ _) _))).mono fun _ _ ⟨he, hw⟩ => ⟨he, _, hw.symm⟩) | (go_at_call 37; exact (rinv_room (I1.out.below (pw_below_drewN (Below.refl _ _) _))).mono fun _ _ ⟨he, hw⟩ => ⟨he, _, hw.symm⟩)))
    go_wp2
    go_ret
    have e : nextL room 3 v L = L := by simp [nextL]
    rw [e]
    exact ⟨by simp, (I1.out.below (pw_below_drewN (Below.refl _ _) _)).plain⟩
  by_cases k4 : kd = 4
  · subst k4
    obtain ⟨A, c, c20, c21, hc, hC⟩ := rinv_ref H0.out
    have HC := Lib.hid hC
    have Hc := Lib.hid hc
    clear hC hc
    have HLT := Lib.hid (blk_lt ((H0.out.ex).choose_spec.choose_spec.2.1.ex.choose_spec.choose_spec.1))
    have HLs := Lib.hid fun (w' : World) (hb : Below (w.alloc (.cells #[.int .i64 4, .int .i64 v] 64)).heap.size (w.alloc (.cells #[.int .i64 4, .int .i64 v] 64)) w') => rinv_list (H0.out.below hb)
    go_enter Try.func29, Try.ntmps29
    go_wp2_with fail
    go_region_held3 (fun w' => w'.cell? ⟨h, 1, none⟩ = some (.slice A L.length c)) (first | exact k22 | exact k21 | (simp [go_sem, c21]; done))
      (first
        | (go_at_call 30; refine (HLs.out _ (by first | exact Below.refl _ _ | exact below_drew (Below.refl _ _) | exact pw_below_drewN (Below.refl _ _) _)).mono ?_; rintro e w1 ⟨v1, rfl, r1, b1⟩; obtain ⟨A1, d1, rfl⟩ := Kd.R_slice r1; have k21 := (b1.cell (p := ⟨h, 1, none⟩) HLT.out).trans c21; have r2 := Kd.R_reads' r1; have r3 := Kd.C_below HC.out ((below_drew (Below.refl _ _)).trans b1))
        | (go_at_call 15; refine (same05 rfl rfl rfl (by have := HF.out; omega) r2.2.2 r2.2.1 r3 Hc.out).mono ?_; rintro e w2 ⟨rfl, b2⟩; have k22 := (b2.cell (p := ⟨h, 1, none⟩) (Nat.lt_of_lt_of_le HLT.out b1.size)).trans k21))
    go_wp2
    go_ret
    have e : nextL room 4 v L = L := by simp [nextL]
    rw [e]
    have hb := ((below_drew (Below.refl _ (w.alloc (.cells #[.int .i64 4, .int .i64 v] 64)))).trans b1)
    exact ⟨by simp, ((H0.out.below hb).below b2).plain⟩
  by_cases k5 : kd = 5
  · subst k5
    obtain ⟨A, c, c20, c21, hc, hC⟩ := rinv_ref H0.out
    have HC := Lib.hid hC
    have Hc := Lib.hid hc
    clear hC hc
    have HLT := Lib.hid (blk_lt ((H0.out.ex).choose_spec.choose_spec.2.1.ex.choose_spec.choose_spec.1))
    go_enter Try.func29, Try.ntmps29
    go_wp2_with fail
    refine (rinv_each v H0.out).mono ?_
    rintro e w1 ⟨v1, rfl, r1, b1⟩
    obtain ⟨A1, d1, rfl⟩ := Kd.R_slice r1
    have I1 := Lib.hid (H0.out.below b1)
    obtain ⟨c10, c11⟩ := rinv_op I1.out
    have k21 := (b1.cell (p := ⟨h, 1, none⟩) HLT.out).trans c21
    have r2 := Kd.R_reads' r1
    obtain ⟨m, hm⟩ : ∃ m, mostN v L.length = m := ⟨_, rfl⟩
    have HM := Lib.hid hm
    have HML := Lib.hid (show m ≤ L.length by rw [← hm]; unfold mostN; omega)
    have hT : (L.take m).length = m := by have := HML.out; simp; omega
    rw [hm] at r2 ⊢
    rw [hT] at r2 ⊢
    have R2 := Lib.hid r2
    have B1 := Lib.hid b1
    have HLL := Lib.hid (show L.length ≤ 4096 by have := HF.out; omega)
    clear c20 c21 r1 r2 hm b1
    have SAMEV := Lib.hid (show Calls Try.prog 15 #[.slice A1 m d1, .slice A m c] w1 fun e w' => e = .returned (.bool true) ∧ Below w1.heap.size w1 w' from
      same05 rfl hT hT (by have := HLL.out; have := HML.out; omega) (by rw [hT]; exact R2.out.2.2) R2.out.2.1 (Kd.C_take (Kd.C_below HC.out B1.out) HML.out) (by have := HML.out; have := Hc.out; omega))
    clear hT
    have f1 : (m ≤ c) = True := eq_true (by have := HML.out; have := Hc.out; omega)
    have f2 : ((m : Int) ≤ (c : Int)) = True := eq_true (by have := HML.out; have := Hc.out; omega)
    have f3 := eq_true (show (0 : Int) ≤ (m : Int) by omega)
    by_cases hv : v < L.length
    · have d0 : decide (v < (L.length : Int)) = true := decide_eq_true hv
      by_cases hn : v < 0
      · have d1 : decide (v < 0) = true := decide_eq_true hn
        have hw : wrap64 1 = 1 := by unfold wrap64; omega
        by_cases hz : L.length = 0
        · have hm : m = 0 := by have := HML.out; omega
          subst hm
          have hL : L = [] := List.eq_nil_of_length_eq_zero hz
          subst hL
          go_wp2_with (first | (go_at_call 15; refine SAMEV.out.mono ?_; rintro e w2 ⟨rfl, b2⟩))
          go_ret
          have e : nextL room 5 v ([] : List Int) = [] := by simp [nextL]
          rw [e]
          exact ⟨by simp, (I1.out.below b2).plain⟩
        · have hm : m = 1 := by rw [← HM.out]; unfold mostN; omega
          subst hm
          have f5 : ((1 : Int) ≤ (c : Int)) = True := eq_true (by have := of_eq_true f1; omega)
          have f6 : (0 < c) = True := eq_true (by have := of_eq_true f1; omega)
          have f7 : ((0 : Int) < (c : Int)) = True := eq_true (by have := of_eq_true f1; omega)
          have hz2 : ¬ (L.length : Int) < 1 := by omega
          have hz3 : ¬ L.length < 1 := by omega
          have hz4 : ¬ L = [] := by rintro rfl; simp at hz
          go_wp2_with (first | (go_at_call 15; refine SAMEV.out.mono ?_; rintro e w2 ⟨rfl, b2⟩))
          go_ret
          have e : nextL room 5 v L = L := by simp [nextL]
          rw [e]
          exact ⟨by simp, (I1.out.below b2).plain⟩
      · have d1 : decide (v < 0) = false := decide_eq_false hn
        have hw : wrap64 (v + 1) = (m : Int) := by rw [← HM.out]; unfold mostN wrap64; have := HLL.out; omega
        have hz2 : ¬ (L.length : Int) < m := by have := HML.out; omega
        have hz3 : ¬ L.length < m := by have := HML.out; omega
        go_wp2_with (first | (go_at_call 15; refine SAMEV.out.mono ?_; rintro e w2 ⟨rfl, b2⟩))
        go_ret
        have e : nextL room 5 v L = L := by simp [nextL]
        rw [e]
        exact ⟨by simp, (I1.out.below b2).plain⟩
    · have d0 : decide (v < (L.length : Int)) = false := decide_eq_false hv
      obtain rfl : m = L.length := by rw [← HM.out]; unfold mostN; omega
      go_wp2_with (first | (go_at_call 15; refine SAMEV.out.mono ?_; rintro e w2 ⟨rfl, b2⟩))
      go_ret
      have e : nextL room 5 v L = L := by simp [nextL]
      rw [e]
      exact ⟨by simp, (I1.out.below b2).plain⟩
  have n1 : (kd == 1) = false := by simpa using k1
  have n2 : (kd == 2) = false := by simpa using k2
  have n3 : (kd == 3) = false := by simpa using k3
  have n4 : (kd == 4) = false := by simpa using k4
  have n5 : (kd == 5) = false := by simpa using k5
  obtain ⟨c10, c11⟩ := rinv_op H0.out
  obtain ⟨A, c, c20, c21, -, -⟩ := rinv_ref H0.out
  go_enter Try.func29, Try.ntmps29
  go_wp2
  go_quiet ((first | (go_at_call 36; exact (rinv_len (H0.out.below (pw_below_drewN (Below.refl _ _) _))).mono fun _ _ ⟨he, hw⟩ => ⟨he, _, hw.symm⟩) | (go_at_call 37; exact (rinv_room (H0.out.below (pw_below_drewN (Below.refl _ _) _))).mono fun _ _ ⟨he, hw⟩ => ⟨he, _, hw.symm⟩)))
  go_wp2
  go_ret
  have e : nextL room kd v L = L := by simp [nextL, k1, k2]
  rw [e]
  exact ⟨by simp, (H0.out.below (pw_below_drewN (Below.refl _ _) _)).plain⟩
end Go.Proofs.Ytmlnbmbobkoipaa
