/-
  RingKeeps: the law's call answers true, for all lists; nothing that was there is changed.
-/
import Derived.Test.YtmlnbmbobkoipaaRingStep
import Derived.Test.YtmlnbmbobkoipaaRingAwake
namespace Go.Proofs.Ytmlnbmbobkoipaa
open Go.RowKit Go.Shelf Go.Proofs.Ytmlnbmbobkoipaa.XMono Go.Proofs.YtmlnbmbobkoipaaW.PrintWords Go.Proofs.YtmlnbmbobkoipaaW.PrintLast Go.Proofs.YtmlnbmbobkoipaaW.PrintMore
attribute [local go_sem] Oper.semAt_some

/-- The newest numbers, up to a hundred. -/
def lastL (L : List Int) : List Int := L.drop (L.length - 100)
theorem lastL_len (L : List Int) : (lastL L).length = min L.length 100 := by
  unfold lastL
  rw [List.length_drop]
  omega
theorem lastL_push (L : List Int) (v : Int) : pushL 100 v (lastL L) = lastL (L ++ [v]) := by
  have h := lastL_len L
  unfold pushL
  by_cases hf : 100 ≤ L.length
  · rw [if_pos (by rw [h]; omega)]
    unfold lastL
    rw [List.tail_drop, List.length_append, List.length_singleton, List.drop_append_of_le_length (by omega)]
    congr 2
    omega
  · rw [if_neg (by rw [h]; omega)]
    unfold lastL
    rw [List.length_append, List.length_singleton, show L.length - 100 = 0 by omega, show L.length + 1 - 100 = 0 by omega]
    rfl
/-- The ring at g holds L; all of it is newer than W. -/
structure KInv (W : World) (g : Nat) (L : List Int) (w : World) : Prop where
  gb : W.heap.size ≤ g
  bel : Below W.heap.size W w
  ex : ∃ ok : Nat → Prop, RingIsI w g ok 100 L ∧ ∀ k, ok k → W.heap.size ≤ k
section
variable {W w w' : World} {g : Nat} {L : List Int}
theorem kinv_push (v : Int) (i : KInv W g L w) : Calls Try.prog 31 #[.pointer (some ⟨g, 0, none⟩), .int .i64 v] w fun e w' =>
    e = .returned (.tuple #[.int .i64 (pushV 100 L), .bool (pushB 100 L)]) ∧ KInv W g (pushL 100 v L) w' := by
  obtain ⟨ok, m1, m2⟩ := i.ex
  refine (ring_push v m1 (by decide)).mono ?_
  rintro e w' ⟨rfl, b, k, m⟩
  refine ⟨rfl, i.gb, below_of_kept i.bel b k ?_, _, m, ?_⟩
  · rintro k hk (rfl | h)
    · have := i.gb; omega
    · have := m2 k h; omega
  · rintro k (h | h)
    · exact m2 k h
    · have := i.bel.size; omega
end
/-- What may be written behind a world: the blocks of S, and what is new since. -/
structure Since (S : Nat → Prop) (w0 w : World) : Prop where
  kept : Kept w0 w S
  bel : Below 0 w0 w
section
variable {S T : Nat → Prop} {w0 w w' : World}
theorem Since.refl (S : Nat → Prop) (w : World) : Since S w w := ⟨Kept.refl _ _, Below.refl _ _⟩
theorem Since.then_ (h : Since S w0 w) (k : Kept w w' T) (b : Below 0 w w') (hs : ∀ k, T k → S k ∨ w0.heap.size ≤ k) : Since S w0 w' := ⟨Kept.then_ h.kept k hs, h.bel.trans b⟩
theorem Since.mono (h : Since S w0 w) (hs : ∀ k, S k → T k) : Since T w0 w := ⟨Kept.mono h.kept hs, h.bel⟩
/-- A ring that lies in what may be written. -/
structure RJ (S : Nat → Prop) (g : Nat) (w0 w : World) : Prop where
  own : S g
  since : Since S w0 w
  ex : ∃ (L : List Int) (ok : Nat → Prop), RingIsI w g ok 100 L ∧ ∀ k, ok k → S k ∨ w0.heap.size ≤ k
theorem rj_push {g : Nat} (v : Int) (i : RJ S g w0 w) : Calls Try.prog 31 #[.pointer (some ⟨g, 0, none⟩), .int .i64 v] w fun e w' => (∃ a b, e = .returned (.tuple #[.int .i64 a, .bool b])) ∧ RJ S g w0 w' := by
  obtain ⟨L, ok, m1, m2⟩ := i.ex
  refine (ring_push v m1 (by decide)).mono ?_
  rintro e w' ⟨rfl, b, k, m⟩
  refine ⟨⟨_, _, rfl⟩, i.own, i.since.then_ k b ?_, _, _, m, ?_⟩
  · rintro k (rfl | h)
    · exact .inl i.own
    · exact m2 k h
  · rintro k (h | h)
    · exact m2 k h
    · exact .inr (Nat.le_trans i.since.kept.1 h)
theorem rj_drop {g : Nat} (i : RJ S g w0 w) : Calls Try.prog 33 #[.pointer (some ⟨g, 0, none⟩)] w fun e w' => (∃ a b, e = .returned (.tuple #[.int .i64 a, .bool b])) ∧ RJ S g w0 w' := by
  obtain ⟨L, ok, m1, m2⟩ := i.ex
  cases L with
  | nil =>
    refine (ring_drop_none m1).mono ?_
    rintro e w' ⟨rfl, b⟩
    exact ⟨⟨_, _, rfl⟩, i.own, i.since.then_ (Kept.of_below b S) (b.mono (Nat.zero_le _)) (fun _ h => .inl h), _, _, m1.below b, m2⟩
  | cons x T =>
    refine (ring_drop m1).mono ?_
    rintro e w' ⟨rfl, b, k, m⟩
    refine ⟨⟨_, _, rfl⟩, i.own, i.since.then_ k b ?_, _, _, m, m2⟩
    rintro k (rfl | h)
    · exact .inl i.own
    · exact m2 k h
end
theorem R_open {e base : Nat} {ok : Nat → Prop} {w : World} {v : Value} {xs : List Int} (h : (Kd.int .i64).R e w base ok v xs) (hp : 0 < xs.length) :
    ∃ (g cap : Nat) (rest : List Value), v = .slice (some ⟨g, 0, none⟩) xs.length cap ∧ ok g ∧ base ≤ g ∧ cap ≤ maxLen ∧ w.heap[g]? = some (.cells (nums .i64 xs ++ rest).toArray e (0, 0)) ∧ xs.length + rest.length = cap := by
  have h0 := h.1
  obtain ⟨h1, h2⟩ := Kd.own_of_R h
  rcases h2 with ⟨_, h2⟩ | ⟨g, cap, cur, rfl, hb, hh, hn, hm, hc, ht⟩
  · omega
  refine ⟨g, cap, cur.toList.drop xs.length, rfl, h0 g rfl, hb, hm, ?_, ?_⟩
  · rw [hh]
    congr 2
    apply Array.ext'
    have e : nums .i64 xs = encs (Value.int .i64) xs := rfl
    rw [e, ← ht, Nat.mul_one, List.take_append_drop]
  · have hcl : cur.toList.length = cap := by rw [Array.length_toList, hc, Nat.mul_one]
    rw [List.length_drop, hcl]
    omega
theorem R_close {e base g cap : Nat} {ok : Nat → Prop} {w : World} {xs : List Int} {rest : List Value} (hg : ok g) (hb : base ≤ g) (hm : cap ≤ maxLen) (hh : w.heap[g]? = some (.cells (nums .i64 xs ++ rest).toArray e (0, 0))) (hc : xs.length + rest.length = cap) {n : Nat} (hn : n = xs.length) :
    (Kd.int .i64).R e w base ok (.slice (some ⟨g, 0, none⟩) n cap) xs := by
  subst hn
  refine Kd.R_of_own ⟨by simp [encs], .inr ⟨g, cap, _, rfl, hb, hh, by omega, hm, by simp [nums]; omega, ?_⟩⟩ (fun k hk => by simp [Value.ownBlock] at hk; rw [← hk]; exact hg)
  simp [nums, encs]
/-- A row's element, and a store there. -/
theorem R_put {e base n c i : Nat} {ok : Nat → Prop} {w : World} {A : Option Addr} {xs : List Int} (h : (Kd.int .i64).R e w base ok (.slice A n c) xs) (hi : i < n) :
    ∃ g x, A = some ⟨g, 0, none⟩ ∧ ok g ∧ w.cell? ⟨g, i, none⟩ = some (.int .i64 x) ∧ w.frozen? ⟨g, i, none⟩ = false ∧ ∀ y, (Kd.int .i64).R e (w.setCell ⟨g, i, none⟩ (.int .i64 y)) base ok (.slice A n c) (xs.set i y) := by
  have hn := (Kd.R_reads' h).1
  subst hn
  obtain ⟨g, cap, rest, he, hok, hb, hm, hh, hc⟩ := R_open h (by omega)
  injection he with h1 h2 h3
  subst h1 h3
  have hx : (nums .i64 xs ++ rest)[i]? = some (.int .i64 xs[i]) := by
    rw [List.getElem?_append_left (by simp [nums]; omega)]
    simp [nums, hi]
  refine ⟨g, xs[i], rfl, hok, by rw [blk_cell hh i, List.getElem?_toArray]; exact hx, blk_frozen hh i, fun y => ?_⟩
  refine R_close (rest := rest) hok hb hm ?_ (by simpa using hc) (by simp)
  have := blk_set hh i (.int .i64 y)
  rw [this]
  congr 2
  rw [List.setIfInBounds_toArray, List.set_append_left _ _ (by simp [nums]; omega)]
  simp [nums, List.map_set]
set_option maxHeartbeats 8000000 in
set_option maxRecDepth 100000 in
theorem RingKeeps_c (A : Option Addr) (c : Nat) (L : List Int) (A2 : Option Addr) (c2 : Nat) (M : List Int) (W : World) (hc : Kd.C (Kd.int .i64) W A L.length L) (hlc : L.length ≤ c) (hc2 : Kd.C (Kd.int .i64) W A2 M.length M) (hl : L.length ≤ 17592186044416) (hm : M.length ≤ 17592186044416) :
    Calls Try.prog 9 #[.slice A L.length c, .slice A2 M.length c2] W fun e w' => e = .returned (.bool true) ∧ Below W.heap.size W w' := by
  have HC := Lib.hid hc
  have HLC := Lib.hid hlc
  have HC2 := Lib.hid hc2
  have HL := Lib.hid hl
  have HM := Lib.hid hm
  clear hc hlc hc2 hl hm
  refine (callsIn_wide (n := 5)).1 ?_
  refine callsIn_of_wp_marks Try.func9 rfl trivial ?_ rfl
  simp only [Try.ntmps9, List.size_toArray, List.length_cons, List.length_nil, Nat.reduceAdd, Nat.reduceSub, Array.replicate_succ, Array.replicate_zero, List.push_toArray, List.append_toArray, List.nil_append, List.cons_append]
  refine wpIn_wide.2 ?_
  go_wp2_with fail
  refine (awake05 _).mono ?_
  rintro e w1 ⟨rfl, b1⟩
  obtain ⟨W0, hW0⟩ : ∃ W0, (W.alloc (.cells #[.slice A L.length c] 22)).alloc (.cells #[.bool false] 4) = W0 := ⟨_, rfl⟩
  rw [hW0] at b1
  have HZ0 := Lib.hid (show W0.heap.size = W.heap.size + 1 + 1 by rw [← hW0]; simp)
  have HB0 := Lib.hid (show Below W.heap.size W W0 by rw [← hW0]; exact ((Below.refl _ W).alloc (Nat.le_refl _) _).alloc (by simp) _)
  have HB2 := Lib.hid (show W0.heap[W.heap.size]? = some (.cells #[.slice A L.length c] 22 (0, 0)) by rw [← hW0]; exact blk_alloc (blk_new _ _) _)
  have HB4 := Lib.hid (show W0.heap[W.heap.size + 1]? = some (.cells #[.bool false] 4 (0, 0)) by rw [← hW0]; have := blk_new (W.alloc (.cells #[.slice A L.length c] 22)) (.cells #[.bool false] 4); rwa [World.size_alloc] at this)
  have H1 := Lib.hid b1
  clear hW0 b1
  go_wp2_with fail
  refine (ring_new 100 _ (by decide) (by decide)).mono ?_
  rintro e w2 ⟨g, rfl, hg, h2, b2⟩
  have HI := Lib.hid (show KInv W0 g (lastL ([] : List Int)) w2 from ⟨Nat.le_trans H1.out.size hg, H1.out.trans (b2.mono H1.out.size), _, h2, fun _ hk => hk.elim⟩)
  clear hg h2 b2
  have HQ := Lib.hid fun (w' : World) (hb : Below W0.heap.size W0 w') => (show w'.cell? ⟨W.heap.size, 0, none⟩ = some (.slice A L.length c) ∧ Kd.C (Kd.int .i64) w' A L.length L ∧ Kd.C (Kd.int .i64) w' A2 M.length M from
    ⟨(blk_cell ((hb.block _ (by have := HZ0.out; omega)).trans HB2.out) 0).trans rfl, Kd.C_below HC.out (HB0.out.trans (hb.mono HB0.out.size)), Kd.C_below HC2.out (HB0.out.trans (hb.mono HB0.out.size))⟩)
  obtain ⟨s0, -, -⟩ := HQ.out _ HI.out.bel
  go_wp2
  clear s0
  go_loopg [7] L.length (fun kq v7 w' => ∃ i : Nat, v7 = .int .i64 i ∧ Aside0 (i + kq = L.length) ∧ Aside0 (KInv W0 g (lastL (L.take i)) w'))
  case atStart => exact ⟨0, rfl, ⟨by omega⟩, ⟨HI.out⟩⟩
  case round =>
    clear HI
    obtain ⟨i, rfl, hk, hI⟩ := hrel
    obtain ⟨s0, s1, s2⟩ := HQ.out _ hI.out.bel
    by_cases hi : i < L.length
    · have c0 : decide (i < L.length) = true := decide_eq_true hi
      have c1 : decide ((i : Int) < (L.length : Int)) = true := decide_eq_true (by omega)
      obtain ⟨ad, rfl, q0⟩ := Kd.at_int s1 (i : Int) (by omega) (by omega)
      rw [Int.toNat_natCast] at q0
      have f1 := eq_true (show (0 : Int) ≤ (i : Int) by omega)
      have f2 : ((i : Int) < (L.length : Int)) = True := eq_true (by omega)
      have f3 := eq_true hi
      obtain ⟨x, hx⟩ : ∃ x, rd L (i : Int) = x := ⟨_, rfl⟩
      rw [hx] at q0
      have HS := Lib.hid (show pushL 100 x (lastL (L.take i)) = lastL (L.take (i + 1)) by rw [lastL_push, List.take_add_one, List.getElem?_eq_getElem hi, Option.toList_some, ← hx]; unfold rd; rw [Int.toNat_natCast, List.getD_eq_getElem?_getD, List.getElem?_eq_getElem hi]; rfl)
      have Hi := Lib.hid hi
      have HW := Lib.hid (show wrap64 ((i : Int) + 1) = ((i + 1 : Nat) : Int) by have := HL.out; unfold wrap64; omega)
      clear hx hi s1 s2
      go_wp2_with fail
      refine (kinv_push x hI.out).mono ?_
      rintro e w3 ⟨rfl, i3⟩
      have I3 := Lib.hid i3
      clear i3 s0 q0
      have hw := HW.out
      go_wp2
      go_roundg (gk - 1)
      case measure => have := hk.out; have := Hi.out; omega
      case rel => exact ⟨i + 1, by first | rfl | simp [hw], ⟨by have := hk.out; have := Hi.out; omega⟩, ⟨by rw [← HS.out]; exact I3.out⟩⟩
    · have c0 : decide (i < L.length) = false := decide_eq_false hi
      have c1 : decide ((i : Int) < (L.length : Int)) = false := decide_eq_false (by omega)
      have hik : i = L.length := by have := hk.out; omega
      rw [hik, List.take_length] at hI
      clear hik hi s1 s2
      go_upto_region 10 with fail
      go_cut [8] from 41 to 44 (fun s8 wx => s8 = .pointer (some ⟨wr.heap.size, 0, none⟩) ∧ wx = wr.alloc (.cells #[.int .i64 ((L.length - 100 : Nat) : Int)] 3))
      case first =>
        by_cases hf : 100 < L.length
        · have hw : wrap64 ((L.length : Int) - 100) = ((L.length - 100 : Nat) : Int) := by have := HL.out; unfold wrap64; omega
          have hp : ((0 : Int) < ((L.length - 100 : Nat) : Int)) = True := eq_true (by omega)
          have hp2 : (0 < L.length - 100) = True := eq_true (by omega)
          go_wp2_with fail
          all_goals (go_meet; exact ⟨rfl, by first | rfl | simp⟩)
        · have hw : wrap64 ((L.length : Int) - 100) = (L.length : Int) - 100 := by have := HL.out; unfold wrap64; omega
          have hp : ((0 : Int) < (L.length : Int) - 100) = False := eq_false (by omega)
          have hz : L.length - 100 = 0 := by omega
          go_wp2_with fail
          all_goals (go_meet; exact ⟨rfl, by first | rfl | simp [hz]⟩)
      case rest =>
        obtain ⟨rfl, rfl⟩ := hcut
        obtain ⟨B8, hB8⟩ : ∃ B8, wr.heap.size = B8 := ⟨_, rfl⟩
        have HB8E := Lib.hid hB8
        have HKI := Lib.hid hI.out
        clear hI hk c0 c1 s0
        obtain ⟨wA, hwA⟩ : ∃ wA, wr.alloc (.cells #[.int .i64 ((L.length - 100 : Nat) : Int)] 3) = wA := ⟨_, rfl⟩
        have HB8 := Lib.hid (show wA.heap[wr.heap.size]? = some (.cells #[.int .i64 ((L.length - 100 : Nat) : Int)] 3 (0, 0)) by rw [← hwA]; exact blk_new _ _)
        have HbA := Lib.hid (show Below wr.heap.size wr wA by rw [← hwA]; exact below_alloc (Below.refl _ _) _)
        have HzA := Lib.hid (show wA.heap.size = wr.heap.size + 1 by rw [← hwA]; simp)
        rw [hwA, hB8]
        rw [hB8] at HB8 HzA
        clear hwA hB8
        obtain ⟨ok, hr1, hr2⟩ := HKI.out.ex
        have hrt := hr1.tight
        rw [HB8E.out] at hrt
        have HR := Lib.hid hrt
        clear hrt
        have HR2 := Lib.hid hr2
        clear hr1 hr2
        go_wp2_with fail
        refine (ring_list (HR.out.below HbA.out)).mono ?_
        rintro e w4 ⟨va, rfl, ra, b4⟩
        obtain ⟨Aa, ca, rfl⟩ := Kd.R_slice ra
        have HB4' := Lib.hid b4
        have HRA := Lib.hid ra
        clear b4 ra
        go_wp2_with fail
        refine (ring_list ((HR.out.below HbA.out).below HB4'.out)).mono ?_
        rintro e w5 ⟨vb, rfl, rb, b5⟩
        obtain ⟨Ab, cb, rfl⟩ := Kd.R_slice rb
        have HB5 := Lib.hid b5
        have HRB := Lib.hid rb
        clear b5 rb
        go_wp2_with fail
        refine (ring_each (ring_list (((HR.out.below HbA.out).below HB4'.out).below HB5.out))).mono ?_
        rintro e w6 ⟨bs, vr, rfl, hbs1, hbs2, hbs, rr, b6⟩
        have HB6 := Lib.hid b6
        have HRR := Lib.hid rr
        have HBS := Lib.hid hbs
        have HBS1 := Lib.hid hbs1
        clear b6 rr hbs hbs1 hbs2
        -- what the row a's blocks are
        have HA6 := Lib.hid (show Kd.R (Kd.int .i64) 2 w6 wA.heap.size (fun k => wA.heap.size ≤ k ∧ k < w4.heap.size) (.slice Aa (lastL L).length ca) (lastL L) from
          Kd.R_below (Kd.R_below (Kd.R_mono (Kd.R_bound HRA.out) (fun k hk => ⟨hk.2.1, hk.2.2.1⟩)) HB5.out) HB6.out)
        obtain ⟨n, hn⟩ : ∃ n, (lastL L).length = n := ⟨_, rfl⟩
        have HN := Lib.hid hn
        have HNL := Lib.hid (show n ≤ 100 by rw [← hn, lastL_len]; omega)
        rw [hn] at HA6 ⊢
        clear hn
        go_wp2_with fail
        go_loopg [12] n (fun kq v12 w' => ∃ (i : Nat) (xs : List Int), v12 = .int .i64 i ∧ Aside0 (i + kq = n) ∧ Aside0 (Kd.R (Kd.int .i64) 2 w' wA.heap.size (fun k => wA.heap.size ≤ k ∧ k < w4.heap.size) (.slice Aa n ca) xs) ∧ Aside0 (Since (fun k => wA.heap.size ≤ k ∧ k < w4.heap.size) w6 w'))
        case atStart => exact ⟨0, lastL L, rfl, ⟨by omega⟩, ⟨HA6.out⟩, ⟨Since.refl _ _⟩⟩
        case round =>
          obtain ⟨i, xs, rfl, hk, hra, hsi⟩ := hrel
          by_cases hi : i < n
          · have c0 : decide (i < n) = true := decide_eq_true hi
            have c1 : decide ((i : Int) < (n : Int)) = true := decide_eq_true (by omega)
            obtain ⟨ga, x, rfl, hok, q0, q1, q2⟩ := R_put hra.out hi
            have Q2 := Lib.hid (q2 77)
            have HOK := Lib.hid hok
            have f1 := eq_true (show (0 : Int) ≤ (i : Int) by omega)
            have f2 : ((i : Int) < (n : Int)) = True := eq_true (by omega)
            have f3 := eq_true hi
            have Hi := Lib.hid hi
            have hw : wrap64 ((i : Int) + 1) = ((i + 1 : Nat) : Int) := by have := HNL.out; unfold wrap64; omega
            clear hi q2 hok hra
            go_wp2
            go_roundg (gk - 1)
            case measure => have := hk.out; have := Hi.out; omega
            case rel => exact ⟨i + 1, xs.set i 77, by first | rfl | simp [hw], ⟨by have := hk.out; have := Hi.out; omega⟩, ⟨Q2.out⟩, ⟨hsi.out.then_ (Kept.setCell (S := fun k => k = ga) (p := ⟨ga, i, none⟩) (Kept.refl _ _) (.inl rfl) _) (Below.setCell (p := ⟨ga, i, none⟩) (Below.refl 0 _) (Nat.zero_le _) _) (fun k hk => by rw [hk]; exact .inl HOK.out)⟩⟩
          · have c0 : decide (i < n) = false := decide_eq_false hi
            have c1 : decide ((i : Int) < (n : Int)) = false := decide_eq_false (by omega)
            clear hi
            have hxl := (Kd.R_reads' hra.out).1
            subst hxl
            have HXL := Lib.hid (show xs.length ≤ 100 from HNL.out)
            have RA0 := Lib.hid (Kd.R_lower (Kd.R_mono hra.out (ok' := fun k => (wA.heap.size ≤ k ∧ k < w4.heap.size) ∨ w6.heap.size ≤ k) (fun k hk => .inl hk)) (Nat.zero_le _))
            have OWN0 := Lib.hid hra.out.1
            have SI0 := Lib.hid hsi.out
            clear hra hsi hk
            go_wp2_with (first | ((with_reducible refine gate_builtin (b := .append) (xs := #[.tmp 60, .tmp 61]) rfl ?_); at_builtin; refine Kd.R_append (Kd.int .i64) (w0 := wr) 0 rfl (.tmp 60) (.tmp 61) 22 2 (.int .i64 0) 8 rfl Try.underlying22 info64 rfl (by decide) (by decide) (.slice Aa xs.length ca) xs 78 [.int .i64 78] (fun k => (wA.heap.size ≤ k ∧ k < w4.heap.size) ∨ w6.heap.size ≤ k) (fun _ => False) (by rfl) (by rfl) ?aP (fun _ hk => hk.elim) (fun k hk => .inr (Nat.le_trans SI0.out.kept.1 hk)) RA0.out (Below.refl 0 wr) (Nat.zero_le _) ?aL ?_; (case aP => exact rfl); (case aL => have := HXL.out; omega); intro v7 w7 ho hb9 hg9 hat; obtain ⟨ys, hys⟩ : ∃ ys, xs ++ [78] = ys := ⟨_, rfl⟩; rw [hys] at ho; have HY := Lib.hid (show ys.length = xs.length + 1 by rw [← hys]; simp); clear hys; have RA7 := Lib.hid ho; have SI7 := Lib.hid (show Since (fun k => wA.heap.size ≤ k ∧ k < w4.heap.size) w6 w7 from ⟨Kept.of_grown hg9 SI0.out.kept (fun k hk => .inl (OWN0.out k hk)), SI0.out.bel.trans hb9⟩); obtain ⟨A7, c7, rfl⟩ := Kd.R_slice ho; clear ho hb9 hg9 hat) | ((with_reducible refine gate_builtin (b := .append) (xs := #[.tmp 63, .tmp 64]) rfl ?_); at_builtin; refine Kd.R_append (Kd.int .i64) (w0 := w7) 0 rfl (.tmp 63) (.tmp 64) 22 2 (.int .i64 0) 8 rfl Try.underlying22 info64 rfl (by decide) (by decide) (.slice A7 ys.length c7) ys 78 [.int .i64 78] (fun k => (wA.heap.size ≤ k ∧ k < w4.heap.size) ∨ w6.heap.size ≤ k) (fun _ => False) (by rfl) (by rfl) ?aP (fun _ hk => hk.elim) (fun k hk => .inr (Nat.le_trans SI7.out.kept.1 hk)) RA7.out (Below.refl 0 w7) (Nat.zero_le _) ?aL ?_; (case aP => exact rfl); (case aL => have := HXL.out; have := HY.out; omega); intro v8 w8 ho hb9 hg9 hat; obtain ⟨zs, hzs⟩ : ∃ zs, ys ++ [78] = zs := ⟨_, rfl⟩; rw [hzs] at ho; clear hzs; have RA8 := Lib.hid ho; have SI8 := Lib.hid (show Since (fun k => wA.heap.size ≤ k ∧ k < w4.heap.size) w6 w8 from ⟨Kept.of_grown hg9 SI7.out.kept (fun k hk => RA7.out.1 k hk), SI7.out.bel.trans hb9⟩); obtain ⟨A8, c8, rfl⟩ := Kd.R_slice ho; clear ho hb9 hg9 hat))
            have HGB := Lib.hid (show g < B8 by have := HR.out.lt; rw [HB8E.out] at this; exact this)
            have HR8 := Lib.hid (show RingIsI w8 g (fun k => ok k ∧ k < B8) 100 (lastL L) from
              ((((HR.out.below HbA.out).below HB4'.out).below HB5.out).below HB6.out).kept SI8.out.kept (by have := HGB.out; have := HzA.out; omega) (fun k hk => by have := HzA.out; omega))
            have J8 := Lib.hid (show RJ (fun k => (k = g ∨ ok k ∧ k < B8) ∨ wA.heap.size ≤ k ∧ k < w4.heap.size) g w6 w8 from ⟨.inl (.inl rfl), SI8.out.mono (fun k hk => .inr hk), _, _, HR8.out, fun k hk => .inl (.inl (.inr hk))⟩)
            clear HR8 SI8 SI7 SI0 RA8 RA7 RA0 OWN0 HY
            have HS := Lib.hid (show ∀ k, ((k = g ∨ ok k ∧ k < B8) ∨ wA.heap.size ≤ k ∧ k < w4.heap.size) → W0.heap.size ≤ k ∧ k < w4.heap.size ∧ k ≠ B8 by
              have z1 := HKI.out.gb
              have z2 := HGB.out
              have z3 := HzA.out
              have z4 := HB4'.out.size
              have z5 := HKI.out.bel.size
              rw [HB8E.out] at z5
              rintro k ((rfl | ⟨h1, h2⟩) | h)
              · omega
              · have := HR2.out k h1; omega
              · omega)
            have HW6 := Lib.hid (show Below W0.heap.size W0 w6 from by
              have h1 := HKI.out.bel
              have h2 := h1.trans (HbA.out.mono h1.size)
              have h3 := h2.trans (HB4'.out.mono h2.size)
              have h4 := h3.trans (HB5.out.mono h3.size)
              exact h4.trans (HB6.out.mono h4.size))
            go_loopg [13] M.length (fun kq v13 w' => ∃ i : Nat, v13 = .int .i64 i ∧ Aside0 (i + kq = M.length) ∧ Aside0 (RJ (fun k => (k = g ∨ ok k ∧ k < B8) ∨ wA.heap.size ≤ k ∧ k < w4.heap.size) g w6 w'))
            case atStart => exact ⟨0, rfl, ⟨by omega⟩, ⟨J8.out⟩⟩
            case round =>
              obtain ⟨i, rfl, hk, hJ⟩ := hrel
              have HBW := Lib.hid (show Below W0.heap.size W0 wr from below_of_kept HW6.out hJ.out.since.bel hJ.out.since.kept (fun k hk h => by have := (HS.out k h).1; omega))
              obtain ⟨s0, s1, s2⟩ := HQ.out _ HBW.out
              by_cases hi : i < M.length
              · have c0 : decide (i < M.length) = true := decide_eq_true hi
                have c1 : decide ((i : Int) < (M.length : Int)) = true := decide_eq_true (by omega)
                obtain ⟨ad, rfl, q0⟩ := Kd.at_int s2 (i : Int) (by omega) (by omega)
                rw [Int.toNat_natCast] at q0
                have f1 := eq_true (show (0 : Int) ≤ (i : Int) by omega)
                have f2 : ((i : Int) < (M.length : Int)) = True := eq_true (by omega)
                have f3 := eq_true hi
                obtain ⟨x, hx⟩ : ∃ x, rd M (i : Int) = x := ⟨_, rfl⟩
                rw [hx] at q0
                have Hi := Lib.hid hi
                have HW := Lib.hid (show wrap64 ((i : Int) + 1) = ((i + 1 : Nat) : Int) by have := HM.out; unfold wrap64; omega)
                clear hx hi s1 s2
                go_wp2_with fail
                refine (rj_push x hJ.out).mono ?_
                rintro e w11 ⟨⟨pa, pb, rfl⟩, j11⟩
                have J11 := Lib.hid j11
                clear j11 s0 q0
                go_wp2_with fail
                refine (rj_drop J11.out).mono ?_
                rintro e w12 ⟨⟨pa, pb, rfl⟩, j12⟩
                have J12 := Lib.hid j12
                clear j12
                have hw := HW.out
                go_wp2
                go_roundg (gk - 1)
                case measure => have := hk.out; have := Hi.out; omega
                case rel => exact ⟨i + 1, by first | rfl | simp [hw], ⟨by have := hk.out; have := Hi.out; omega⟩, ⟨J12.out⟩⟩
              · have c0 : decide (i < M.length) = false := decide_eq_false hi
                have c1 : decide ((i : Int) < (M.length : Int)) = false := decide_eq_false (by omega)
                have HK9 := Lib.hid hJ.out.since.kept
                clear hJ hk hi s1 s2
                have NB : ∀ k, w4.heap.size ≤ k → ¬ ((k = g ∨ ok k ∧ k < B8) ∨ wA.heap.size ≤ k ∧ k < w4.heap.size) := fun k h hs => by have := (HS.out k hs).2.1; omega
                have K8 := Lib.hid (show wr.heap[B8]? = some (.cells #[.int .i64 ((L.length - 100 : Nat) : Int)] 3 (0, 0)) from
                  blk_kept (blk_below (blk_below (blk_below HB8.out HB4'.out) HB5.out) HB6.out) HK9.out (fun h => (HS.out _ h).2.2 rfl))
                have K4 := Lib.hid (show wr.heap[W.heap.size + 1]? = some (.cells #[.bool false] 4 (0, 0)) from (HBW.out.block _ (by have := HZ0.out; omega)).trans HB4.out)
                have KB := Lib.hid (show Kd.R (Kd.int .i64) 2 wr w4.heap.size (fun k => w4.heap.size ≤ k) (.slice Ab xs.length cb) (lastL L) from
                  Kd.R_kept (Kd.R_below (Kd.R_mono (Kd.R_bound (by rw [← HN.out]; exact HRB.out)) (fun k hk => hk.2.1)) HB6.out) HK9.out (fun k hk => NB k hk))
                have z5 := HB5.out.size
                have z6 := HBS1.out
                have KBS := Lib.hid (show wr.heap[bs]? = some (.cells #[vr] 22 (0, 0)) from blk_kept HBS.out HK9.out (NB _ (by omega)))
                have KR := Lib.hid (show Kd.R (Kd.int .i64) 2 wr w5.heap.size (fun k => w5.heap.size ≤ k) vr (lastL L) from
                  Kd.R_kept (Kd.R_mono (Kd.R_bound HRR.out) (fun k hk => hk.2.1)) HK9.out (fun k hk => NB k (by omega)))
                clear NB z5 z6
                have k8 := (blk_cell K8.out 0).trans rfl
                clear s0
                obtain ⟨F, hF⟩ : ∃ F, L.length - 100 = F := ⟨_, rfl⟩
                have HF := Lib.hid hF
                rw [hF] at k8 K8
                clear hF
                obtain ⟨w9, hw9⟩ : ∃ w9, wr = w9 := ⟨_, rfl⟩
                subst hw9
                obtain ⟨wx, hwx⟩ : ∃ wx, wr.alloc (.cells #[.int .i64 (F : Int)] 3) = wx := ⟨_, rfl⟩
                have HX := Lib.hid (show wx.heap[wr.heap.size]? = some (.cells #[.int .i64 (F : Int)] 3 (0, 0)) by rw [← hwx]; exact blk_new _ _)
                have HXB := Lib.hid (show Below wr.heap.size wr wx by rw [← hwx]; exact below_alloc (Below.refl _ _) _)
                go_wp2
                clear hwx
                refine (wpIn_wide (n := 5)).1 ?_
                have HNX := Lib.hid (show (lastL L).length = xs.length from HN.out)
                have HLF := Lib.hid (show F + xs.length = L.length by have h1 := HF.out; have h2 := HNX.out; rw [lastL_len] at h2; omega)
                refine wpIn_rangeFunc_ownG rfl (by decide) (gf := 46) (lb := #[.pointer (some ⟨bs, 0, none⟩)]) rfl trivial (enters_of Try.func46 (by kernel_rfl) rfl)
                  (ringSeq_stops Fence.wide 4 trivial rfl (by decide) bs _ _ vr (lastL L) (by rw [HNX.out]; have := HNL.out; omega) wr KBS.out KR.out) keepsBlk_t keepsBlk_b (HXB.out) (fun _ => rfl)
                  (fun pre W' => Boxed W' wr.heap.size 3 (.int .i64 ((F + pre.length : Nat) : Int)) ∧ Below wr.heap.size wr W')
                  (fun c pre W' => c = .ret ∧ (∃ (pre' : List (Nat × Int)) (x : Nat × Int), pre = pre' ++ [x] ∧ ¬ (x.1 = pre'.length ∧ x.2 = rd L ((F + pre'.length : Nat) : Int))))
                  ?hI ?hIx ⟨HX.out, HXB.out⟩ ?a1 ?assign ?body ?done ?stop
                case assign =>
                  intro l x W' K hK
                  gi_wp2
                  exact hK
                case hI => exact fun s A1 B1 row hs hg hr => ⟨Own.from (boxed_own wr.heap.size 3 (fun pre : List (Nat × Int) => .int .i64 ((F + pre.length : Nat) : Int))) wx.heap.size s A1 B1 row hs.1 hg hr,
                    ownFrom_below (β := List (Nat × Int)) (n₀ := wr.heap.size) (B := wx.heap.size) (w₀ := wr) (Nat.le_refl _) HXB.out.size s A1 B1 row hs.2 hg hr⟩
                case hIx => exact fun c s A1 B1 row hs hg hr => hs
                case body =>
                  rintro l pre x W' ⟨hbx, hbel⟩ hlt
                  rw [HNX.out] at hlt
                  obtain ⟨p, hp⟩ : ∃ p, pre.length = p := ⟨_, rfl⟩
                  obtain ⟨kk, hkk⟩ : ∃ kk, F + p = kk := ⟨_, rfl⟩
                  rw [hp, hkk] at hbx
                  have HP := Lib.hid hp
                  have HKK := Lib.hid hkk
                  have HLT := Lib.hid (show kk < L.length by have := HLF.out; omega)
                  have HPX := Lib.hid (show p < xs.length by omega)
                  have hBW := HBW.out.trans (hbel.mono HBW.out.size)
                  obtain ⟨s0, s1, -⟩ := HQ.out _ hBW
                  obtain ⟨ad, rfl, q0⟩ := Kd.at_int s1 (kk : Int) (by omega) (by have := HLT.out; omega)
                  rw [Int.toNat_natCast] at q0
                  obtain ⟨y, hy⟩ : ∃ y, rd L (kk : Int) = y := ⟨_, rfl⟩
                  rw [hy] at q0
                  have HY2 := Lib.hid hy
                  have q8 := ((blk_cell ((hbel.block B8 (blk_lt K8.out)).trans K8.out) 0).trans rfl : W'.cell? ⟨B8, 0, none⟩ = some (.int .i64 (F : Int)))
                  have q14 := hbx.cell
                  have g14 := hbx.frozen
                  have HBX := Lib.hid hbx
                  have HBEL := Lib.hid hbel
                  have B4K := (hbel.block (W.heap.size + 1) (by have := HZ0.out; have := HBW.out.size; omega)).trans K4.out
                  have q4 := (blk_cell B4K 0).trans rfl
                  have g4 := blk_frozen B4K 0
                  have HB4L := Lib.hid (show W.heap.size + 1 < wr.heap.size by have := HZ0.out; have := HBW.out.size; omega)
                  have w1 : wrap64 ((kk : Int) - (F : Int)) = (p : Int) := by have := HLT.out; have := HL.out; unfold wrap64; omega
                  have w2 : wrap64 ((kk : Int) + 1) = ((kk + 1 : Nat) : Int) := by have := HLT.out; have := HL.out; unfold wrap64; omega
                  have e1 := eq_true (show (0 : Int) ≤ (kk : Int) by omega)
                  have e2 : ((kk : Int) < (L.length : Int)) = True := eq_true (by have := HLT.out; omega)
                  have e3 := eq_true HLT.out
                  have e4 : decide (L.length ≤ kk) = false := decide_eq_false (by have := HLT.out; omega)
                  have e5 : decide ((L.length : Int) ≤ (kk : Int)) = false := decide_eq_false (by have := HLT.out; omega)
                  clear hbx hbel hlt hp hkk hBW s1 hy B4K
                  by_cases h1 : x.1 = p
                  · have d0 : ((x.1 : Int) != (p : Int)) = false := by simp [h1]
                    have d1 : (x.1 != p) = false := by simp [h1]
                    by_cases h2 : x.2 = y
                    · have d2 : (x.2 != y) = false := by simp [h2]
                      obtain ⟨kk1, hkk1⟩ : ∃ m, kk + 1 = m := ⟨_, rfl⟩
                      have HK1 := Lib.hid hkk1
                      have w3 : wrap64 ((kk : Int) + 1) = (kk1 : Int) := by have := HLT.out; have := HL.out; unfold wrap64; omega
                      clear w2 hkk1
                      have HSET := Lib.hid (HBX.out.set (.int .i64 (kk1 : Int)))
                      have GG := Lib.hid (grownBy_setCell' W' wr.heap.size (.int .i64 (kk1 : Int)))
                      have KF := Lib.hid ((KeepsOthers.setCell W' ⟨wr.heap.size, 0, none⟩ (.int .i64 (kk1 : Int))).from wx.heap.size)
                      have BE := Lib.hid (HBEL.out.setCell (p := ⟨wr.heap.size, 0, none⟩) (Nat.le_refl _) (.int .i64 (kk1 : Int)))
                      obtain ⟨W9, hW9⟩ : ∃ W9, W'.setCell ⟨wr.heap.size, 0, none⟩ (.int .i64 (kk1 : Int)) = W9 := ⟨_, rfl⟩
                      rw [hW9] at HSET GG KF BE
                      gi_wp2
                      refine ⟨KF.out, keepsBlk_grown GG.out ?_, ?_, BE.out⟩
                      · obtain ⟨gv, capv, hv, hbv, hlv, _⟩ := Kd.R_form KR.out (by rw [HNX.out]; have := HPX.out; omega)
                        rw [hv]
                        simp [rowBlk]
                        omega
                      · have e : ((F + (pre ++ [x]).length : Nat) : Int) = (kk1 : Int) := by rw [List.length_append, HP.out, ← HK1.out, ← HKK.out]; simp; omega
                        rw [e]
                        exact HSET.out
                    · have d2 : (x.2 != y) = true := by simp [h2]
                      gi_wp2
                      exact ⟨(KeepsOthers.setCell W' ⟨W.heap.size + 1, 0, none⟩ _).from _, rfl, pre, x, rfl, by rw [HP.out, HKK.out, HY2.out]; rintro ⟨ha, hb⟩; first | exact h2 hb | exact h1 ha⟩
                  · have d0 : ((x.1 : Int) != (p : Int)) = true := by simp; omega
                    have d1 : (x.1 != p) = true := by simp [h1]
                    gi_wp2
                    exact ⟨(KeepsOthers.setCell W' ⟨W.heap.size + 1, 0, none⟩ _).from _, rfl, pre, x, rfl, by rw [HP.out, HKK.out, HY2.out]; rintro ⟨ha, hb⟩; first | exact h2 hb | exact h1 ha⟩
                case stop =>
                  rintro D c0 pre W' hD ⟨k, hk, rfl⟩ ⟨rfl, pre', x, he, hx⟩ hK
                  exfalso
                  have hl : k = pre'.length + 1 := by have := congrArg List.length he; rw [uptoI_length] at this; simpa using this
                  subst hl
                  rw [uptoI_succ] at he
                  obtain ⟨e1, e2⟩ := List.append_inj' he rfl
                  have e3 := List.head_eq_of_cons_eq e2
                  apply hx
                  rw [← e3]
                  refine ⟨rfl, ?_⟩
                  simp only [lastL, rd, HF.out, Int.toNat_natCast, List.getD_eq_getElem?_getD, List.getElem?_drop]
                case done =>
                  rintro D ys W' hD rfl ⟨hbx, hbel⟩ hK
                  rw [uptoI_length, HNX.out, HLF.out] at hbx
                  have hBW := HBW.out.trans (hbel.mono HBW.out.size)
                  obtain ⟨s0, s1, -⟩ := HQ.out _ hBW
                  have q8 := ((blk_cell ((hbel.block B8 (blk_lt K8.out)).trans K8.out) 0).trans rfl : W'.cell? ⟨B8, 0, none⟩ = some (.int .i64 (F : Int)))
                  have q14 := hbx.cell
                  have B4K := (hbel.block (W.heap.size + 1) (by have := HZ0.out; have := HBW.out.size; omega)).trans K4.out
                  have q4 := (blk_cell B4K 0).trans rfl
                  have g4 := blk_frozen B4K 0
                  have RB := Kd.R_reads' (Kd.R_below KB.out hbel)
                  have HRB9 := Lib.hid RB
                  have HS1 := Lib.hid s1
                  have HB4K := Lib.hid B4K
                  have HBWW := Lib.hid hBW
                  have HKK := Lib.hid hK
                  clear hbx hbel s1 B4K RB hBW hK
                  have HD := Lib.hid (show wx.heap.size ≤ D from hD)
                  have HB4L := Lib.hid (show W.heap.size + 1 < wr.heap.size by have := HZ0.out; have := HBW.out.size; omega)
                  clear hD
                  have HDW := Lib.hid (show D < W'.heap.size from (Array.getElem?_eq_some_iff.1 HKK.out).1)
                  have HFC := Lib.hid (show F ≤ c by have := HLF.out; have := HLC.out; omega)
                  have hd0 : ((F : Int) ≤ (L.length : Int)) = True := eq_true (by have := HLF.out; omega)
                  have hd1 : (F ≤ L.length) = True := eq_true (by have := HLF.out; omega)
                  have SAMEV := Lib.hid (show Calls Try.prog 15 #[.slice Ab xs.length cb, .slice (if c = F then A else A.map (·.add F)) (L.length - F) (c - F)] W' fun e w' => e = .returned (.bool true) ∧ Below W'.heap.size W' w' from by
                    refine same05 (X := lastL L) (Y := L.drop F) (by unfold lastL; rw [HF.out]) HNX.out List.length_drop (by have := HXL.out; omega) ?_ HRB9.out.2.1 ?_ (by have := HLC.out; omega)
                    · exact HRB9.out.2.2
                    · have := Kd.C_drop (c := c) (m := F) HS1.out (by have := HLF.out; omega) HLC.out
                      have e : (Kd.int .i64).sz = 1 := rfl
                      rw [e, Nat.mul_one] at this
                      simpa using this)
                  by_cases hcf : c = F
                  · subst hcf
                    have SV := Lib.hid (show Calls Try.prog 15 #[.slice Ab xs.length cb, .slice A (L.length - c) 0] W' fun e w' => e = .returned (.bool true) ∧ Below W'.heap.size W' w' from by have := SAMEV.out; rw [if_pos rfl, Nat.sub_self] at this; exact this)
                    go_wp2_with fail
                    refine SV.out.mono ?_
                    rintro e w2 ⟨rfl, b2⟩
                    have q42 := (b2.cell (p := ⟨W.heap.size + 1, 0, none⟩) (World.block_lt_of_cell? W' _ q4)).trans q4
                    have HB42 := Lib.hid (blk_below HB4K.out b2)
                    have g42 := blk_frozen HB42.out 0
                    have hK9 : (w2.setCell ⟨W.heap.size + 1, 0, none⟩ (.bool true)).heap[D]? = some (.deferred (some [])) := (Below.heap_setCell w2 ⟨W.heap.size + 1, 0, none⟩ _ D (by have := HD.out; have := HB4L.out; have := HXB.out.size; simp; omega)).trans ((b2.block D HDW.out).trans HKK.out)
                    have HK9 := Lib.hid hK9
                    have HBF := Lib.hid (show Below W.heap.size W ((w2.setCell ⟨W.heap.size + 1, 0, none⟩ (.bool true)).putObj D (.deferred none)) from by
                      have h1 := HB0.out.trans (HBWW.out.mono HB0.out.size)
                      have h2 := (h1.trans (b2.mono h1.size)).setCell (p := ⟨W.heap.size + 1, 0, none⟩) (Nat.le_succ _) (.bool true)
                      exact h2.trans (belowK_b (w := W) (Nat.le_refl _) _ D _ _ (by have := HD.out; have := HB4L.out; have := HXB.out.size; omega) hK9 rfl rfl))
                    have hc9 : ((w2.setCell ⟨W.heap.size + 1, 0, none⟩ (.bool true)).putObj D (.deferred none)).cell? ⟨W.heap.size + 1, 0, none⟩ = some (.bool true) := by
                      refine cell_kept (row := some D) ?_ (grownBy_putObj' _ D (.deferred none)) (fun r e => by cases e; exact ⟨_, hK9, rfl⟩)
                      exact (blk_cell (blk_set HB42.out 0 (.bool true)) 0).trans rfl
                    have HC9 := Lib.hid hc9
                    clear hK9 hc9
                    go_wp2
                    refine ⟨by simp, .inl ⟨_, _, rfl, run_takeDeferred HK9.out, ?_⟩⟩
                    have hc9 := HC9.out
                    refine ⟨_, (show (results Try.f9 _).run Try.prog _ = .ok (.bool true) _ by simp [results, Try.results9, go_sem, hc9]), rfl, HBF.out⟩
                  · have SV := Lib.hid (show Calls Try.prog 15 #[.slice Ab xs.length cb, .slice (A.map fun x => x.add F) (L.length - F) (c - F)] W' fun e w' => e = .returned (.bool true) ∧ Below W'.heap.size W' w' from by have := SAMEV.out; rw [if_neg hcf] at this; exact this)
                    go_wp2_with fail
                    refine SV.out.mono ?_
                    rintro e w2 ⟨rfl, b2⟩
                    have q42 := (b2.cell (p := ⟨W.heap.size + 1, 0, none⟩) (World.block_lt_of_cell? W' _ q4)).trans q4
                    have HB42 := Lib.hid (blk_below HB4K.out b2)
                    have g42 := blk_frozen HB42.out 0
                    have hK9 : (w2.setCell ⟨W.heap.size + 1, 0, none⟩ (.bool true)).heap[D]? = some (.deferred (some [])) := (Below.heap_setCell w2 ⟨W.heap.size + 1, 0, none⟩ _ D (by have := HD.out; have := HB4L.out; have := HXB.out.size; simp; omega)).trans ((b2.block D HDW.out).trans HKK.out)
                    have HK9 := Lib.hid hK9
                    have HBF := Lib.hid (show Below W.heap.size W ((w2.setCell ⟨W.heap.size + 1, 0, none⟩ (.bool true)).putObj D (.deferred none)) from by
                      have h1 := HB0.out.trans (HBWW.out.mono HB0.out.size)
                      have h2 := (h1.trans (b2.mono h1.size)).setCell (p := ⟨W.heap.size + 1, 0, none⟩) (Nat.le_succ _) (.bool true)
                      exact h2.trans (belowK_b (w := W) (Nat.le_refl _) _ D _ _ (by have := HD.out; have := HB4L.out; have := HXB.out.size; omega) hK9 rfl rfl))
                    have hc9 : ((w2.setCell ⟨W.heap.size + 1, 0, none⟩ (.bool true)).putObj D (.deferred none)).cell? ⟨W.heap.size + 1, 0, none⟩ = some (.bool true) := by
                      refine cell_kept (row := some D) ?_ (grownBy_putObj' _ D (.deferred none)) (fun r e => by cases e; exact ⟨_, hK9, rfl⟩)
                      exact (blk_cell (blk_set HB42.out 0 (.bool true)) 0).trans rfl
                    have HC9 := Lib.hid hc9
                    clear hK9 hc9
                    go_wp2
                    refine ⟨by simp, .inl ⟨_, _, rfl, run_takeDeferred HK9.out, ?_⟩⟩
                    have hc9 := HC9.out
                    refine ⟨_, (show (results Try.f9 _).run Try.prog _ = .ok (.bool true) _ by simp [results, Try.results9, go_sem, hc9]), rfl, HBF.out⟩
end Go.Proofs.Ytmlnbmbobkoipaa
