/-
  RingTypes: the law's call answers true, whatever pairs come; nothing that was there is changed.
-/
import Derived.Test.YtmlnbmbobkoipaaRingP4
import Derived.Test.YtmlnbmbobkoipaaRingAwake
import Derived.Test.YtmlnbmbobkoipaaRingTypesPure
import Derived.Test.YtmlnbmbobkoipaaOpens
namespace Go.Proofs.Ytmlnbmbobkoipaa
open Go.RowKit Go.Proofs.YtmlnbmbobkoipaaW.PrintWords Go.Proofs.YtmlnbmbobkoipaaW.PrintLast Go.Proofs.YtmlnbmbobkoipaaW.PrintMore

/-- A ring that lies in new memory. -/
structure TInv (W : World) (g : Nat) (room : Int) (L : List (ByteArray × Int)) (w : World) : Prop where
  big : W.heap.size ≤ g
  bel : Below W.heap.size W w
  ex : ∃ ok : Nat → Prop, RingIsP w g ok room L ∧ ∀ k, ok k → W.heap.size ≤ k
theorem TInv.below {W w w' : World} {g : Nat} {room : Int} {L : List (ByteArray × Int)} (h : TInv W g room L w) (hb : Below w.heap.size w w') : TInv W g room L w' := by
  obtain ⟨h1, h2, ok, h3, h4⟩ := h
  exact ⟨h1, h2.trans (hb.mono h2.size), ok, h3.below hb, h4⟩
theorem TInv.step {W w w' : World} {g : Nat} {room : Int} {L L' : List (ByteArray × Int)} {ok ok' : Nat → Prop} (h : TInv W g room L w) (h4 : ∀ k, ok k → W.heap.size ≤ k) (b : Below 0 w w') (k : Kept w w' (fun k => k = g ∨ ok k)) (m : RingIsP w' g ok' room L') (h5 : ∀ k, ok' k → W.heap.size ≤ k) : TInv W g room L' w' := by
  refine ⟨h.big, below_kept h.bel b k ?_, ok', m, h5⟩
  rintro k hk (rfl | hs)
  · have := h.big; omega
  · have := h4 k hs; omega
theorem eqP (d : Nat) (w : World) (x0 y0 : ByteArray) (x1 y1 : Int) :
    (Op.equalIn (d + 2) 50 (.agg #[.string x0, .int .i64 x1]) (.agg #[.string y0, .int .i64 y1])).run Try.prog w = .ok ((x0.toList == y0.toList) && (x1 == y1)) w := by
  refine eqA_of Try.underlying50 (by kernel_rfl) ?_
  refine eqf_cons (by rfl) (by go_simp; rfl) (by go_simp; rfl) (by go_simp) ?_
  exact eqf_last (by rfl) (by go_simp; rfl) (by go_simp; rfl) (by go_simp)
theorem neq_self (a : ByteArray) (b : Int) (w : World) : (binOp .neq 50 (.agg #[.string a, .int .i64 b]) (.agg #[.string a, .int .i64 b])).run Try.prog w = .ok (.bool false) w := by
  simp only [binOp]
  simp [Op.equal, Op.maxDepth, eqP 9998 w a a b b]
def ptOk : World → ByteArray × Int → Prop := fun _ z => z.1.size ≤ reachBytes ∧ (Lit.int .i64 z.2).wf = true
def ptCells : ByteArray × Int → List Value := fun z => [.string z.1] ++ [.int .i64 z.2]

theorem room_num (room : Int) (h : -9223372036854775808 ≤ room ∧ room ≤ 9223372036854775807) :
    ∃ (r1 r2 : Int) (N : Nat), wrap64 (room + 1) = r1 ∧ wrap64 (-r1) = r2 ∧ 0 < N ∧ N ≤ 50 ∧
      ((room < r2) = False ∧ (¬ room < r2) ∧ decide (room < r2) = false ∧ wrap64 (1 + room.tmod 50) = (N : Int) ∨ (room < r2) = True ∧ room < r2 ∧ decide (room < r2) = true ∧ wrap64 (1 + r2.tmod 50) = (N : Int)) := by
  by_cases h0 : 0 ≤ room
  · refine ⟨_, _, (1 + room % 50).toNat, rfl, rfl, by omega, by omega, .inl ?_⟩
    have hn : ¬ room < wrap64 (-wrap64 (room + 1)) := by unfold wrap64; omega
    refine ⟨eq_false hn, hn, decide_eq_false hn, ?_⟩
    rw [Int.tmod_eq_emod_of_nonneg h0]
    unfold wrap64
    omega
  · have e : wrap64 (-wrap64 (room + 1)) = -(room + 1) := by unfold wrap64; omega
    refine ⟨_, _, (1 + (-(room + 1)) % 50).toNat, rfl, rfl, by omega, by omega, .inr ?_⟩
    rw [e]
    have hn : room < -(room + 1) := by omega
    refine ⟨eq_true hn, hn, decide_eq_true hn, ?_⟩
    rw [Int.tmod_eq_emod_of_nonneg (by omega)]
    unfold wrap64
    omega
theorem pt_at {s : Sl (ByteArray × Int)} {W : World} (hs : Sl.ok Try.prog 50 ptCells ptOk W s) {i : Nat} (hi : i < s.len) :
    ∃ a, s.at_ = some a ∧ a.block < W.heap.size ∧ W.cell? (a.add (i * 2)) = some (.string ((s.all.take s.len).getD i zeroP).1) ∧ W.cell? (a.add (i * 2 + 1)) = some (.int .i64 ((s.all.take s.len).getD i zeroP).2) := by
  obtain ⟨h1, h2, h3, h4, h5, h6⟩ := hs
  rcases h6 with ⟨_, h6⟩ | ⟨a, ha, hc⟩
  · omega
  have hl : i < s.all.length := by omega
  have hg : (s.all.take s.len).getD i zeroP = s.all[i] := by
    rw [List.getD_eq_getElem?_getD, List.getElem?_take, if_pos hi, List.getElem?_eq_getElem hl]
    rfl
  rw [hg]
  have hz := hc i _ (List.getElem?_eq_getElem hl)
  have e : Try.prog.cellsOf 50 = 2 := by kernel_rfl
  rw [e] at hz
  have hb := World.cells?_block hz (by decide)
  refine ⟨a, ha, ?_, ?_, ?_⟩
  · rw [add_block] at hb; exact hb
  · have := cells_get hz 0 _ rfl
    rw [Addr.add_add] at this
    exact this
  · have := cells_get hz 1 _ rfl
    rw [Addr.add_add] at this
    exact this
theorem pt_few {s : Sl (ByteArray × Int)} {W : World} (hs : Sl.ok Try.prog 50 ptCells ptOk W s) : s.len ≤ 5864062014806 ∧ (s.all.take s.len).length = s.len := by
  obtain ⟨h1, h2, h3, h4, h5, h6⟩ := hs
  have e : Try.prog.bytesOf 50 = 24 := by kernel_rfl
  have e2 : reachBytes = 140737488351232 := rfl
  rw [e, e2] at h4
  refine ⟨by omega, by rw [List.length_take]; omega⟩
set_option maxHeartbeats 8000000 in
set_option maxRecDepth 100000 in
theorem RingTypes_sl (room : Int) (hroom : -9223372036854775808 ≤ room ∧ room ≤ 9223372036854775807) (s : Sl (ByteArray × Int)) (W : World) (hs : Sl.ok Try.prog 50 ptCells ptOk W s) :
    Calls Try.prog 7 #[.int .i64 room, .slice s.at_ s.len s.cap] W fun e w' => e = .returned (.bool true) ∧ Below W.heap.size W w' := by
  have HP := Lib.hid fun i (hi : i < s.len) => pt_at hs hi
  have HF := Lib.hid (pt_few hs)
  clear hs
  obtain ⟨at_, len, cap, all⟩ := s
  simp only at HP HF ⊢
  obtain ⟨xs, hxs⟩ : ∃ xs, all.take len = xs := ⟨_, rfl⟩
  rw [hxs] at HF
  simp only [hxs] at HP
  clear hxs
  obtain ⟨r1, r2, N, h1, h2, h3, h4, h5⟩ := room_num room hroom
  have HN := Lib.hid (And.intro h3 h4)
  clear h3 h4
  go_enter Try.func7, Try.ntmps7
  go_wp2_with fail
  refine (awake05 _).mono ?_
  rintro e w1 ⟨rfl, b1⟩
  rcases h5 with ⟨k1, k2, k3, k4⟩ | ⟨k1, k2, k3, k4⟩
  all_goals
    go_wp2_with fail
    refine (ringsP_new (N : Int) _ (by have := HN.out; omega) (by have := HN.out; omega)).mono ?_
    rintro e w2 ⟨g, rfl, hg, m2, b2⟩
    have HI := Lib.hid (show TInv W g N [] w2 from ⟨Nat.le_trans b1.size hg, b1.trans (b2.mono b1.size), fun _ => False, m2, fun _ hk => hk.elim⟩)
    clear m2 hg b1 b2
    go_wp2
    try simp only [k4]
    clear h1 h2 k1 k2 k3 k4
    go_loopg [8] len (fun kq v8 w' => ∃ (i : Nat), v8 = .int .i64 i ∧ Aside0 (i + kq = len) ∧ Aside0 (TInv W g N (lastN N xs i) w'))
    case atStart => exact ⟨0, rfl, ⟨by omega⟩, ⟨by simpa [lastN] using HI.out⟩⟩
    case round =>
      clear HI
      obtain ⟨i, rfl, hk, hI⟩ := hrel
      obtain ⟨okr, m1, m2⟩ := hI.out.ex
      have M1 := Lib.hid m1
      have M2 := Lib.hid m2
      clear m1 m2
      by_cases hi : i < len
      · have c0 : decide (i < len) = true := decide_eq_true hi
        have Hi := Lib.hid hi
        obtain ⟨a, rfl, hab, q0, q1⟩ := HP.out i hi
        clear hi
        have e1 := eq_true (show (0 : Int) ≤ (i : Int) by omega)
        have e2 : ((i : Int) < (len : Int)) = True := eq_true (by have := Hi.out; omega)
        obtain ⟨x, hx⟩ : ∃ x, xs.getD i zeroP = x := ⟨_, rfl⟩
        rw [hx] at q0 q1
        have HX := Lib.hid hx
        have HQ := Lib.hid fun (j : Nat) (y : ByteArray × Int) (hj : j < len) (hy : xs.getD j zeroP = y) (w' : World) (hb : Below W.heap.size W w') => (show w'.cell? (a.add (j * 2)) = some (.string y.1) ∧ w'.cell? ⟨(a.add (j * 2)).block, (a.add (j * 2)).off + 1, none⟩ = some (.int .i64 y.2) ∧ w'.cell? (a.add (j * 2 + 1)) = some (.int .i64 y.2) from by
          obtain ⟨a2, ha2, _, p0, p1⟩ := HP.out j hj
          cases ha2
          rw [hy] at p0 p1
          exact ⟨(hb.cell (by rw [add_block]; exact hab)).trans p0, by rw [← add_field a (j * 2) 1 (by decide)]; exact (hb.cell (by rw [add_block]; exact hab)).trans p1, (hb.cell (by rw [add_block]; exact hab)).trans p1⟩)
        clear q0 q1 hx
        obtain ⟨s0, s1, s2⟩ := HQ.out i x Hi.out HX.out _ hI.out.bel
        go_wp2_with fail
        have hl : i < xs.length := by have := Hi.out; have := HF.out.2; omega
        have hle : (lastN N xs i).length = i - (i - N) := lastN_len (Nat.le_of_lt hl)
        have hpu := lastN_push (n := N) zeroP (by have := HN.out; omega) hl
        refine (ringsP_push x M1.out (by have := HN.out; omega)).mono ?_
        rintro e w3 ⟨rfl, b3, k3, m3⟩
        have hcond : ((((lastN N xs i).length : Nat) : Int) = (N : Int)) = ((lastN N xs i).length = N) := propext ⟨fun h => by omega, fun h => by omega⟩
        simp only [hcond] at m3
        rw [← HX.out, hpu] at m3
        have P3 := Lib.hid (hI.out.step M2.out b3 k3 m3 (by
          rintro k (hk | hk)
          · exact M2.out k hk
          · have := hI.out.bel.size; omega))
        clear b3 k3 m3 hpu
        by_cases hN : N ≤ i
        · have v1 : decide ((((lastN N xs i).length : Nat) : Int) = (N : Int)) = true := decide_eq_true (by omega)
          have v2 : (if (((lastN N xs i).length : Nat) : Int) = (N : Int) then (lastN N xs i).headD zeroP else zeroP) = xs.getD (i - N) zeroP := by
            rw [if_pos (by omega)]
            exact lastN_head zeroP (by have := HN.out; omega) (Nat.le_of_lt hl) hN
          rw [v1, v2]
          clear v1 v2 hcond hle hl
          obtain ⟨y, hy⟩ : ∃ y, xs.getD (i - N) zeroP = y := ⟨_, rfl⟩
          have HY := Lib.hid hy
          rw [hy]
          obtain ⟨j, hj⟩ : ∃ j, i - N = j := ⟨_, rfl⟩
          rw [hj] at hy
          have HJ := Lib.hid (show j < len by have := Hi.out; omega)
          have f1 := eq_true (show (0 : Int) ≤ (j : Int) by omega)
          have f2 : ((j : Int) < (len : Int)) = True := eq_true (by have := HJ.out; omega)
          have f3 : decide ((N : Int) ≤ (i : Int)) = true := decide_eq_true (by omega)
          have f4 : decide (N ≤ i) = true := decide_eq_true hN
          have f5 : IntKind.i64.wrap ((i : Int) - (N : Int)) = (j : Int) := by have := Hi.out; have := HF.out.1; rw [i64_w]; unfold wrap64; omega
          have HY := Lib.hid hy
          clear hy hj hN s0 s1 s2
          go_wp2_with fail
          generalize hw4 : World.alloc w3 _ = w4
          have b4 : Below w3.heap.size w3 w4 := by rw [← hw4]; exact below_alloc (Below.refl _ _) _
          have n4 : w4.heap[w3.heap.size]? = some (.cells #[.string y.1, .int .i64 y.2] 50 (0, 0)) := by rw [← hw4]; exact blk_new _ _
          clear hw4
          have P4 := Lib.hid (P3.out.below b4)
          obtain ⟨t0, t1, t2⟩ := HQ.out j y HJ.out HY.out _ P4.out.bel
          have o0 := (blk_cell n4 0).trans rfl
          have o1 := (blk_cell n4 1).trans rfl
          have hns := neq_self y.1 y.2
          clear n4 b4
          go_quiet (fail)
          clear t0 t1 t2 o0 o1 hns f1 f2 f3 f4 f5
          have P5 := Lib.hid (P4.out.below (pw_below_drewN (Below.refl _ _) nq))
          clear P4
          obtain ⟨ok5, m5, -⟩ := P5.out.ex
          have M5 := Lib.hid m5
          clear m5
          go_wp2_with fail
          refine (ringsP_len M5.out).mono ?_
          rintro e w6 ⟨rfl, rfl⟩
          obtain ⟨p, hp⟩ : ∃ p, (lastN N xs (i + 1)).length - 1 = p := ⟨_, rfl⟩
          have HL5 := Lib.hid (show (lastN N xs (i + 1)).length = p + 1 by
            have h1 := lastN_len (n := N) (xs := xs) (i := i + 1) (by have := Hi.out; have := HF.out.2; omega)
            have := HN.out; omega)
          have hpw : wrap64 ((((lastN N xs (i + 1)).length : Nat) : Int) - 1) = (p : Int) := by
            have h1 := HL5.out
            have h2 := Hi.out; have h3 := HF.out.1
            have h4 := lastN_len (n := N) (xs := xs) (i := i + 1) (by have := HF.out.2; omega)
            rw [h1]
            unfold wrap64; omega
          have HPV := Lib.hid (show atP (lastN N xs (i + 1)) (p : Int) = x ∧ hasP (lastN N xs (i + 1)) (p : Int) = true from by
            have hb : (0 : Int) ≤ (p : Int) ∧ (p : Int) < (lastN N xs (i + 1)).length := by have := HL5.out; omega
            refine ⟨?_, decide_eq_true hb⟩
            unfold atP
            rw [if_pos hb, Int.toNat_natCast, ← HX.out, ← hp]
            exact lastN_last zeroP (by have := HN.out; omega) (by have := Hi.out; have := HF.out.2; omega))
          clear hp
          go_wp2_with fail
          refine (ringsP_at M5.out (p : Int)).mono ?_
          rintro e w7 ⟨rfl, b7⟩
          rw [HPV.out.1, HPV.out.2]
          have P7 := Lib.hid (P5.out.below b7)
          clear b7 hpw
          go_wp2_with fail
          generalize hw8 : World.alloc w7 _ = w8
          have b8 : Below w7.heap.size w7 w8 := by rw [← hw8]; exact below_alloc (Below.refl _ _) _
          have n8 : w8.heap[w7.heap.size]? = some (.cells #[.string x.1, .int .i64 x.2] 50 (0, 0)) := by rw [← hw8]; exact blk_new _ _
          clear hw8
          have P8 := Lib.hid (P7.out.below b8)
          obtain ⟨u0, u1, u2⟩ := HQ.out i x Hi.out HX.out _ P8.out.bel
          have z0 := (blk_cell n8 0).trans rfl
          have z1 := (blk_cell n8 1).trans rfl
          have hns2 := neq_self x.1 x.2
          clear n8 b8
          go_quiet (fail)
          have P9 := Lib.hid (P8.out.below (pw_below_drewN (Below.refl _ _) nq))
          have HWR := Lib.hid (show wrap64 ((i : Int) + 1) = ((i + 1 : Nat) : Int) by have := Hi.out; have := HF.out.1; unfold wrap64; omega)
          clear u0 u1 u2 z0 z1 hns2
          go_wp2
          go_roundg (gk - 1)
          case measure => have := hk.out; have := Hi.out; omega
          case rel => exact ⟨i + 1, by first | rfl | rw [HWR.out], ⟨by have := hk.out; have := Hi.out; omega⟩, ⟨P9.out⟩⟩
        · have v1 : decide ((((lastN N xs i).length : Nat) : Int) = (N : Int)) = false := decide_eq_false (by omega)
          have v2 : (if (((lastN N xs i).length : Nat) : Int) = (N : Int) then (lastN N xs i).headD zeroP else zeroP) = zeroP := if_neg (by omega)
          rw [v1, v2]
          have f3 : decide ((N : Int) ≤ (i : Int)) = false := decide_eq_false (by omega)
          have f4 : decide (N ≤ i) = false := decide_eq_false hN
          clear v1 v2 hcond hle hl hN s0 s1 s2
          go_wp2_with fail
          generalize hw4 : World.alloc w3 _ = w4
          have b4 : Below w3.heap.size w3 w4 := by rw [← hw4]; exact below_alloc (Below.refl _ _) _
          have n4 : w4.heap[w3.heap.size]? = some (.cells #[.string ByteArray.empty, .int .i64 0] 50 (0, 0)) := by rw [← hw4]; exact blk_new _ _
          clear hw4
          have P4 := Lib.hid (P3.out.below b4)
          have o0 := (blk_cell n4 0).trans rfl
          have o1 := (blk_cell n4 1).trans rfl
          have hns := neq_self ByteArray.empty 0
          clear n4 b4
          go_quiet (fail)
          clear o0 o1 hns f3 f4
          have P5 := Lib.hid (P4.out.below (pw_below_drewN (Below.refl _ _) nq))
          clear P4
          obtain ⟨ok5, m5, -⟩ := P5.out.ex
          have M5 := Lib.hid m5
          clear m5
          go_wp2_with fail
          refine (ringsP_len M5.out).mono ?_
          rintro e w6 ⟨rfl, rfl⟩
          obtain ⟨p, hp⟩ : ∃ p, (lastN N xs (i + 1)).length - 1 = p := ⟨_, rfl⟩
          have HL5 := Lib.hid (show (lastN N xs (i + 1)).length = p + 1 by
            have h1 := lastN_len (n := N) (xs := xs) (i := i + 1) (by have := Hi.out; have := HF.out.2; omega)
            have := HN.out; omega)
          have hpw : wrap64 ((((lastN N xs (i + 1)).length : Nat) : Int) - 1) = (p : Int) := by
            have h1 := HL5.out
            have h2 := Hi.out; have h3 := HF.out.1
            have h4 := lastN_len (n := N) (xs := xs) (i := i + 1) (by have := HF.out.2; omega)
            rw [h1]
            unfold wrap64; omega
          have HPV := Lib.hid (show atP (lastN N xs (i + 1)) (p : Int) = x ∧ hasP (lastN N xs (i + 1)) (p : Int) = true from by
            have hb : (0 : Int) ≤ (p : Int) ∧ (p : Int) < (lastN N xs (i + 1)).length := by have := HL5.out; omega
            refine ⟨?_, decide_eq_true hb⟩
            unfold atP
            rw [if_pos hb, Int.toNat_natCast, ← HX.out, ← hp]
            exact lastN_last zeroP (by have := HN.out; omega) (by have := Hi.out; have := HF.out.2; omega))
          clear hp
          go_wp2_with fail
          refine (ringsP_at M5.out (p : Int)).mono ?_
          rintro e w7 ⟨rfl, b7⟩
          rw [HPV.out.1, HPV.out.2]
          have P7 := Lib.hid (P5.out.below b7)
          clear b7 hpw
          go_wp2_with fail
          generalize hw8 : World.alloc w7 _ = w8
          have b8 : Below w7.heap.size w7 w8 := by rw [← hw8]; exact below_alloc (Below.refl _ _) _
          have n8 : w8.heap[w7.heap.size]? = some (.cells #[.string x.1, .int .i64 x.2] 50 (0, 0)) := by rw [← hw8]; exact blk_new _ _
          clear hw8
          have P8 := Lib.hid (P7.out.below b8)
          obtain ⟨u0, u1, u2⟩ := HQ.out i x Hi.out HX.out _ P8.out.bel
          have z0 := (blk_cell n8 0).trans rfl
          have z1 := (blk_cell n8 1).trans rfl
          have hns2 := neq_self x.1 x.2
          clear n8 b8
          go_quiet (fail)
          have P9 := Lib.hid (P8.out.below (pw_below_drewN (Below.refl _ _) nq))
          have HWR := Lib.hid (show wrap64 ((i : Int) + 1) = ((i + 1 : Nat) : Int) by have := Hi.out; have := HF.out.1; unfold wrap64; omega)
          clear u0 u1 u2 z0 z1 hns2
          go_wp2
          go_roundg (gk - 1)
          case measure => have := hk.out; have := Hi.out; omega
          case rel => exact ⟨i + 1, by first | rfl | rw [HWR.out], ⟨by have := hk.out; have := Hi.out; omega⟩, ⟨P9.out⟩⟩
      · have c0 : decide (i < len) = false := decide_eq_false hi
        have hil : i = len := by have := hk.out; omega
        have PE := Lib.hid (show TInv W g N (xs.drop (len - N)) wr by
          have h1 := hI.out
          rw [hil, ← HF.out.2, lastN_all (by have := HN.out; omega), HF.out.2] at h1
          exact h1)
        clear hi hil M1 M2
        by_cases hnl : N < len
        · obtain ⟨F0, hF0⟩ : ∃ F0, F0 = len - N := ⟨_, rfl⟩
          have HF0 := Lib.hid hF0
          have hd : wrap64 ((len : Int) - (N : Int)) = (F0 : Int) := by have := HF.out.1; have := HN.out; unfold wrap64; omega
          have g1 := eq_true hnl
          have g2 : (0 < F0) = True := eq_true (by omega)
          have g3 : ((0 : Int) < (F0 : Int)) = True := eq_true (by omega)
          clear hF0 hnl
          go_wp2_with fail
          clear hd g1 g2 g3
          go_loopg [14] (len - F0) (fun kq v14 w' => ∃ (j : Nat), v14 = .int .i64 j ∧ Aside0 (j + kq = len) ∧ Aside0 (TInv W g N (xs.drop j) w'))
          case atStart => exact ⟨F0, by first | rfl | simp [HF0.out], ⟨by have := HF0.out; omega⟩, ⟨by rw [HF0.out]; exact PE.out⟩⟩
          case round =>
            clear PE
            obtain ⟨j, rfl, hkj, hJ⟩ := hrel
            obtain ⟨oks, m1, m2⟩ := hJ.out.ex
            have M1 := Lib.hid m1
            have M2 := Lib.hid m2
            clear m1 m2
            by_cases hj : j < len
            · have c1 : decide (j < len) = true := decide_eq_true hj
              have Hj := Lib.hid hj
              obtain ⟨a, rfl, hab, q0, q1⟩ := HP.out j hj
              obtain ⟨x, hx⟩ : ∃ x, xs.getD j zeroP = x := ⟨_, rfl⟩
              rw [hx] at q0 q1
              have hdr : xs.drop j = x :: xs.drop (j + 1) := by
                have hl : j < xs.length := by have := HF.out.2; omega
                rw [List.drop_eq_getElem_cons hl, ← hx, List.getD_eq_getElem?_getD, List.getElem?_eq_getElem hl]
                rfl
              have hM := M1.out
              rw [hdr] at hM
              have HM := Lib.hid hM
              have HQ := Lib.hid fun (w' : World) (hb : Below W.heap.size W w') => (show w'.cell? (a.add (j * 2)) = some (.string x.1) ∧ w'.cell? ⟨(a.add (j * 2)).block, (a.add (j * 2)).off + 1, none⟩ = some (.int .i64 x.2) ∧ w'.cell? (a.add (j * 2 + 1)) = some (.int .i64 x.2) from
                ⟨(hb.cell (by rw [add_block]; exact hab)).trans q0, by rw [← add_field a (j * 2) 1 (by decide)]; exact (hb.cell (by rw [add_block]; exact hab)).trans q1, (hb.cell (by rw [add_block]; exact hab)).trans q1⟩)
              have e1 := eq_true (show (0 : Int) ≤ (j : Int) by omega)
              have e2 : ((j : Int) < (len : Int)) = True := eq_true (by have := Hj.out; omega)
              clear q0 q1 hx hdr hM hj
              go_wp2_with fail
              refine (ringsP_drop HM.out).mono ?_
              rintro e w3 ⟨rfl, b3, k3, m3⟩
              have P3 := Lib.hid (hJ.out.step M2.out b3 k3 m3 M2.out)
              clear b3 k3 m3
              go_wp2_with fail
              generalize hw8 : World.alloc w3 _ = w8
              have b8 : Below w3.heap.size w3 w8 := by rw [← hw8]; exact below_alloc (Below.refl _ _) _
              have n8 : w8.heap[w3.heap.size]? = some (.cells #[.string x.1, .int .i64 x.2] 50 (0, 0)) := by rw [← hw8]; exact blk_new _ _
              clear hw8
              have P8 := Lib.hid (P3.out.below b8)
              obtain ⟨u0, u1, u2⟩ := HQ.out _ P8.out.bel
              have z0 := (blk_cell n8 0).trans rfl
              have z1 := (blk_cell n8 1).trans rfl
              have hns2 := neq_self x.1 x.2
              clear n8 b8
              go_quiet (fail)
              have P9 := Lib.hid (P8.out.below (pw_below_drewN (Below.refl _ _) nq))
              have HWR := Lib.hid (show wrap64 ((j : Int) + 1) = ((j + 1 : Nat) : Int) by have := Hj.out; have := HF.out.1; unfold wrap64; omega)
              clear u0 u1 u2 z0 z1 hns2
              go_wp2
              go_roundg (gk - 1)
              case measure => have := hkj.out; have := Hj.out; omega
              case rel => exact ⟨j + 1, by first | rfl | rw [HWR.out], ⟨by have := hkj.out; have := Hj.out; omega⟩, ⟨P9.out⟩⟩
            · have c1 : decide (j < len) = false := decide_eq_false hj
              have hM := M1.out
              have hdn : xs.drop j = [] := List.drop_eq_nil_of_le (by have := HF.out.2; omega)
              rw [hdn] at hM
              have HM := Lib.hid hM
              clear hM hdn hj
              go_wp2_with fail
              refine (ringsP_drop_none HM.out).mono ?_
              rintro e w3 ⟨rfl, b3⟩
              have P3 := Lib.hid (HM.out.below b3)
              have B3 := Lib.hid (hJ.out.bel.trans (b3.mono hJ.out.bel.size))
              clear b3
              go_wp2_with fail
              generalize hw8 : World.alloc w3 _ = w8
              have b8 : Below w3.heap.size w3 w8 := by rw [← hw8]; exact below_alloc (Below.refl _ _) _
              clear hw8
              refine (ringsP_len (P3.out.below b8)).mono ?_
              rintro e w9 ⟨rfl, rfl⟩
              go_wp2
              go_ret
              exact ⟨by simp, B3.out.trans (b8.mono B3.out.size)⟩
        · obtain ⟨F0, hF0⟩ : ∃ F0, F0 = len - N := ⟨_, rfl⟩
          have HF0 := Lib.hid hF0
          have HZ0 := Lib.hid (show F0 = 0 by omega)
          have g1 := eq_false hnl
          have hd : wrap64 ((len : Int) - (N : Int)) = (len : Int) - (N : Int) := by have := HF.out.1; have := HN.out; unfold wrap64; omega
          have g2 := eq_false (show ¬ (0 : Int) < (len : Int) - (N : Int) by omega)
          clear hF0 hnl
          go_wp2_with fail
          clear g1 g2 hd
          go_loopg [14] (len - F0) (fun kq v14 w' => ∃ (j : Nat), v14 = .int .i64 j ∧ Aside0 (j + kq = len) ∧ Aside0 (TInv W g N (xs.drop j) w'))
          case atStart => exact ⟨F0, by rw [HZ0.out]; first | rfl | simp, ⟨by have := HF0.out; omega⟩, ⟨by rw [HF0.out]; exact PE.out⟩⟩
          case round =>
            clear PE
            obtain ⟨j, rfl, hkj, hJ⟩ := hrel
            obtain ⟨oks, m1, m2⟩ := hJ.out.ex
            have M1 := Lib.hid m1
            have M2 := Lib.hid m2
            clear m1 m2
            by_cases hj : j < len
            · have c1 : decide (j < len) = true := decide_eq_true hj
              have Hj := Lib.hid hj
              obtain ⟨a, rfl, hab, q0, q1⟩ := HP.out j hj
              obtain ⟨x, hx⟩ : ∃ x, xs.getD j zeroP = x := ⟨_, rfl⟩
              rw [hx] at q0 q1
              have hdr : xs.drop j = x :: xs.drop (j + 1) := by
                have hl : j < xs.length := by have := HF.out.2; omega
                rw [List.drop_eq_getElem_cons hl, ← hx, List.getD_eq_getElem?_getD, List.getElem?_eq_getElem hl]
                rfl
              have hM := M1.out
              rw [hdr] at hM
              have HM := Lib.hid hM
              have HQ := Lib.hid fun (w' : World) (hb : Below W.heap.size W w') => (show w'.cell? (a.add (j * 2)) = some (.string x.1) ∧ w'.cell? ⟨(a.add (j * 2)).block, (a.add (j * 2)).off + 1, none⟩ = some (.int .i64 x.2) ∧ w'.cell? (a.add (j * 2 + 1)) = some (.int .i64 x.2) from
                ⟨(hb.cell (by rw [add_block]; exact hab)).trans q0, by rw [← add_field a (j * 2) 1 (by decide)]; exact (hb.cell (by rw [add_block]; exact hab)).trans q1, (hb.cell (by rw [add_block]; exact hab)).trans q1⟩)
              have e1 := eq_true (show (0 : Int) ≤ (j : Int) by omega)
              have e2 : ((j : Int) < (len : Int)) = True := eq_true (by have := Hj.out; omega)
              clear q0 q1 hx hdr hM hj
              go_wp2_with fail
              refine (ringsP_drop HM.out).mono ?_
              rintro e w3 ⟨rfl, b3, k3, m3⟩
              have P3 := Lib.hid (hJ.out.step M2.out b3 k3 m3 M2.out)
              clear b3 k3 m3
              go_wp2_with fail
              generalize hw8 : World.alloc w3 _ = w8
              have b8 : Below w3.heap.size w3 w8 := by rw [← hw8]; exact below_alloc (Below.refl _ _) _
              have n8 : w8.heap[w3.heap.size]? = some (.cells #[.string x.1, .int .i64 x.2] 50 (0, 0)) := by rw [← hw8]; exact blk_new _ _
              clear hw8
              have P8 := Lib.hid (P3.out.below b8)
              obtain ⟨u0, u1, u2⟩ := HQ.out _ P8.out.bel
              have z0 := (blk_cell n8 0).trans rfl
              have z1 := (blk_cell n8 1).trans rfl
              have hns2 := neq_self x.1 x.2
              clear n8 b8
              go_quiet (fail)
              have P9 := Lib.hid (P8.out.below (pw_below_drewN (Below.refl _ _) nq))
              have HWR := Lib.hid (show wrap64 ((j : Int) + 1) = ((j + 1 : Nat) : Int) by have := Hj.out; have := HF.out.1; unfold wrap64; omega)
              clear u0 u1 u2 z0 z1 hns2
              go_wp2
              go_roundg (gk - 1)
              case measure => have := hkj.out; have := Hj.out; omega
              case rel => exact ⟨j + 1, by first | rfl | rw [HWR.out], ⟨by have := hkj.out; have := Hj.out; omega⟩, ⟨P9.out⟩⟩
            · have c1 : decide (j < len) = false := decide_eq_false hj
              have hM := M1.out
              have hdn : xs.drop j = [] := List.drop_eq_nil_of_le (by have := HF.out.2; omega)
              rw [hdn] at hM
              have HM := Lib.hid hM
              clear hM hdn hj
              go_wp2_with fail
              refine (ringsP_drop_none HM.out).mono ?_
              rintro e w3 ⟨rfl, b3⟩
              have P3 := Lib.hid (HM.out.below b3)
              have B3 := Lib.hid (hJ.out.bel.trans (b3.mono hJ.out.bel.size))
              clear b3
              go_wp2_with fail
              generalize hw8 : World.alloc w3 _ = w8
              have b8 : Below w3.heap.size w3 w8 := by rw [← hw8]; exact below_alloc (Below.refl _ _) _
              clear hw8
              refine (ringsP_len (P3.out.below b8)).mono ?_
              rintro e w9 ⟨rfl, rfl⟩
              go_wp2
              go_ret
              exact ⟨by simp, B3.out.trans (b8.mono B3.out.size)⟩
theorem pts_opn : Opn Try.prog 44 (fun s : Sl (ByteArray × Int) => [.slice s.at_ s.len s.cap]) (Sl.ok Try.prog 50 ptCells ptOk) :=
  opn_slice Try.underlying44 (opn_struct Try.underlying50 (by kernel_rfl) (opnF_cons rfl (sz := 1) (by kernel_rfl) (opn_string Try.underlying9) (opnF_last rfl (opn_int Try.underlying3))))
theorem wf64' {n : Int} (h : (Lit.int .i64 n).wf = true) : -9223372036854775808 ≤ n ∧ n ≤ 9223372036854775807 := by
  simp [Lit.wf, IntKind.min, IntKind.max, IntKind.signed, IntKind.bits] at h
  omega
theorem RingTypes_row {H : Type} {enc : TypeId × Value → H} {base : Nat} {d : DataW H} {p : List MemPlace} (room : Int) (v : Value) (W : World) (wf : (Lit.int .i64 room).wf = true) (hval : Value.okWide Try.prog W .any base 44 v)
    (h : DataW.Trod enc Try.prog W 0 (fun _ => true) true 44 v d p) (y : ∀ n ∈ DataW.weights Try.prog 44 d, n ≤ reachBytes) :
    Calls Try.prog 7 #[.int .i64 room, v] W fun e w' => e = .returned (.bool true) ∧ Below W.heap.size W w' := by
  obtain ⟨a, len, cap, rfl⟩ := WideShapes.okWide_slice Try.underlying44 hval
  obtain ⟨fuel, hf⟩ := h
  obtain ⟨s, hs, hok⟩ := pts_opn hf y
  simp [Value.cells] at hs
  obtain ⟨rfl, rfl, rfl⟩ := hs
  exact RingTypes_sl room (wf64' wf) s W hok
end Go.Proofs.Ytmlnbmbobkoipaa
