/-
  RankPlays: the law's call answers true, for every script; nothing that was there is changed.
-/
import Derived.Test.YtfojfgnhblgckaaRankPlaysInv
namespace Go.Proofs.Ytfojfgnhblgckaa
open Go.RowKit Go.Proofs.Ytfojfgnhblgckaa.XRefs Go.Proofs.YtfojfgnhblgckaaW.PrintWords Go.Proofs.YtfojfgnhblgckaaW.PrintLast Go.Proofs.YtfojfgnhblgckaaW.PrintMore

theorem qinv_len2 {W w : World} {g : Nat} {v : Value} {L : List Int} (h : QInv W g v L (srt L) w) : Calls Try.prog 19 #[.pointer (some ⟨g, 0, none⟩)] w fun e w' => e = .returned (.int .i64 (L.length : Int)) ∧ w = w' := by
  have := qinv_len h
  rw [srt_len] at this
  exact this
theorem qinv_read {W w : World} {g : Nat} {A : Option Addr} {n c : Nat} {L M : List Int} (h : QInv W g (.slice A n c) L M w) : n ≤ c ∧ Kd.C (Kd.int .i64) w A L.length L := by
  obtain ⟨h1, h2, okm, okl, h3, h4, h5, h6⟩ := h
  have := Kd.R_reads' h4
  exact ⟨by first | exact this.2.1 | (have := this.2.1; have := this.1; omega), this.2.2⟩
set_option maxHeartbeats 8000000 in
set_option maxRecDepth 100000 in
theorem RankPlays_sl (s : Sl (Int × Int)) (W : World) (hs : Sl.ok Try.prog 32 opCells opOk W s) :
    Calls Try.prog 4 #[.slice s.at_ s.len s.cap] W fun e w' => e = .returned (.bool true) ∧ Below W.heap.size W w' := by
  have HP := Lib.hid fun i (hi : i < s.len) => op_at hs hi
  have HF := Lib.hid (ops_few hs)
  clear hs
  obtain ⟨at_, len, cap, all⟩ := s
  simp only at HP HF ⊢
  go_enter Try.func4, Try.ntmps4
  go_wp2_with fail
  refine (awake07 _).mono ?_
  rintro e w1 ⟨rfl, b1⟩
  go_wp2_with fail
  refine (rank_new _).mono ?_
  rintro e w2 ⟨g, rfl, hg, h2, b2⟩
  have HI := Lib.hid (show QInv W g (.slice none 0 0) [] (srt []) w2 from ⟨Nat.le_trans b1.size hg, b1.trans (b2.mono b1.size), fun _ => False, fun _ => False, h2, Kd.R_nil _ _ _ _ _, fun _ hk => hk.elim, fun _ hk => hk.elim⟩)
  clear h2 hg b1 b2
  go_wp2
  go_loopg [4, 5] len (fun kq v4 v5 w' => ∃ (i : Nat) (L : List Int), v5 = .int .i64 i ∧ Aside0 (i + kq = len) ∧ Aside0 (L.length ≤ 300) ∧ Aside0 (QInv W g v4 L (srt L) w'))
  case atStart => exact ⟨0, [], rfl, ⟨by omega⟩, ⟨by simp⟩, ⟨HI.out⟩⟩
  case round =>
    clear HI
    obtain ⟨i, L, rfl, hk, hx, hI⟩ := hrel
    obtain ⟨okm, okl, m1, m2, m3, m4⟩ := hI.out.ex
    obtain ⟨AL, cL, rfl⟩ := Kd.R_slice m2
    clear m1 m2 m3 m4
    by_cases hgo : i < len ∧ L.length < 300
    · obtain ⟨hi, hl3⟩ := hgo
      have c0 : decide (i < len) = true := decide_eq_true hi
      have c1 : decide (L.length < 300) = true := decide_eq_true hl3
      have c2 : decide ((L.length : Int) < 300) = true := decide_eq_true (by omega)
      have Hi := Lib.hid hi
      have Hl := Lib.hid hl3
      obtain ⟨a, kd, v, rfl, hab, q0, q1⟩ := HP.out i hi
      clear hi hl3
      have e1 := eq_true (show (0 : Int) ≤ (i : Int) by omega)
      have e2 : ((i : Int) < (len : Int)) = True := eq_true (by have := Hi.out; omega)
      have e3 := eq_true Hi.out
      have HQ := Lib.hid fun (w' : World) (hb : Below W.heap.size W w') => (show w'.cell? (a.add (i * 2)) = some (.int .i64 kd) ∧ w'.cell? ⟨(a.add (i * 2)).block, (a.add (i * 2)).off + 1, none⟩ = some (.int .i64 v) from
        ⟨(hb.cell (by rw [add_block]; exact hab)).trans q0, by rw [← add_field a (i * 2) 1 (by decide)]; exact (hb.cell (by rw [add_block]; exact hab)).trans q1⟩)
      clear q0 q1
      obtain ⟨s0, s1⟩ := HQ.out _ hI.out.bel
      have hwr : wrap64 ((i : Int) + 1) = ((i + 1 : Nat) : Int) := by have := Hi.out; have := HF.out; unfold wrap64; omega
      by_cases k1 : kd = 1
      · subst k1
        go_wp2_with fail
        refine (qinv_put v hI.out (by rw [srt_len]; have := Hl.out; omega)).mono ?_
        rintro e w3 ⟨rfl, P3⟩
        obtain ⟨okm3, okl3, m1, m2, m3, m4⟩ := P3.ex
        have hv : ∀ k, (Value.slice AL L.length cL).ownBlock = some k → okl3 k := m2.1
        have N1 := Lib.hid m1
        have N2 := Lib.hid m2
        have N3 := Lib.hid m3
        have N4 := Lib.hid m4
        have NV := Lib.hid hv
        have NP := Lib.hid P3
        obtain ⟨L2, hL2⟩ : ∃ L2, L ++ [v] = L2 := ⟨_, rfl⟩
        have HL2 := Lib.hid hL2
        have HLL := Lib.hid (show L2.length = L.length + 1 by rw [← hL2]; simp)
        clear m1 m2 m3 m4 hv P3 s0 s1 hL2
        go_wp2_with (first | ((with_reducible refine gate_builtin (b := .append) (xs := #[.tmp 42, .tmp 44]) rfl ?_); at_builtin; refine Kd.R_append (Kd.int .i64) (w0 := w3) 0 rfl (.tmp 42) (.tmp 44) 22 2 (.int .i64 0) 8 rfl Try.underlying22 info64 rfl (by decide) (by decide) (.slice AL L.length cL) L v [.int .i64 v] (fun k => okl3 k ∨ w3.heap.size ≤ k) (fun _ => False) (by rfl) (by rfl) ?aP (fun _ hk => hk.elim) (fun k hk => .inr hk) (Kd.R_mono N2.out (fun k hk => .inl hk)) (Below.refl 0 w3) (Nat.zero_le _) ?aL ?_; (case aP => exact rfl); (case aL => have := Hl.out; omega); intro v108 w9 ho hb9 hg9 hat; rw [HL2.out] at ho; have P9 := Lib.hid (show QInv W g v108 L2 (srt L2) w9 by rw [show srt L2 = putL v (srt L) by rw [← HL2.out, srt_snoc]]; exact QInv.grown NP.out.big NP.out.bel N1.out N3.out N4.out NV.out ho hb9 hg9); obtain ⟨A9, c9, rfl⟩ := Kd.R_slice ho; clear ho hb9 hg9 hat))
        go_wp2_with fail
        refine (qinv_len2 P9.out).mono ?_
        rintro e w8 ⟨rfl, rfl⟩
        go_wp2
        go_roundg (gk - 1)
        case measure => have := hk.out; have := Hi.out; omega
        case rel => exact ⟨i + 1, L2, by first | rfl | simp [hwr], ⟨by have := hk.out; have := Hi.out; omega⟩, ⟨by have := HLL.out; have := Hl.out; omega⟩, ⟨P9.out⟩⟩
      by_cases k2 : kd = 2
      · subst k2
        by_cases hmem : v ∈ L
        · go_wp2_with fail
          refine (qinv_take v hI.out (has_srt.2 hmem)).mono ?_
          rintro e w3 ⟨rfl, P3⟩
          rw [take_srt hmem] at P3
          have NP := Lib.hid P3
          have hq := qinv_read P3
          have NQ := Lib.hid hq
          clear P3 hq s0 s1
          go_wp2_with fail
          refine (ref_without v rfl (by have := Hl.out; omega) NQ.out.2 NQ.out.1).mono ?_
          rintro e w4 ⟨b4, hd⟩
          rcases hd with ⟨hno, -⟩ | ⟨-, V, rfl, r4⟩
          · exact absurd hmem hno
          obtain ⟨A9, c9, rfl⟩ := Kd.R_slice r4
          have P9 := Lib.hid (NP.out.other b4 r4)
          have HLE := Lib.hid (show (L.erase v).length ≤ L.length from List.length_erase_le)
          obtain ⟨L2, hL2⟩ : ∃ L2, L.erase v = L2 := ⟨_, rfl⟩
          rw [hL2] at P9 HLE
          clear b4 r4
          rw [hL2]
          clear hL2 hmem
          go_wp2_with fail
          refine (qinv_len2 P9.out).mono ?_
          rintro e w8 ⟨rfl, rfl⟩
          go_wp2
          go_roundg (gk - 1)
          case measure => have := hk.out; have := Hi.out; omega
          case rel => exact ⟨i + 1, L2, by first | rfl | simp [hwr], ⟨by have := hk.out; have := Hi.out; omega⟩, ⟨by have := HLE.out; have := Hl.out; omega⟩, ⟨P9.out⟩⟩
        · have hno : hasL v (srt L) = false := by
            cases h : hasL v (srt L) with
            | false => rfl
            | true => exact absurd (has_srt.1 h) hmem
          go_wp2_with fail
          refine (qinv_take_no v hI.out hno).mono ?_
          rintro e w3 ⟨rfl, rfl⟩
          have hq := qinv_read hI.out
          have NQ := Lib.hid hq
          clear hq s0 s1 hno
          go_wp2_with fail
          refine (ref_without v rfl (by have := Hl.out; omega) NQ.out.2 NQ.out.1).mono ?_
          rintro e w4 ⟨b4, hd⟩
          rcases hd with ⟨-, rfl⟩ | ⟨hm, -⟩
          · have P9 := Lib.hid (hI.out.below b4)
            clear b4 hmem
            go_wp2_with fail
            refine (qinv_len2 P9.out).mono ?_
            rintro e w8 ⟨rfl, rfl⟩
            go_wp2
            go_roundg (gk - 1)
            case measure => have := hk.out; have := Hi.out; omega
            case rel => exact ⟨i + 1, L, by first | rfl | simp [hwr], ⟨by have := hk.out; have := Hi.out; omega⟩, ⟨by have := Hl.out; omega⟩, ⟨P9.out⟩⟩
          · exact absurd hm hmem
      by_cases k3 : kd = 3
      · subst k3
        go_wp2_with fail
        refine (qinv_at v hI.out).mono ?_
        rintro e w3 ⟨rfl, rfl⟩
        have hq := qinv_read hI.out
        have NQ := Lib.hid hq
        clear hq s0 s1
        obtain ⟨xv, hxv⟩ : ∃ xv, atV (srt L) v = xv := ⟨_, rfl⟩
        obtain ⟨xb, hxb⟩ : ∃ xb, atB (srt L) v = xb := ⟨_, rfl⟩
        have HX := Lib.hid (And.intro hxv hxb)
        rw [hxv, hxb]
        clear hxv hxb
        go_wp2_with fail
        refine (ref_at v rfl (by have := Hl.out; omega) NQ.out.2 NQ.out.1).mono ?_
        rintro e w4 ⟨rfl, b4⟩
        rw [HX.out.1, HX.out.2]
        have P9 := Lib.hid (hI.out.below b4)
        clear b4
        go_wp2_with fail
        refine (qinv_len2 P9.out).mono ?_
        rintro e w8 ⟨rfl, rfl⟩
        go_wp2
        go_roundg (gk - 1)
        case measure => have := hk.out; have := Hi.out; omega
        case rel => exact ⟨i + 1, L, by first | rfl | simp [hwr], ⟨by have := hk.out; have := Hi.out; omega⟩, ⟨by have := Hl.out; omega⟩, ⟨P9.out⟩⟩
      by_cases k4 : kd = 4
      · subst k4
        go_wp2_with fail
        refine (qinv_by v hI.out).mono ?_
        rintro e w3 ⟨rfl, b3⟩
        have P3 := Lib.hid (hI.out.below b3)
        have hq := qinv_read P3.out
        have NQ := Lib.hid hq
        clear hq s0 s1 b3
        obtain ⟨xv, hxv⟩ : ∃ xv, byV (srt L) v = xv := ⟨_, rfl⟩
        obtain ⟨xb, hxb⟩ : ∃ xb, askB (srt L) v = xb := ⟨_, rfl⟩
        have HX := Lib.hid (And.intro hxv hxb)
        rw [hxv, hxb]
        clear hxv hxb
        go_wp2_with fail
        refine (ref_by v rfl (by have := Hl.out; omega) NQ.out.2 NQ.out.1).mono ?_
        rintro e w4 ⟨rfl, b4⟩
        rw [HX.out.1, HX.out.2]
        have P9 := Lib.hid (P3.out.below b4)
        clear b4
        go_wp2_with fail
        refine (qinv_len2 P9.out).mono ?_
        rintro e w8 ⟨rfl, rfl⟩
        go_wp2
        go_roundg (gk - 1)
        case measure => have := hk.out; have := Hi.out; omega
        case rel => exact ⟨i + 1, L, by first | rfl | simp [hwr], ⟨by have := hk.out; have := Hi.out; omega⟩, ⟨by have := Hl.out; omega⟩, ⟨P9.out⟩⟩
      by_cases k5 : kd = 5
      · subst k5
        go_wp2_with fail
        refine (qinv_list hI.out).mono ?_
        rintro e w3 ⟨v3, rfl, r3, b3⟩
        obtain ⟨A3, d3, rfl⟩ := Kd.R_slice r3
        have P3 := Lib.hid (hI.out.below b3)
        have hq := qinv_read P3.out
        have NQ := Lib.hid hq
        have R3 := Lib.hid (Kd.R_reads' r3)
        have HSL := Lib.hid (srt_len L)
        clear hq s0 s1 b3 r3
        go_wp2_with fail
        refine (ref_list rfl (by have := Hl.out; omega) NQ.out.2 NQ.out.1).mono ?_
        rintro e w4 ⟨v4, rfl, r4, b4⟩
        obtain ⟨A4, d4, rfl⟩ := Kd.R_slice r4
        have P4 := Lib.hid (P3.out.below b4)
        have R4 := Lib.hid (Kd.R_reads' r4)
        have C3 := Lib.hid (Kd.C_below R3.out.2.2 b4)
        clear b4 r4
        go_wp2_with fail
        refine (ref_same (L := srt L) rfl rfl rfl (by have := HSL.out; have := Hl.out; omega) C3.out R3.out.2.1 R4.out.2.2 R4.out.2.1).mono ?_
        rintro e w5 ⟨rfl, b5⟩
        have P9 := Lib.hid (P4.out.below b5)
        clear b5
        go_wp2_with fail
        refine (qinv_len2 P9.out).mono ?_
        rintro e w8 ⟨rfl, rfl⟩
        go_wp2
        go_roundg (gk - 1)
        case measure => have := hk.out; have := Hi.out; omega
        case rel => exact ⟨i + 1, L, by first | rfl | simp [hwr], ⟨by have := hk.out; have := Hi.out; omega⟩, ⟨by have := Hl.out; omega⟩, ⟨P9.out⟩⟩
      · have n1 : (kd == 1) = false := by simpa using k1
        have n2 : (kd == 2) = false := by simpa using k2
        have n3 : (kd == 3) = false := by simpa using k3
        have n4 : (kd == 4) = false := by simpa using k4
        have n5 : (kd == 5) = false := by simpa using k5
        go_wp2_with fail
        refine (qinv_len2 hI.out).mono ?_
        rintro e w8 ⟨rfl, rfl⟩
        go_wp2
        go_roundg (gk - 1)
        case measure => have := hk.out; have := Hi.out; omega
        case rel => exact ⟨i + 1, L, by first | rfl | simp [hwr], ⟨by have := hk.out; have := Hi.out; omega⟩, ⟨by have := Hl.out; omega⟩, ⟨hI.out⟩⟩
    · have P0 := hI.out
      have NP := Lib.hid P0
      have HSL := Lib.hid (srt_len L)
      have Hl := Lib.hid hx.out
      have hend : decide (i < len) = false ∨ (decide (i < len) = true ∧ decide (L.length < 300) = false ∧ decide ((L.length : Int) < 300) = false) := by
        by_cases h1 : i < len
        · exact .inr ⟨decide_eq_true h1, decide_eq_false (fun h => hgo ⟨h1, h⟩), decide_eq_false (fun h => hgo ⟨h1, by omega⟩)⟩
        · exact .inl (decide_eq_false h1)
      clear hgo P0
      rcases hend with c0 | ⟨c0, c1, c2⟩
      all_goals
        go_wp2_with fail
        refine (qinv_list NP.out).mono ?_
        rintro e w3 ⟨v3, rfl, r3, b3⟩
        obtain ⟨A3, d3, rfl⟩ := Kd.R_slice r3
        have P3 := Lib.hid (NP.out.below b3)
        have hq := qinv_read P3.out
        have NQ := Lib.hid hq
        have R3 := Lib.hid (Kd.R_reads' r3)
        clear hq b3 r3
        go_wp2_with fail
        refine (ref_list rfl (by have := Hl.out; omega) NQ.out.2 NQ.out.1).mono ?_
        rintro e w4 ⟨v4, rfl, r4, b4⟩
        obtain ⟨A4, d4, rfl⟩ := Kd.R_slice r4
        have P4 := Lib.hid (P3.out.below b4)
        have R4 := Lib.hid (Kd.R_reads' r4)
        have C3 := Lib.hid (Kd.C_below R3.out.2.2 b4)
        clear b4 r4
        go_wp2_with fail
        refine (ref_same (L := srt L) rfl rfl rfl (by have := HSL.out; have := Hl.out; omega) C3.out R3.out.2.1 R4.out.2.2 R4.out.2.1).mono ?_
        rintro e w5 ⟨rfl, b5⟩
        have P9 := Lib.hid (P4.out.below b5)
        clear b5
        go_wp2
        go_ret
        exact ⟨by simp, P9.out.bel⟩
theorem RankPlays_row {H : Type} {enc : TypeId × Value → H} {base : Nat} {d : DataW H} {p : List MemPlace} (v : Value) (W : World) (hval : Value.okWide Try.prog W .any base 30 v)
    (h : DataW.Trod enc Try.prog W 0 (fun _ => true) true 30 v d p) (y : ∀ n ∈ DataW.weights Try.prog 30 d, n ≤ reachBytes) :
    Calls Try.prog 4 #[v] W fun e w' => e = .returned (.bool true) ∧ Below W.heap.size W w' := by
  obtain ⟨a, len, cap, rfl⟩ := WideShapes.okWide_slice Try.underlying30 hval
  obtain ⟨fuel, hf⟩ := h
  obtain ⟨s, hs, hok⟩ := ops_opn hf y
  simp [Value.cells] at hs
  obtain ⟨rfl, rfl, rfl⟩ := hs
  exact RankPlays_sl s W hok
end Go.Proofs.Ytfojfgnhblgckaa
