/-
  RingPlays: the law's call answers true, for every script; nothing that was there is changed.
-/
import Derived.Test.YtmlnbmbobkoipaaRingStep
import Derived.Test.YtmlnbmbobkoipaaRingAwake
import Derived.Test.YtmlnbmbobkoipaaOpens
namespace Go.Proofs.Ytmlnbmbobkoipaa
open Go.RowKit Go.Proofs.Ytmlnbmbobkoipaa.XMono Go.Proofs.YtmlnbmbobkoipaaW.PrintWords Go.Proofs.YtmlnbmbobkoipaaW.PrintLast Go.Proofs.YtmlnbmbobkoipaaW.PrintMore

theorem ops5_opn : Opn Try.prog 56 (fun s : Sl (Int × Int) => [.slice s.at_ s.len s.cap]) (Sl.ok Try.prog 64 opCells opOk) :=
  opn_slice Try.underlying56 (opn_struct Try.underlying64 (by kernel_rfl) (opnF_cons rfl (sz := 1) (by kernel_rfl) (opn_int Try.underlying3) (opnF_last rfl (opn_int Try.underlying2))))
theorem op5_at {s : Sl (Int × Int)} {W : World} (hs : Sl.ok Try.prog 64 opCells opOk W s) {i : Nat} (hi : i < s.len) :
    ∃ a kd v, s.at_ = some a ∧ a.block < W.heap.size ∧ W.cell? (a.add (i * 2)) = some (.int .i64 kd) ∧ W.cell? (a.add (i * 2 + 1)) = some (.int .i64 v) := by
  obtain ⟨h1, h2, h3, h4, h5, h6⟩ := hs
  rcases h6 with ⟨_, h6⟩ | ⟨a, ha, hc⟩
  · omega
  have hl : i < s.all.length := by omega
  have hz := hc i _ (List.getElem?_eq_getElem hl)
  have e : Try.prog.cellsOf 64 = 2 := by kernel_rfl
  rw [e] at hz
  have hb := World.cells?_block hz (by decide)
  refine ⟨a, s.all[i].1, s.all[i].2, ha, ?_, ?_, ?_⟩
  · rw [add_block] at hb; exact hb
  · have := cells_get hz 0 _ rfl
    rw [Addr.add_add] at this
    exact this
  · have := cells_get hz 1 _ rfl
    rw [Addr.add_add] at this
    exact this
theorem ops5_few {s : Sl (Int × Int)} {W : World} (hs : Sl.ok Try.prog 64 opCells opOk W s) : s.len ≤ 8796093022207 := by
  obtain ⟨h1, h2, h3, h4, h5, h6⟩ := hs
  have e : Try.prog.bytesOf 64 = 16 := by kernel_rfl
  have e2 : reachBytes = 140737488351232 := rfl
  rw [e, e2] at h4
  omega
set_option maxHeartbeats 8000000 in
set_option maxRecDepth 100000 in
theorem RingPlays_sl (room : Int) (s : Sl (Int × Int)) (W : World) (hs : Sl.ok Try.prog 64 opCells opOk W s) :
    Calls Try.prog 8 #[.int .i64 room, .slice s.at_ s.len s.cap] W fun e w' => e = .returned (.bool true) ∧ Below W.heap.size W w' := by
  have HP := Lib.hid fun i (hi : i < s.len) => op5_at hs hi
  have HF := Lib.hid (ops5_few hs)
  clear hs
  obtain ⟨at_, len, cap, all⟩ := s
  simp only at HP HF ⊢
  by_cases hr : room < 1 ∨ 4096 < room
  · have HR := Lib.hid hr
    clear hr
    go_enter Try.func8, Try.ntmps8
    go_wp2_with fail
    refine (awake05 _).mono ?_
    rintro e w1 ⟨rfl, b1⟩
    go_wp2_with fail
    refine (ring_new_no room _ HR.out).mono ?_
    rintro e w2 ⟨rfl, b2⟩
    go_wp2_with fail
    refine (ref05_new_no room _ HR.out).mono ?_
    rintro e w3 ⟨rfl, b3⟩
    have hb := (b1.trans (b2.mono b1.size))
    have hb3 := hb.trans (b3.mono hb.size)
    clear b1 b2 b3 hb
    go_wp2
    go_ret
    exact ⟨by simp, hb3⟩
  have HR := Lib.hid (show 1 ≤ room ∧ room ≤ 4096 by omega)
  clear hr
  go_enter Try.func8, Try.ntmps8
  go_wp2_with fail
  refine (awake05 _).mono ?_
  rintro e w1 ⟨rfl, b1⟩
  go_wp2_with fail
  refine (ring_new room _ HR.out.1 HR.out.2).mono ?_
  rintro e w2 ⟨g, rfl, hg, h2, b2⟩
  go_wp2_with fail
  refine (ref05_new room _ HR.out.1 HR.out.2).mono ?_
  rintro e w3 ⟨h, rfl, hh, h3, b3⟩
  have HI := Lib.hid (show RInv W none g h room [] [] w3 from by
    have hb := (b1.trans (b2.mono b1.size))
    have z1 := b1.size
    have z2 := hb.size
    have z3 := h2.lt
    exact ⟨by omega, by omega, by omega, hb.trans (b3.mono hb.size), by have := HR.out.1; omega, fun b o e => (by cases e), fun _ => False, fun _ => False, h2.below b3, h3, fun _ hk => hk.elim, fun _ hk => hk.elim⟩)
  clear hg hh h2 h3 b1 b2 b3
  go_wp2
  go_loopg [9] len (fun kq v9 w' => ∃ (i : Nat) (L : List Int), v9 = .int .i64 i ∧ Aside0 (i + kq = len) ∧ Aside0 (RInv W none g h room L L w'))
  case atStart => exact ⟨0, [], rfl, ⟨by omega⟩, ⟨HI.out⟩⟩
  case round =>
    clear HI
    obtain ⟨i, L, rfl, hk, hI⟩ := hrel
    by_cases hi : i < len
    · have c0 : decide (i < len) = true := decide_eq_true hi
      have Hi := Lib.hid hi
      obtain ⟨a, kd, v, rfl, hab, q0, q1⟩ := HP.out i hi
      clear hi
      have e1 := eq_true (show (0 : Int) ≤ (i : Int) by omega)
      have e2 : ((i : Int) < (len : Int)) = True := eq_true (by have := Hi.out; omega)
      have s0 : wr.cell? (a.add (i * 2)) = some (.int .i64 kd) := (hI.out.bel.cell (by rw [add_block]; exact hab)).trans q0
      have s1 : wr.cell? ⟨(a.add (i * 2)).block, (a.add (i * 2)).off + 1, none⟩ = some (.int .i64 v) := by rw [← add_field a (i * 2) 1 (by decide)]; exact (hI.out.bel.cell (by rw [add_block]; exact hab)).trans q1
      have hwr : wrap64 ((i : Int) + 1) = ((i + 1 : Nat) : Int) := by have := Hi.out; have := HF.out; unfold wrap64; omega
      clear q0 q1
      go_wp2_with fail
      refine (step05 kd v hI.out).mono ?_
      rintro e w4 ⟨rfl, i4⟩
      have I4 := Lib.hid i4
      clear i4 s0 s1
      go_wp2
      go_roundg (gk - 1)
      case measure => have := hk.out; have := Hi.out; omega
      case rel => exact ⟨i + 1, nextL room kd v L, by first | rfl | simp [hwr], ⟨by have := hk.out; have := Hi.out; omega⟩, ⟨I4.out⟩⟩
    · have c0 : decide (i < len) = false := decide_eq_false hi
      clear hi
      obtain ⟨A, c, c20, c21, hc, hC⟩ := rinv_ref hI.out
      have HC := Lib.hid hC
      have Hc := Lib.hid hc
      have HLT := Lib.hid (show h < wr.heap.size from (hI.out.ex).choose_spec.choose_spec.2.1.lt)
      have HFW := Lib.hid (show L.length ≤ 4096 by have := rinv_few hI.out; omega)
      have HLs := Lib.hid fun (w' : World) (hb : Below wr.heap.size wr w') => rinv_list (hI.out.below hb)
      have HII := Lib.hid hI.out
      clear hC hc hI c20
      go_wp2_with fail
      go_region_held3 (fun w' => w'.cell? ⟨h, 1, none⟩ = some (.slice A L.length c)) (first | exact k22 | exact k21 | (simp [go_sem, c21]; done))
        (first
          | (go_at_call 30; refine (HLs.out _ (by first | exact Below.refl _ _ | exact below_drew (Below.refl _ _) | exact pw_below_drewN (Below.refl _ _) _)).mono ?_; rintro e w1 ⟨v1, rfl, r1, b1⟩; obtain ⟨A1, d1, rfl⟩ := Kd.R_slice r1; have k21 := (b1.cell (p := ⟨h, 1, none⟩) HLT.out).trans c21; have r2 := Kd.R_reads' r1; have r3 := Kd.C_below HC.out ((below_drew (Below.refl _ _)).trans b1))
          | (go_at_call 15; refine (same05 rfl rfl rfl (by have := HFW.out; omega) r2.2.2 r2.2.1 r3 Hc.out).mono ?_; rintro e w2 ⟨rfl, b2⟩; have k22 := (b2.cell (p := ⟨h, 1, none⟩) (Nat.lt_of_lt_of_le HLT.out b1.size)).trans k21))
      go_wp2
      go_ret
      have hb := ((below_drew (Below.refl _ wr)).trans b1)
      exact ⟨by simp, ((HII.out.below hb).below b2).bel⟩
theorem RingPlays_row {H : Type} {enc : TypeId × Value → H} {base : Nat} {d : DataW H} {p : List MemPlace} (room : Int) (v : Value) (W : World) (_ : (Lit.int .i64 room).wf = true) (hval : Value.okWide Try.prog W .any base 56 v)
    (h : DataW.Trod enc Try.prog W 0 (fun _ => true) true 56 v d p) (y : ∀ n ∈ DataW.weights Try.prog 56 d, n ≤ reachBytes) :
    Calls Try.prog 8 #[.int .i64 room, v] W fun e w' => e = .returned (.bool true) ∧ Below W.heap.size W w' := by
  obtain ⟨a, len, cap, rfl⟩ := WideShapes.okWide_slice Try.underlying56 hval
  obtain ⟨fuel, hf⟩ := h
  obtain ⟨s, hs, hok⟩ := ops5_opn hf y
  simp [Value.cells] at hs
  obtain ⟨rfl, rfl, rfl⟩ := hs
  exact RingPlays_sl room s W hok
end Go.Proofs.Ytmlnbmbobkoipaa
