/-
  Texts of this seat, joined: WinNilLaw, WinArgs.
-/
import Derived.Test.YtgfnlhigmncdmaaPk19
import Derived.Test.YtgfnlhigmncdmaaPk9
section
/-
  WindowNil: a nil window and the zero window answer that there is none: the law's call.
-/
namespace Go.Proofs.Ytgfnlhigmncdmaa
set_option linter.unusedVariables false
set_option linter.unusedSimpArgs false
open Go.RowKit Go.Proofs.Ytgfnlhigmncdmaa.XMono Go.Proofs.YtgfnlhigmncdmaaW.PrintWords Go.Proofs.YtgfnlhigmncdmaaW.PrintLast Go.Proofs.YtgfnlhigmncdmaaW.PrintMore

set_option maxHeartbeats 16000000 in
set_option maxRecDepth 100000 in
theorem WindowNil_walk (t x : Int) (w : World) : Calls Try.prog 7 #[.agg #[.int .i64 t, .int .i64 x]] w fun e w' => e = .returned (.bool true) ∧ Below w.heap.size w w' := by
  obtain ⟨w1, hw1⟩ : ∃ w1, w.alloc (.cells #[.int .i64 t, .int .i64 x] 38) = w1 := ⟨_, rfl⟩
  obtain ⟨b, hbdef⟩ : ∃ b, w.heap.size = b := ⟨_, rfl⟩
  have hbel : Below w.heap.size w w1 := by subst hw1; exact below_alloc (Below.refl _ _) _
  have hblk : w1.heap[b]? = some (.cells #[.int .i64 t, .int .i64 x] 38 (0, 0)) := by subst hw1 hbdef; exact blk_new _ _
  have HB := Lib.hid hbel
  have HK := Lib.hid hblk
  clear hbel hblk
  go_enter Try.func7, Try.ntmps7
  go_wp2_with fail
  refine (awake08 _).mono ?_
  rintro e w2 ⟨rfl, b2⟩
  have K2 := Lib.hid (blk_below HK.out b2)
  have B2 := Lib.hid (HB.out.trans (b2.mono HB.out.size))
  clear b2
  obtain ⟨w3, hw3⟩ : ∃ w3, w2.alloc (.cells #[.pointer none, .int .i64 0, .int .i64 0, .int .i64 0, .int .i64 0, .int .i64 0, .bool false, .int .u64 0, .int .u64 0, .pointer none, .pointer none] 69) = w3 := ⟨_, rfl⟩
  obtain ⟨g, hg⟩ : ∃ g, w2.heap.size = g := ⟨_, rfl⟩
  have b3 : Below w2.heap.size w2 w3 := by subst hw3; exact below_alloc (Below.refl _ _) _
  have k3 : w3.heap[g]? = some (.cells #[.pointer none, .int .i64 0, .int .i64 0, .int .i64 0, .int .i64 0, .int .i64 0, .bool false, .int .u64 0, .int .u64 0, .pointer none, .pointer none] 69 (0, 0)) := by subst hw3 hg; exact blk_new _ _
  obtain ⟨w4, hw4⟩ : ∃ w4, w3.alloc (.cells #[.pointer none, .pointer (some ⟨g, 0, none⟩)] 28) = w4 := ⟨_, rfl⟩
  obtain ⟨h, hh⟩ : ∃ h, w3.heap.size = h := ⟨_, rfl⟩
  have b4 : Below w3.heap.size w3 w4 := by subst hw4; exact below_alloc (Below.refl _ _) _
  have k4 : w4.heap[h]? = some (.cells #[.pointer none, .pointer (some ⟨g, 0, none⟩)] 28 (0, 0)) := by subst hw4 hh; exact blk_new _ _
  have K3 := Lib.hid (blk_below k3 b4)
  have K4 := Lib.hid k4
  have KB := Lib.hid (blk_below (blk_below K2.out b3) b4)
  have B4 := Lib.hid (show Below w.heap.size w w4 from (B2.out.trans (b3.mono B2.out.size)).trans (b4.mono (Nat.le_trans B2.out.size b3.size)))
  clear b3 k3 b4 k4
  go_wp2
  go_loopg [5] 2 (fun kq v5 w' => ∃ i : Nat, v5 = .int .i64 i ∧ Aside0 (i + kq = 2) ∧ Aside0 (Below w4.heap.size w4 w'))
  case atStart => exact ⟨0, rfl, ⟨by omega⟩, ⟨Below.refl _ _⟩⟩
  case round =>
    obtain ⟨i, rfl, hk, hb⟩ := hrel
    have HKQ := Lib.hid hk.out
    have HBR := Lib.hid hb.out
    clear hk hb
    by_cases hi : i < 2
    · obtain ⟨v, hv⟩ : ∃ v : Value, (if i = 0 then Value.pointer none else .pointer (some ⟨g, 0, none⟩)) = v := ⟨_, rfl⟩
      have hH : Hollow wr v := by
        rw [← hv]
        split
        · exact .inl rfl
        · exact .inr ⟨g, rfl, (blk_cell (blk_below K3.out HBR.out) 0).trans rfl⟩
      have hc : wr.cell? ⟨h, i, none⟩ = some v := by
        rw [← hv]
        rw [(HBR.out.cell (p := ⟨h, i, none⟩) (blk_lt K4.out)), blk_cell K4.out i]
        have : i = 0 ∨ i = 1 := by omega
        rcases this with rfl | rfl <;> rfl
      have kb := blk_below KB.out HBR.out
      have x0 := (blk_cell kb 0).trans rfl
      have x1 := (blk_cell kb 1).trans rfl
      have HH := Lib.hid hH
      have HKB := Lib.hid kb
      have e1 := eq_true (show (0 : Int) ≤ (i : Int) by omega)
      have e2 : ((i : Int) < 2) = True := eq_true (by omega)
      have e3 := eq_true hi
      have z0 := World.new_ne wr _ hc
      have z1 := World.new_ne wr _ x0
      have z2 := World.new_ne wr _ x1
      clear hv hH kb
      go_upto_region 8 with fail
      go_cut [6, 7] (fun v6 v7 wx => ∃ b6 : Nat, v6 = .pointer (some ⟨b6, 0, none⟩) ∧ v7 = .int .i64 4 ∧ Aside0 (wx.heap[b6]? = some (.cells #[.int .i64 0, .int .i64 0] 42 (0, 0))) ∧ Aside0 (Below wr.heap.size wr wx))
      case first =>
        go_region_held3 (fun w' => w'.cell? ⟨h, i, none⟩ = some v ∧ w'.cell? ⟨b, 0, none⟩ = some (.int .i64 t)) (first | exact ⟨hc, x0⟩ | exact ⟨y0, y1⟩ | (simp [go_sem, hc, x0]; done) | go_keep) (first
          | (go_at_call 13; refine (hollow_read (HH.out.below (by first | exact (Below.refl _ _).drew | exact (below_alloc (Below.refl _ _) _).drew)) t).mono ?_; rintro e w5 ⟨rfl, b5⟩; have b5' := Below.trans (by first | exact (Below.refl wr.heap.size wr).drew | exact (below_alloc (Below.refl wr.heap.size wr) _).drew) (b5.mono (by first | exact Nat.le_refl _ | (show wr.heap.size ≤ (wr.alloc _).heap.size; simp only [World.size_alloc]; omega))); have B5 := Lib.hid b5'; have C5 := Lib.hid b5; have y0 := (b5'.cell (p := ⟨h, i, none⟩) (World.block_lt_of_cell? wr _ hc)).trans hc; have y1 := (b5'.cell (p := ⟨b, 0, none⟩) (World.block_lt_of_cell? wr _ x0)).trans x0; have z0 := World.new_ne w5 _ y0; have z1 := World.new_ne w5 _ y1; (first | (have n6 := blk_below (blk_drew (blk_new wr (.cells #[.int .i64 0, .int .i64 0] 42))) C5.out; have n60 := (blk_cell n6 0).trans rfl; have n61 := (blk_cell n6 1).trans rfl; have n62 := blk_frozen n6 0; have n63 := blk_frozen n6 1; have N6 := Lib.hid n6; clear n6) | skip); clear b5 b5'))
        all_goals
          go_wp2_with fail
          go_meet
          first
            | exact ⟨w5.heap.size, rfl, rfl, ⟨blk_new _ _⟩, ⟨below_alloc B5.out _⟩⟩
            | exact ⟨wr.heap.size, rfl, rfl, ⟨blk_set (blk_set N6.out 0 (.int .i64 0)) 1 (.int .i64 0)⟩, ⟨(B5.out.setCell (p := ⟨wr.heap.size, 0, none⟩) (Nat.le_refl _) _).setCell (p := ⟨wr.heap.size, 1, none⟩) (Nat.le_refl _) _⟩⟩
      case rest =>
        obtain ⟨b6, rfl, rfl, h6, hbel⟩ := hcut
        have H6 := Lib.hid h6.out
        have BC := Lib.hid hbel.out
        have p0 := (BC.out.cell (p := ⟨h, i, none⟩) (World.block_lt_of_cell? wr _ hc)).trans hc
        have p1 := (BC.out.cell (p := ⟨b, 0, none⟩) (World.block_lt_of_cell? wr _ x0)).trans x0
        have HC := Lib.hid (HH.out.below BC.out)
        clear hc x0 x1 z0 z1 z2 h6 hbel
        go_wp2
        go_region_held3 (fun w' => w'.cell? ⟨h, i, none⟩ = some v ∧ w'.cell? ⟨b, 0, none⟩ = some (.int .i64 t)) (first | exact ⟨p0, p1⟩ | exact ⟨q0, q1⟩ | (simp [go_sem, p0, p1]; done)) (first
          | (go_at_call 19; refine (hollow_held (HC.out.below (Below.refl _ _).drew) t).mono ?_; rintro e w6 ⟨rfl, b6b⟩; have q0 := (b6b.cell (p := ⟨h, i, none⟩) (World.block_lt_of_cell? wc _ p0)).trans p0; have q1 := (b6b.cell (p := ⟨b, 0, none⟩) (World.block_lt_of_cell? wc _ p1)).trans p1; have B6 := Lib.hid ((Below.refl wc.heap.size wc).drew.trans b6b); clear b6b))
        clear p0 p1
        go_wp2_with fail
        refine (hollow_clock (HC.out.below B6.out)).mono ?_
        rintro e w7 ⟨rfl, b7⟩
        have B7 := Lib.hid (B6.out.trans (b7.mono B6.out.size))
        have r0 := (b7.cell (p := ⟨h, i, none⟩) (World.block_lt_of_cell? w6 _ q0)).trans q0
        have k7 := blk_below (blk_below HKB.out BC.out) B7.out
        have r1 := (blk_cell k7 0).trans rfl
        have r2 := (blk_cell k7 1).trans rfl
        have m7 := blk_below H6.out B7.out
        have r3 := (blk_cell m7 0).trans rfl
        have r4 := (blk_cell m7 1).trans rfl
        have HV7 := Lib.hid (HC.out.below B7.out)
        clear b7 q0 q1 k7 m7
        go_wp2
        go_region_held3 (fun w' => w'.cell? ⟨h, i, none⟩ = some v ∧ w'.cell? ⟨b, 0, none⟩ = some (.int .i64 t) ∧ w'.cell? ⟨b, 1, none⟩ = some (.int .i64 x) ∧ w'.cell? ⟨b6, 0, none⟩ = some (.int .i64 0) ∧ w'.cell? ⟨b6, 1, none⟩ = some (.int .i64 0)) (first | exact ⟨r0, r1, r2, r3, r4⟩ | exact ⟨s0, s1, s2, s3, s4⟩ | (simp [go_sem, r0, r1, r2, r3, r4]; done)) (first
          | (go_at_call 11; refine (hollow_put (HV7.out.below (Below.refl _ _).drew) t x).mono ?_; rintro e w8 ⟨rfl, b8⟩; have s0 := (b8.cell (p := ⟨h, i, none⟩) (World.block_lt_of_cell? w7 _ r0)).trans r0; have s1 := (b8.cell (p := ⟨b, 0, none⟩) (World.block_lt_of_cell? w7 _ r1)).trans r1; have s2 := (b8.cell (p := ⟨b, 1, none⟩) (World.block_lt_of_cell? w7 _ r2)).trans r2; have s3 := (b8.cell (p := ⟨b6, 0, none⟩) (World.block_lt_of_cell? w7 _ r3)).trans r3; have s4 := (b8.cell (p := ⟨b6, 1, none⟩) (World.block_lt_of_cell? w7 _ r4)).trans r4; have B8 := Lib.hid ((Below.refl w7.heap.size w7).drew.trans b8); clear b8))
        have hwi : wrap64 ((i : Int) + 1) = ((i + 1 : Nat) : Int) := by unfold wrap64; omega
        go_wp2
        go_roundg (gk - 1)
        case measure => have := HKQ.out; omega
        case rel =>
          refine ⟨i + 1, by first | rfl | simp [hwi], ⟨by have := HKQ.out; omega⟩, ⟨?_⟩⟩
          have c1 := HBR.out.trans (BC.out.mono HBR.out.size)
          have c2 := c1.trans (B7.out.mono c1.size)
          exact c2.trans (B8.out.mono c2.size)
    · have e1 : ((i : Int) < 2) = False := eq_false (by omega)
      have e2 := eq_false hi
      go_wp2
      go_ret
      exact ⟨by simp, B4.out.trans (HBR.out.mono B4.out.size)⟩
end Go.Proofs.Ytgfnlhigmncdmaa
end
section
/-
  The laws' arguments, as they can be read.
-/
namespace Go.Proofs.Ytgfnlhigmncdmaa
set_option linter.unusedVariables false
set_option linter.unusedSimpArgs false
open Go.RowKit Go.Proofs.YtgfnlhigmncdmaaW.PrintWords
set_option maxRecDepth 100000
theorem wf_r64 {n : Int} (h : (Lit.int .i64 n).wf = true) : R64 n := by
  have h2 : IntKind.i64.min ≤ n ∧ n ≤ 9223372036854775807 := by simpa [Lit.wf] using h
  have e : IntKind.i64.min = -9223372036854775808 := by decide
  unfold R64
  omega
/-- A struct's value is the cells that are read. -/
theorem struct_arg {P : Program} {H : Type} {enc : TypeId × Value → H} {base : Nat} {d : DataW H} {p : List MemPlace} {v : Value} {W : World} {t : TypeId} {fs : Array Field} {α : Type} {c : α → List Value} {ok : World → α → Prop} (hu : P.underlying t = some (.struct fs)) (ho : Opn P t c ok) (hval : Value.okWide P W .any base t v)
    (h : DataW.Trod enc P W 0 (fun _ => true) true t v d p) (y : ∀ n ∈ DataW.weights P t d, n ≤ reachBytes) : ∃ a : α, v = .agg (c a).toArray ∧ ok W a := by
  obtain ⟨cs, rfl, hsz⟩ := WideShapes.okWide_struct hu hval
  obtain ⟨fuel, hf⟩ := h
  obtain ⟨a, ha, hok⟩ := ho hf y
  have hs' : cs.toList = c a := by simpa [Value.cells] using ha
  refine ⟨a, ?_, hok⟩
  have : cs = (c a).toArray := by rw [← hs']
  rw [this]
theorem sample_opn : Opn Try.prog 38 (fun x : Int × Int => [.int .i64 x.1, .int .i64 x.2]) (fun _ x => R64 x.1 ∧ R64 x.2) := by
  intro H enc w fuel cs x hx hw
  obtain ⟨a, ha, hk⟩ := opn_struct Try.underlying38 (by kernel_rfl) (opnF_cons rfl (sz := 1) (by kernel_rfl) (opn_int Try.underlying2) (opnF_last rfl (opn_int Try.underlying2))) hx hw
  exact ⟨a, ha, wf_r64 hk.1, wf_r64 hk.2⟩
theorem WindowNil_row {H : Type} {enc : TypeId × Value → H} {base : Nat} {d : DataW H} {p : List MemPlace} (v : Value) (W : World) (hval : Value.okWide Try.prog W .any base 38 v)
    (h : DataW.Trod enc Try.prog W 0 (fun _ => true) true 38 v d p) (y : ∀ n ∈ DataW.weights Try.prog 38 d, n ≤ reachBytes) :
    Calls Try.prog 7 #[v] W fun e w' => e = .returned (.bool true) ∧ Below W.heap.size W w' := by
  obtain ⟨a, rfl, -⟩ := struct_arg Try.underlying38 sample_opn hval h y
  exact WindowNil_walk a.1 a.2 W
end Go.Proofs.Ytgfnlhigmncdmaa
end
