/-
  The law's program of given code; awake answers true.
-/
import Derived.Test.YtdgljnidkhfgpaaDoorVerHeights
namespace Go.Proofs.YtdgljnidkhfgpaaDoor
set_option linter.unusedVariables false
set_option linter.unusedSimpArgs false
open Go.RowKit Go.Proofs.YtdgljnidkhfgpaaDoor.XVer Go.Proofs.YtdgljnidkhfgpaaDoorW.PrintWords Go.Proofs.YtdgljnidkhfgpaaDoorW.PrintLast Go.Proofs.YtdgljnidkhfgpaaDoorW.PrintMore

def encI (x : InstrS) : List Value := [.int .i64 x.f0, .int .i64 x.f1]
theorem encI_len : ∀ x, (encI x).length = 2 := fun _ => rfl
theorem c_code {w : World} {b : Nat} {t : TypeId} {xs : List InstrS} (hb : w.heap[b]? = some (.cells (cellsOf encI xs) t (0, 0))) (hl : xs.length ≤ 9223372036854775807) : Kd.C kInstrS w (some ⟨b, 0, none⟩) xs.length xs := by
  refine ⟨rfl, hl, fun _ => ⟨⟨b, 0, none⟩, rfl, fun j p hp => ⟨encI p, rfl, kInstrS_mk w p, fun i u hu => ?_⟩⟩⟩
  have hi : i < 2 := by
    have := List.getElem?_eq_some_iff.1 hu
    exact this.1
  have e : (Addr.add ⟨b, 0, none⟩ (j * kInstrS.sz + i)) = ⟨b, j * 2 + i, none⟩ := by
    show Addr.add ⟨b, 0, none⟩ (j * 2 + i) = _
    unfold Addr.add
    split
    · rename_i h; rw [h]
    · simp
  rw [e, blk_cell hb, cells_get_of encI_len hp hi]
  exact hu
/-- The program of given code. -/
def codedP (h : Int) (code : List InstrS) : Pg := ⟨0, 0, 1, 1, 0, 0, [], [], [], 0, h, code⟩
def codedH (A : Option Addr) (c : Nat) : Hd := ⟨none, 0, none, 0, none, 0, A, c⟩
theorem coded_in {w : World} {h : Int} {code : List InstrS} {A : Option Addr} {c : Nat} (hC : Kd.C kInstrS w A code.length code) (hc : code.length ≤ c) : PgIn w (codedP h code) (codedH A c) :=
  ⟨Kd.C_nil _ _, Nat.le_refl _, Kd.C_nil _ _, Nat.le_refl _, Kd.C_nil _ _, Nat.le_refl _, hC, hc⟩
set_option maxRecDepth 100000 in
theorem coded_calls (h : Int) (A : Option Addr) (n c : Nat) (w : World) : Calls Tryd.prog 12 #[.int .i64 h, .slice A n c] w fun e w' => e = .returned (.agg #[.int .i64 0, .int .i64 0, .int .i64 1, .int .i64 1, .int .i64 0, .int .i64 0, .slice none 0 0, .slice none 0 0, .slice none 0 0, .int .i64 0, .int .i64 h, .slice A n c]) ∧ Below w.heap.size w w' := by
  go_enter Tryd.func12, Tryd.ntmps12
  go_wp2_with (first | ((with_reducible refine gate_dst (N := 4) rfl ?_); refine box_event ?hg (N := 4) ?hd (cs := #[.int .i64 0, .int .i64 0, .int .i64 0, .int .i64 0, .int .i64 0, .int .i64 0, .slice none 0 0, .slice none 0 0, .slice none 0 0, .int .i64 0, .int .i64 0, .slice none 0 0]) (t := 38) ?hr ?_; (case hd => rfl); (case hg => rfl); (case hr => first | (go_simp; done) | (go_simp; rfl)); intro gb hg w2 hbox hb;  have k0 := (blk_cell hbox 0).trans rfl; have f0 := blk_frozen hbox 0; have k1 := (blk_cell hbox 1).trans rfl; have f1 := blk_frozen hbox 1; have k2 := (blk_cell hbox 2).trans rfl; have f2 := blk_frozen hbox 2; have k3 := (blk_cell hbox 3).trans rfl; have f3 := blk_frozen hbox 3; have k4 := (blk_cell hbox 4).trans rfl; have f4 := blk_frozen hbox 4; have k5 := (blk_cell hbox 5).trans rfl; have f5 := blk_frozen hbox 5; have k6 := (blk_cell hbox 6).trans rfl; have f6 := blk_frozen hbox 6; have k7 := (blk_cell hbox 7).trans rfl; have f7 := blk_frozen hbox 7; have k8 := (blk_cell hbox 8).trans rfl; have f8 := blk_frozen hbox 8; have k9 := (blk_cell hbox 9).trans rfl; have f9 := blk_frozen hbox 9; have k10 := (blk_cell hbox 10).trans rfl; have f10 := blk_frozen hbox 10; have k11 := (blk_cell hbox 11).trans rfl; have f11 := blk_frozen hbox 11; have HBOX := Lib.hid hbox; have HG := Lib.hid hg; have HB2 := Lib.hid hb; clear hbox hg hb))
  refine bodyPost_ret (results_cell_row (fn := Tryd.f12) (p := 4) rfl _ _ gb 38 #[.int .i64 0, .int .i64 0, .int .i64 1, .int .i64 1, .int .i64 0, .int .i64 0, .slice none 0 0, .slice none 0 0, .slice none 0 0, .int .i64 0, .int .i64 h, .slice A n c] (0, 0) _ rfl (by exact Eq.trans (blk_set (blk_set (blk_set (blk_set (blk_set (blk_set (blk_set (blk_set (blk_set (blk_set (blk_set (blk_set HBOX.out 0 (.int .i64 0)) 1 (.int .i64 0)) 2 (.int .i64 1)) 3 (.int .i64 1)) 4 (.int .i64 0)) 5 (.int .i64 0)) 6 (.slice none 0 0)) 7 (.slice none 0 0)) 8 (.slice none 0 0)) 9 (.int .i64 0)) 10 (.int .i64 h)) 11 (.slice A n c)) rfl) Tryd.underlying38 rfl (by kernel_rfl)) rfl ?_
  exact ⟨rfl, (Below.setCell (p := ⟨gb, 11, none⟩) (Below.setCell (p := ⟨gb, 10, none⟩) (Below.setCell (p := ⟨gb, 9, none⟩) (Below.setCell (p := ⟨gb, 8, none⟩) (Below.setCell (p := ⟨gb, 7, none⟩) (Below.setCell (p := ⟨gb, 6, none⟩) (Below.setCell (p := ⟨gb, 5, none⟩) (Below.setCell (p := ⟨gb, 4, none⟩) (Below.setCell (p := ⟨gb, 3, none⟩) (Below.setCell (p := ⟨gb, 2, none⟩) (Below.setCell (p := ⟨gb, 1, none⟩) (Below.setCell (p := ⟨gb, 0, none⟩) HB2.out (Nat.le_of_eq HG.out.symm) _) (Nat.le_of_eq HG.out.symm) _) (Nat.le_of_eq HG.out.symm) _) (Nat.le_of_eq HG.out.symm) _) (Nat.le_of_eq HG.out.symm) _) (Nat.le_of_eq HG.out.symm) _) (Nat.le_of_eq HG.out.symm) _) (Nat.le_of_eq HG.out.symm) _) (Nat.le_of_eq HG.out.symm) _) (Nat.le_of_eq HG.out.symm) _) (Nat.le_of_eq HG.out.symm) _) (Nat.le_of_eq HG.out.symm) _)⟩
theorem aw1 : checkP (codedP 1 [⟨2, 0⟩, ⟨30, 0⟩]) = .inr [⟨0, 0, true⟩, ⟨1, 0, true⟩] := by kernel_rfl
theorem aw2 : checkV (codedP 0 [⟨2, 0⟩, ⟨30, 0⟩]) = (0, 41) := by kernel_rfl
theorem aw3 : checkV (codedP 1 [⟨2, 0⟩, ⟨30, 0⟩, ⟨30, 0⟩]) = (2, 41) := by kernel_rfl
theorem aw_in2 {w : World} {b : Nat} {a a0 c c0 : Int} {t : TypeId} (hb : w.heap[b]? = some (.cells #[.int .i64 a, .int .i64 a0, .int .i64 c, .int .i64 c0] t (0, 0))) (h : Int) : PgIn w (codedP h [⟨a, a0⟩, ⟨c, c0⟩]) (codedH (some ⟨b, 0, none⟩) 2) :=
  coded_in (c_code (xs := [⟨a, a0⟩, ⟨c, c0⟩]) hb (by simp)) (by simp [codedP, codedH])
theorem aw_in3 {w : World} {b : Nat} {a a0 c c0 f f0 : Int} {t : TypeId} (hb : w.heap[b]? = some (.cells #[.int .i64 a, .int .i64 a0, .int .i64 c, .int .i64 c0, .int .i64 f, .int .i64 f0] t (0, 0))) (h : Int) : PgIn w (codedP h [⟨a, a0⟩, ⟨c, c0⟩, ⟨f, f0⟩]) (codedH (some ⟨b, 0, none⟩) 3) :=
  coded_in (c_code (xs := [⟨a, a0⟩, ⟨c, c0⟩, ⟨f, f0⟩]) hb (by simp)) (by simp [codedP, codedH])
/-- Heights of two instructions. -/
def H2Post (w : World) (e : Ending) (w' : World) : Prop := Below w.heap.size w w' ∧ ∃ (a : Addr) (c : Nat), e = .returned (.tuple #[.slice (some a) 2 c, .int .i64 0]) ∧ w'.cell? ⟨a.block, a.off + 1, none⟩ = some (.int .i64 1)
theorem aw_heights {w : World} {b : Nat} (hb : w.heap[b]? = some (.cells #[.int .i64 2, .int .i64 0, .int .i64 30, .int .i64 0] 52 (0, 0))) (hF : FieldsAt w) (hT : TabAt w) :
    Calls Tryd.prog 10 #[.agg #[.int .i64 0, .int .i64 0, .int .i64 1, .int .i64 1, .int .i64 0, .int .i64 0, .slice none 0 0, .slice none 0 0, .slice none 0 0, .int .i64 0, .int .i64 1, .slice (some ⟨b, 0, none⟩) 2 2]] w (H2Post w) := by
  refine (heights_calls (aw_in2 hb 1) hF hT ?_).mono ?_
  · intro x hx
    have : x = ⟨2, 0⟩ ∨ x = ⟨30, 0⟩ := by simpa [codedP] using hx
    rcases this with rfl | rfl <;> decide
  · rintro e w' ⟨h0, ⟨i, hi, _⟩ | ⟨P, A, c, h1, _, _, rfl, hC, hc⟩⟩
    · rw [aw1] at hi; cases hi
    · rw [aw1] at h1
      injection h1 with h1
      subst h1
      obtain ⟨ad, e, q⟩ := hC.2.2 (by decide)
      subst e
      obtain ⟨cs, hl, hk, hc1⟩ := q 1 1 rfl
      obtain rfl : cs = [.int .i64 1] := hk
      exact ⟨h0, ad, c, rfl, hc1 0 _ rfl⟩
theorem aw_check2 {w : World} {b : Nat} (hb : w.heap[b]? = some (.cells #[.int .i64 2, .int .i64 0, .int .i64 30, .int .i64 0] 52 (0, 0))) (hF : FieldsAt w) (hT : TabAt w) :
    Calls Tryd.prog 9 #[.agg #[.int .i64 0, .int .i64 0, .int .i64 1, .int .i64 1, .int .i64 0, .int .i64 0, .slice none 0 0, .slice none 0 0, .slice none 0 0, .int .i64 0, .int .i64 0, .slice (some ⟨b, 0, none⟩) 2 2]] w fun e w' => e = .returned (.tuple #[.int .i64 0, .int .i64 41]) ∧ Below w.heap.size w w' := by
  refine (verCheck_calls (aw_in2 hb 0) hF hT ?_).mono ?_
  · intro x hx
    have : x = ⟨2, 0⟩ ∨ x = ⟨30, 0⟩ := by simpa [codedP] using hx
    rcases this with rfl | rfl <;> decide
  · rintro e w' ⟨rfl, h⟩
    rw [aw2]
    exact ⟨rfl, h⟩
theorem aw_check3 {w : World} {b : Nat} (hb : w.heap[b]? = some (.cells #[.int .i64 2, .int .i64 0, .int .i64 30, .int .i64 0, .int .i64 30, .int .i64 0] 52 (0, 0))) (hF : FieldsAt w) (hT : TabAt w) :
    Calls Tryd.prog 9 #[.agg #[.int .i64 0, .int .i64 0, .int .i64 1, .int .i64 1, .int .i64 0, .int .i64 0, .slice none 0 0, .slice none 0 0, .slice none 0 0, .int .i64 0, .int .i64 1, .slice (some ⟨b, 0, none⟩) 3 3]] w fun e w' => e = .returned (.tuple #[.int .i64 2, .int .i64 41]) ∧ Below w.heap.size w w' := by
  refine (verCheck_calls (aw_in3 hb 1) hF hT ?_).mono ?_
  · intro x hx
    have : x = ⟨2, 0⟩ ∨ x = ⟨30, 0⟩ := by simpa [codedP] using hx
    rcases this with rfl | rfl <;> decide
  · rintro e w' ⟨rfl, h⟩
    rw [aw3]
    exact ⟨rfl, h⟩
set_option maxHeartbeats 4000000 in
set_option maxRecDepth 100000 in
theorem awake23 {w : World} (hF : FieldsAt w) (hT : TabAt w) : Calls Tryd.prog 6 #[] w fun e w' => e = .returned (.bool true) ∧ Below w.heap.size w w' := by
  have HF := Lib.hid hF
  have HT := Lib.hid hT
  have HLT := Lib.hid (show 1 < w.heap.size from World.block_lt_of_cell? w _ (hF 0 (by decide)).1)
  clear hF hT
  go_enter Tryd.func6, Tryd.ntmps6
  go_wp2_with fail
  obtain ⟨g, hg⟩ : ∃ g, w.heap.size = g := ⟨_, rfl⟩
  obtain ⟨w1, hw1⟩ : ∃ w1, w.alloc (.cells #[.int .i64 2, .int .i64 0, .int .i64 30, .int .i64 0] 52) = w1 := ⟨_, rfl⟩
  have KB := Lib.hid (show w1.heap[g]? = some (.cells #[.int .i64 2, .int .i64 0, .int .i64 30, .int .i64 0] 52 (0, 0)) by rw [← hw1, ← hg]; exact blk_new _ _)
  have B1 := Lib.hid (show Below w.heap.size w w1 by rw [← hw1]; exact below_alloc (Below.refl _ w) _)
  simp only [hw1, hg]
  clear hw1 hg
  refine (coded_calls _ _ _ _ _).mono ?_
  rintro e w2 ⟨rfl, b2⟩
  have B2 := Lib.hid (B1.out.trans (b2.mono B1.out.size))
  have KB2 := Lib.hid (blk_below KB.out b2)
  clear b2
  go_wp2_with fail
  refine (aw_heights KB2.out (HF.out.below B2.out HLT.out) (HT.out.below B2.out (by have := HLT.out; omega))).mono ?_
  rintro e w3 ⟨b3, a, c, rfl, h1⟩
  have B3 := Lib.hid (B2.out.trans (b3.mono B2.out.size))
  have KB3 := Lib.hid (blk_below KB2.out b3)
  clear b3
  go_wp2_with fail
  refine (coded_calls _ _ _ _ _).mono ?_
  rintro e w4 ⟨rfl, b4⟩
  have h4 := (b4.cell (p := ⟨a.block, a.off + 1, none⟩) (World.block_lt_of_cell? w3 _ h1)).trans h1
  have B4 := Lib.hid (B3.out.trans (b4.mono B3.out.size))
  have KB4 := Lib.hid (blk_below KB3.out b4)
  clear b4 h1
  go_wp2_with fail
  refine (aw_check2 KB4.out (HF.out.below B4.out HLT.out) (HT.out.below B4.out (by have := HLT.out; omega))).mono ?_
  rintro e w5 ⟨rfl, b5⟩
  have h5 := (b5.cell (p := ⟨a.block, a.off + 1, none⟩) (World.block_lt_of_cell? w4 _ h4)).trans h4
  have B5 := Lib.hid (B4.out.trans (b5.mono B4.out.size))
  clear b5 h4
  go_wp2_with fail
  obtain ⟨g2, hg2⟩ : ∃ g, w5.heap.size = g := ⟨_, rfl⟩
  obtain ⟨w6, hw6⟩ : ∃ w6, w5.alloc (.cells #[.int .i64 2, .int .i64 0, .int .i64 30, .int .i64 0, .int .i64 30, .int .i64 0] 52) = w6 := ⟨_, rfl⟩
  have KC := Lib.hid (show w6.heap[g2]? = some (.cells #[.int .i64 2, .int .i64 0, .int .i64 30, .int .i64 0, .int .i64 30, .int .i64 0] 52 (0, 0)) by rw [← hw6, ← hg2]; exact blk_new _ _)
  have b6 := (show Below w5.heap.size w5 w6 by rw [← hw6]; exact below_alloc (Below.refl _ w5) _)
  have h6 := (b6.cell (p := ⟨a.block, a.off + 1, none⟩) (World.block_lt_of_cell? w5 _ h5)).trans h5
  have B6 := Lib.hid (B5.out.trans (b6.mono B5.out.size))
  simp only [hw6, hg2]
  clear hw6 hg2 b6 h5
  refine (coded_calls _ _ _ _ _).mono ?_
  rintro e w7 ⟨rfl, b7⟩
  have h7 := (b7.cell (p := ⟨a.block, a.off + 1, none⟩) (World.block_lt_of_cell? w6 _ h6)).trans h6
  have B7 := Lib.hid (B6.out.trans (b7.mono B6.out.size))
  have KC7 := Lib.hid (blk_below KC.out b7)
  clear b7 h6
  go_wp2_with fail
  refine (aw_check3 KC7.out (HF.out.below B7.out HLT.out) (HT.out.below B7.out (by have := HLT.out; omega))).mono ?_
  rintro e w8 ⟨rfl, b8⟩
  have h8 := (b8.cell (p := ⟨a.block, a.off + 1, none⟩) (World.block_lt_of_cell? w7 _ h7)).trans h7
  have B8 := Lib.hid (B7.out.trans (b8.mono B7.out.size))
  clear b8 h7
  go_wp2
  go_ret
  exact ⟨by simp, by repeat (first | exact B8.out | apply pw_below_drewN | apply below_drew1)⟩
end Go.Proofs.YtdgljnidkhfgpaaDoor
