/-
  A queue that holds a list of numbers: what each call does to it, and what it answers.
-/
import Derived.Test.YtmlnbmbobkoipaaMonoFns2
import Derived.Test.YtmlnbmbobkoipaaMonoFns3
import Derived.Test.YtmlnbmbobkoipaaMonoPure
namespace Go.Proofs.Ytmlnbmbobkoipaa
open Go.RowKit Go.Proofs.Ytmlnbmbobkoipaa.XMono Go.Proofs.YtmlnbmbobkoipaaW.PrintWords Go.Proofs.YtmlnbmbobkoipaaW.PrintLast Go.Proofs.YtmlnbmbobkoipaaW.PrintMore

/-- The queue at block g holds L; 'left' numbers have left it. -/
structure MonoIs (w : World) (g : Nat) (ok : Nat → Prop) (high : Bool) (L : List Int) (left : Int) : Prop where
  at_ : MonoAt w g ok high (left + L.length) left (keptOf high L left)
  pos : 0 ≤ left
  few : left + L.length < 4611686018427387904
  small : L.length ≤ 8796093022208

section
variable {w w' : World} {g : Nat} {ok : Nat → Prop} {high : Bool} {L : List Int} {left : Int}
theorem MonoIs.below (h : MonoIs w g ok high L left) (hb : Below w.heap.size w w') : MonoIs w' g ok high L left := ⟨h.at_.below hb, h.pos, h.few, h.small⟩
theorem MonoIs.kept {S : Nat → Prop} (h : MonoIs w g ok high L left) (hk : Kept w w' S) (hg : ¬ S g) (hs : ∀ k, ok k → ¬ S k) : MonoIs w' g ok high L left := ⟨h.at_.kept hk hg hs, h.pos, h.few, h.small⟩
theorem is_new (high : Bool) (w : World) : Calls Try.prog 12 #[.bool high] w fun e w' => ∃ g, e = .returned (.pointer (some ⟨g, 0, none⟩)) ∧ w.heap.size ≤ g ∧ MonoIs w' g (fun _ => False) high [] 0 ∧ Below w.heap.size w w' := by
  refine (mono_new high w).mono ?_
  rintro e w' ⟨g, rfl, h1, h2, h3⟩
  exact ⟨g, rfl, h1, ⟨h2, Int.le_refl _, by decide, Nat.zero_le _⟩, h3⟩
theorem is_put (v : Int) (h : MonoIs w g ok high L left) (hf : left + L.length + 1 < 4611686018427387904) (hs : L.length + 1 ≤ 8796093022208) :
    Calls Try.prog 13 #[.pointer (some ⟨g, 0, none⟩), .int .i64 v] w fun e w' => e = .returned (.tuple #[]) ∧ Below 0 w w' ∧ Kept w w' (fun k => k = g ∨ ok k) ∧ MonoIs w' g (fun k => ok k ∨ w.heap.size ≤ k) high (L ++ [v]) left := by
  have hl := keptOf_len high L left
  refine (mono_put v h.at_ (by have := h.pos; omega) h.few (by omega)).mono ?_
  rintro e w' ⟨rfl, h1, h2, h3⟩
  have e1 : left + (L.length : Int) + 1 = left + ((L ++ [v]).length : Nat) := by simp; omega
  rw [cut_all, ← keptOf_put, e1] at h3
  exact ⟨rfl, h1, h2, ⟨h3, h.pos, by rw [← e1]; exact hf, by simpa using hs⟩⟩
theorem is_take {x : Int} (h : MonoIs w g ok high (x :: L) left) :
    Calls Try.prog 18 #[.pointer (some ⟨g, 0, none⟩)] w fun e w' => e = .returned (.bool true) ∧ Below 0 w w' ∧ Kept w w' (fun k => k = g) ∧ MonoIs w' g ok high L (left + 1) := by
  have h2 := h.few
  have h3 := h.small
  simp only [List.length_cons] at h2 h3
  refine (mono_take h.at_ h.pos (by simp only [List.length_cons]; omega) h.few).mono ?_
  rintro e w' ⟨rfl, k1, k2, k3⟩
  have e1 : left + ((x :: L).length : Int) = left + 1 + (L.length : Nat) := by simp only [List.length_cons]; omega
  rw [keptOf_take, e1] at k3
  exact ⟨rfl, k1, k2, ⟨k3, by have := h.pos; omega, by omega, by omega⟩⟩
theorem is_len (h : MonoIs w g ok high L left) : Calls Try.prog 20 #[.pointer (some ⟨g, 0, none⟩)] w fun e w' => e = .returned (.int .i64 (L.length : Int)) ∧ Below w.heap.size w w' := by
  refine (mono_len h.at_ h.pos (by omega) h.few).mono ?_
  rintro e w' ⟨rfl, h1⟩
  exact ⟨by rw [show left + (L.length : Int) - left = L.length by omega], h1⟩
/-- The best of a list, and whether there is one. -/
def bestV (high : Bool) (L : List Int) : Int := hdV high L
def some? (L : List Int) : Bool := decide (0 < L.length)
theorem is_best (h : MonoIs w g ok high L left) : Calls Try.prog 19 #[.pointer (some ⟨g, 0, none⟩)] w fun e w' => e = .returned (.tuple #[.int .i64 (bestV high L), .bool (some? L)]) ∧ Below w.heap.size w w' := by
  cases L with
  | nil =>
    refine (mono_best_none h.at_ h.pos (by simp) h.few).mono ?_
    rintro e w' ⟨rfl, h1⟩
    exact ⟨rfl, h1⟩
  | cons x L =>
    have hne := keptOf_ne high x L left
    have hlen : 0 < (keptOf high (x :: L) left).length := List.length_pos_iff.2 hne
    refine (mono_best h.at_ h.pos (by simp only [List.length_cons]; omega) h.few hlen).mono ?_
    rintro e w' ⟨rfl, h1⟩
    have e1 : (rd_T80 (keptOf high (x :: L) left) 0).f0 = bestV high (x :: L) := by
      unfold bestV hdV
      rw [← keptOf_map high (x :: L) left]
      cases hk : keptOf high (x :: L) left with
      | nil => exact absurd hk hne
      | cons a b => rfl
    have e2 : some? (x :: L) = true := by simp [some?]
    rw [e1, e2]
    exact ⟨rfl, h1⟩
theorem best_ref (high : Bool) (L : List Int) (hL : L.length < 4611686018427387904) (k : Nat) (hk : L.length ≤ k) : capstanref06_Best.f k high L = some (bestV high L, some? L) := by
  cases L with
  | nil => exact best_nil high k
  | cons x L =>
    have e2 : some? (x :: L) = true := by simp [some?]
    rw [best_f high x L hL k hk, e2]
    rfl
theorem is_kept (h : MonoIs w g ok high L left) :
    Calls Try.prog 14 #[.pointer (some ⟨g, 0, none⟩)] w fun e w' => ∃ v, e = .returned v ∧ Kd.R (Kd.int .i64) 2 w' w.heap.size (fun _ => True) v (keptV high L) ∧ Below w.heap.size w w' := by
  have hl := keptOf_len high L left
  have hs := h.small
  refine (mono_kept h.at_ (by omega)).mono ?_
  rw [keptOf_map]
  exact fun e w' h => h
end

set_option maxHeartbeats 8000000 in
set_option maxRecDepth 100000 in
/-- All that can be asked is the document's. -/
theorem looks_true {w : World} {g : Nat} {ok : Nat → Prop} {high : Bool} {L : List Int} {left : Int} (h : MonoIs w g ok high L left) {A : Option Addr} {c : Nat} (hc : Kd.C (Kd.int .i64) w A L.length L) (hlc : L.length ≤ c) :
    Calls Try.prog 17 #[.pointer (some ⟨g, 0, none⟩), .bool high, .slice A L.length c] w fun e w' => e = .returned (.bool true) ∧ Below w.heap.size w w' := by
  obtain ⟨k, hk⟩ : ∃ k, 2 * L.length + 2 ≤ k := ⟨_, Nat.le_refl _⟩
  have hs := h.small
  have hB := Lib.hid (best_ref high L (by omega) k (by omega))
  have hK := Lib.hid (kept_f high L (by omega) k hk)
  have hkl := keptV_len high L
  have hS := Lib.hid (same_f (keptV high L) (by omega) k (by omega))
  have HH := Lib.hid h
  have HC := Lib.hid (And.intro hc hlc)
  clear h hc hlc hs hk hkl
  go_enter Try.func17, Try.ntmps17
  go_wp2_with fail
  refine (is_best HH.out).mono ?_
  rintro e w1 ⟨rfl, b1⟩
  have B1 := Lib.hid b1
  clear b1
  go_wp2_with fail
  refine (capstanref06_Best.calls k high A c L _ _ _ (Kd.C_below HC.out.1 B1.out) HC.out.2 hB.out).mono ?_
  rintro e w2 ⟨rfl, ⟨nd, rfl⟩⟩
  have B2 := Lib.hid (pw_below_drewN B1.out nd)
  go_wp2_with fail
  refine (is_len (HH.out.below B2.out)).mono ?_
  rintro e w3 ⟨rfl, b3⟩
  have B3 := Lib.hid (B2.out.trans (b3.mono B2.out.size))
  clear b3
  go_wp2_with fail
  refine (is_kept (HH.out.below B3.out)).mono ?_
  rintro e w4 ⟨vK, rfl, r4, b4⟩
  obtain ⟨A4, c4, rfl⟩ := Kd.R_slice r4
  have B4 := Lib.hid (B3.out.trans (b4.mono B3.out.size))
  have R4 := Lib.hid r4
  clear b4 r4
  go_wp2_with fail
  refine (capstanref06_Kept.calls k high A c L _ _ (Kd.C_below HC.out.1 B4.out) HC.out.2 hK.out).mono ?_
  rintro e w5 ⟨vR, rfl, r5, b5⟩
  obtain ⟨A5, c5, rfl⟩ := Kd.R_slice r5
  have B5 := Lib.hid (B4.out.trans (b5.mono B4.out.size))
  have C4 := Lib.hid (Kd.R_reads' (Kd.R_below R4.out b5))
  have C5 := Lib.hid (Kd.R_reads' r5)
  clear b5 r5 R4
  go_wp2_with fail
  refine (capstanref05_Same.calls k A4 c4 _ A5 c5 _ true _ C4.out.2.2 C4.out.2.1 C5.out.2.2 C5.out.2.1 hS.out).mono ?_
  rintro e w6 ⟨rfl, ⟨nd2, rfl⟩⟩
  go_wp2
  go_ret
  exact ⟨by simp, pw_below_drewN B5.out nd2⟩

set_option maxHeartbeats 8000000 in
set_option maxRecDepth 100000 in
theorem awake06 (w : World) : Calls Try.prog 11 #[] w fun e w' => e = .returned (.bool true) ∧ Below w.heap.size w w' := by
  go_enter Try.func11, Try.ntmps11
  go_wp2_with fail
  refine (is_new false _).mono ?_
  rintro e w1 ⟨g, rfl, hg, h1, b1⟩
  have HG := Lib.hid hg
  clear hg
  go_wp2_with fail
  refine (is_put 3 h1 (by decide) (by decide)).mono ?_
  rintro e w2 ⟨rfl, b2, k2, h2⟩
  go_wp2_with fail
  refine (is_put 1 h2 (by decide) (by decide)).mono ?_
  rintro e w3 ⟨rfl, b3, k3, h3⟩
  go_wp2_with fail
  refine (is_best h3).mono ?_
  rintro e w4 ⟨rfl, b4⟩
  have e1 : bestV false ([] ++ [3] ++ [1]) = 1 := by decide
  have e2 : some? ([] ++ [3] ++ [1] : List Int) = true := by decide
  rw [e1, e2]
  go_wp2_with fail
  refine (is_len (h3.below b4)).mono ?_
  rintro e w5 ⟨rfl, b5⟩
  go_wp2
  go_ret
  have hz := HG.out
  have z1 := b1.size
  have z2 := k2.1
  have z3 := k3.1
  have z4 := b4.size
  have z5 := b5.size
  refine ⟨by simp, ⟨?_, ?_, ?_, by omega, fun k hk => ?_⟩⟩
  · rw [b5.os, b4.os, b3.os, b2.os, b1.os]
  · rw [b5.tape, b4.tape, b3.tape, b2.tape, b1.tape]
  · rw [b5.output, b4.output, b3.output, b2.output, b1.output]
  · rw [b5.block k (by omega), b4.block k (by omega), k3.2 k (by omega) (by rintro (h | h | h) <;> omega), k2.2 k (by omega) (by rintro (h | h) <;> omega), b1.block k hk]
end Go.Proofs.Ytmlnbmbobkoipaa
