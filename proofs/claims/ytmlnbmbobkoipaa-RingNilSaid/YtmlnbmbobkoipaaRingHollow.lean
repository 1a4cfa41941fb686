/-
  A nil ring and a ring without room: what the calls answer.
-/
import Derived.Test.YtmlnbmbobkoipaaRingEach
namespace Go.Proofs.Ytmlnbmbobkoipaa
open Go.RowKit Go.Proofs.YtmlnbmbobkoipaaW.PrintWords Go.Proofs.YtmlnbmbobkoipaaW.PrintLast Go.Proofs.YtmlnbmbobkoipaaW.PrintMore

def Hollow (w : World) (r : Option Addr) : Prop := r = none ∨ ∃ g, r = some ⟨g, 0, none⟩ ∧ RingIsI w g (fun _ => False) 0 []
theorem Hollow.below {w w' : World} {r : Option Addr} (h : Hollow w r) (hb : Below w.heap.size w w') : Hollow w' r := by
  rcases h with h | ⟨g, e, h⟩
  · exact .inl h
  · exact .inr ⟨g, e, h.below hb⟩
theorem hollow_push {w : World} {r : Option Addr} (v : Int) (h : Hollow w r) : Calls Try.prog 31 #[.pointer r, .int .i64 v] w fun e w' => e = .returned (.tuple #[.int .i64 0, .bool false]) ∧ Below w.heap.size w w' := by
  rcases h with rfl | ⟨g, rfl, f, P, h, _, _⟩
  · exact ringI_push_nil v w
  · exact ringI_push_zero v h rfl
theorem hollow_drop {w : World} {r : Option Addr} (h : Hollow w r) : Calls Try.prog 33 #[.pointer r] w fun e w' => e = .returned (.tuple #[.int .i64 0, .bool false]) ∧ Below w.heap.size w w' := by
  rcases h with rfl | ⟨g, rfl, h⟩
  · exact ringI_drop_nil w
  · exact ring_drop_none h
theorem hollow_len {w : World} {r : Option Addr} (h : Hollow w r) : Calls Try.prog 36 #[.pointer r] w fun e w' => e = .returned (.int .i64 0) ∧ w = w' := by
  rcases h with rfl | ⟨g, rfl, h⟩
  · exact ringI_len_nil w
  · exact ring_len h
theorem hollow_room {w : World} {r : Option Addr} (h : Hollow w r) : Calls Try.prog 37 #[.pointer r] w fun e w' => e = .returned (.int .i64 0) ∧ w = w' := by
  rcases h with rfl | ⟨g, rfl, h⟩
  · exact ringI_room_nil w
  · exact ring_room h
set_option maxRecDepth 100000 in
theorem hollow_at {w : World} {r : Option Addr} (i : Int) (h : Hollow w r) : Calls Try.prog 34 #[.pointer r, .int .i64 i] w fun e w' => e = .returned (.tuple #[.int .i64 0, .bool false]) ∧ Below w.heap.size w w' := by
  have HH := Lib.hid h
  by_cases h0 : i < 0
  · have d1 : decide (i < 0) = true := decide_eq_true h0
    clear h
    go_enter Try.func34, Try.ntmps34
    go_wp2
    go_ret2
    exact ⟨by simp, Below.refl _ _⟩
  · have d1 : decide (i < 0) = false := decide_eq_false h0
    have d2 : decide ((0 : Int) ≤ i) = true := decide_eq_true (by omega)
    clear h
    go_enter Try.func34, Try.ntmps34
    go_wp2_with fail
    refine (hollow_len HH.out).mono ?_
    rintro e w1 ⟨rfl, rfl⟩
    go_wp2
    go_ret2
    exact ⟨by simp, Below.refl _ _⟩
set_option maxRecDepth 100000 in
theorem list_nil (w : World) : Calls Try.prog 30 #[.pointer none] w fun e w' => ∃ v, e = .returned v ∧ Kd.R (Kd.int .i64) 2 w' w.heap.size (fun _ => True) v [] ∧ Below w.heap.size w w' := by
  go_enter Try.func30, Try.ntmps30
  go_wp2_with fail
  refine (ringI_len_nil _).mono ?_
  rintro e w1 ⟨rfl, rfl⟩
  go_wp2
  go_loopg [3, 9] 0 (fun kq v3 v9 w' => v3 = .slice none 0 0 ∧ v9 = .int .i64 0 ∧ Aside0 (w = w'))
  case atStart => exact ⟨rfl, rfl, ⟨rfl⟩⟩
  case round =>
    obtain ⟨rfl, rfl, hw⟩ := hrel
    obtain rfl := hw.out
    go_wp2
    go_ret
    exact ⟨_, rfl, Kd.R_nil _ _ _ _ _, Below.refl _ _⟩
theorem hollow_list {w : World} {r : Option Addr} (h : Hollow w r) : Calls Try.prog 30 #[.pointer r] w fun e w' => ∃ v, e = .returned v ∧ Kd.R (Kd.int .i64) 2 w' w.heap.size (fun _ => True) v [] ∧ Below w.heap.size w w' := by
  rcases h with rfl | ⟨g, rfl, h⟩
  · exact list_nil w
  · exact ring_list h
theorem hollow_each {w : World} {r : Option Addr} (nn : Int) (h : Hollow w r) : Calls Try.prog 35 #[.pointer r, .int .i64 nn] w fun e w' => ∃ (A : Option Addr) (c : Nat) (n : Int), e = .returned (.tuple #[.slice A 0 c, .int .i64 n]) ∧ Below w.heap.size w w' := by
  refine (each_calls nn (L := []) (by simp) (fun w2 hb => hollow_list (h.below hb))).mono ?_
  rintro e w' ⟨v, rfl, hr, hb⟩
  have hr' : Kd.R (Kd.int .i64) 2 w' w.heap.size (fun _ => True) v [] := by simpa using hr
  obtain ⟨A, c, rfl⟩ := Kd.R_slice hr'
  exact ⟨A, c, _, rfl, hb⟩
end Go.Proofs.Ytmlnbmbobkoipaa
