/-
  What Each of a ring of int64 hands back: an iterator that goes over what was there when it was called, whatever the loop's body does elsewhere.
-/
import Derived.Test.YtmlnbmbobkoipaaRingI4
import Derived.RangeFuncNested
import Derived.RangeFuncBound
import Derived.RangeFuncBox
import Derived.RangeFuncCalls
import Derived.RangeFuncLeaves
import Derived.Shelf.Abstract
import Derived.Shelf.RegionOpen
import Derived.OwnWalkIn
import Derived.TacticsInMore
import Derived.LoopNIn
import Derived.LoopIn
namespace Go.Proofs.Ytmlnbmbobkoipaa
open Go.RowKit Go.Shelf Go.Proofs.YtmlnbmbobkoipaaW.PrintWords Go.Proofs.YtmlnbmbobkoipaaW.PrintLast Go.Proofs.YtmlnbmbobkoipaaW.PrintMore
attribute [local go_sem] Oper.semAt_some

/-- Block sb lies as it lay. -/
def KeepsBlk (sb : Nat) (W W' : World) : Prop := ∀ o, W.heap[sb]? = some o → o.isCells = true → W'.heap[sb]? = some o
theorem keepsBlk_t {sb : Nat} {A B C : World} (h : KeepsBlk sb A B) (k : KeepsBlk sb B C) : KeepsBlk sb A C := fun o ho hc => k o (h o ho hc) hc
/-- What has come when k rounds are over. -/
def uptoI (zs : List Int) (k : Nat) : List (Nat × Int) := (List.range k).map fun j => (j, zs.getD j 0)
theorem uptoI_succ (zs : List Int) (k : Nat) : uptoI zs (k + 1) = uptoI zs k ++ [(k, zs.getD k 0)] := by simp [uptoI, List.range_succ]
theorem uptoI_length (zs : List Int) (k : Nat) : (uptoI zs k).length = k := by simp [uptoI]

set_option maxRecDepth 100000 in
set_option maxHeartbeats 4000000 in
theorem ringSeq_in (F : Fence) (n : Nat) (hF : F.fn 46) (hro : F.round = none) (hn : 1 ≤ n) (l Bs sb off len cap : Nat) (o : Obj) (ho : o.isCells = true) (zs : List Int) (hreach : len ≤ 4096) (J Jx : List (Nat × Int) → World → Prop)
    (hY : ∀ pre x W, J pre W → pre.length < len → YieldAt F (n - 1) Try.prog l #[.int .i64 (x.1 : Int), .int .i64 x.2] W fun e W' =>
      (e = .returned (.bool true) ∧ J (pre ++ [x]) W' ∧ KeepsBlk sb W W') ∨ (e = .returned (.bool false) ∧ Jx (pre ++ [x]) W'))
    (W : World) (hBs : W.cell? ⟨Bs, 0, none⟩ = some (.slice (some ⟨sb, off, none⟩) len cap)) (hsb : W.heap[sb]? = some o) (hc : ∀ (w' : World) j, j < len → w'.heap[sb]? = some o → w'.cell? ⟨sb, off + j, none⟩ = some (.int .i64 (zs.getD j 0))) (h0 : J [] W) :
    CallsIn F n Try.prog 46 #[.func (.yield l) #[] #[], .pointer (some ⟨Bs, 0, none⟩)] W fun e W' => (∃ v, e = .returned v) ∧
      ((∃ ys, ys = uptoI zs len ∧ J ys W') ∨ (∃ pre, (∃ k, k ≤ len ∧ pre = uptoI zs k) ∧ Jx pre W')) := by
  refine callsIn_of_wp Try.func46 rfl hF ?_ hro
  simp only [Try.ntmps46, List.size_toArray, List.length_cons, List.length_nil, Nat.reduceAdd, Nat.reduceSub, Array.replicate_succ, Array.replicate_zero, List.push_toArray, List.append_toArray, List.nil_append, List.cons_append]
  gi_wp2
  gi_loopw [7] (fun i wr => ∃ k : Nat, k ≤ len ∧ i = .int .i64 k ∧ J (uptoI zs k) wr ∧ wr.heap[sb]? = some o)
    (fun i _ => len - (intOf i).toNat)
  case atStart => exact ⟨0, Nat.zero_le _, rfl, h0, hsb⟩
  case round =>
    obtain ⟨k, hk, rfl, hJs, hnx⟩ := hrel
    by_cases hlt : k < len
    · obtain ⟨x, hx⟩ : ∃ x, zs.getD k 0 = x := ⟨_, rfl⟩
      obtain ⟨fn, tmps, assign, body, hy, hR⟩ := hY _ (k, x) wr hJs (by rw [uptoI_length]; exact hlt)
      dsimp only at hy
      have hcx := hc wr k hlt hnx
      rw [hx] at hcx
      have HC := Lib.hid hc
      have HX := Lib.hid hx
      clear hc hx
      gi_wp2
      refine hR.mono ?_
      rintro e W3 (⟨rfl, hJ3, hk3⟩ | ⟨rfl, hJx3⟩)
      · gi_wp2
        go_roundw
        case rel => exact ⟨k + 1, by omega, by simp, by rw [uptoI_succ, HX.out]; exact hJ3, hk3 o hnx ho⟩
        case measure => simp [intOf]; omega
      · gi_wp2
        refine bodyPost_ret (results_none rfl _ _ _) rfl ?_
        exact ⟨⟨_, rfl⟩, .inr ⟨_, ⟨k + 1, by omega, by rw [uptoI_succ, HX.out]⟩, hJx3⟩⟩
    · obtain rfl : k = len := by omega
      gi_wp2
      go_end0
      exact ⟨⟨_, rfl⟩, .inl ⟨_, rfl, hJs⟩⟩
set_option maxRecDepth 100000 in
set_option maxHeartbeats 1000000 in
theorem ringSeq_none (F : Fence) (n : Nat) (hF : F.fn 46) (hro : F.round = none) (l Bs cap : Nat) (A : Option Addr) (J : List (Nat × Int) → World → Prop) (W : World) (hBs : W.cell? ⟨Bs, 0, none⟩ = some (.slice A 0 cap)) (h0 : J [] W) :
    CallsIn F n Try.prog 46 #[.func (.yield l) #[] #[], .pointer (some ⟨Bs, 0, none⟩)] W fun e W' => (∃ v, e = .returned v) ∧ J [] W' := by
  refine callsIn_of_wp Try.func46 rfl hF ?_ hro
  simp only [Try.ntmps46, List.size_toArray, List.length_cons, List.length_nil, Nat.reduceAdd, Nat.reduceSub, Array.replicate_succ, Array.replicate_zero, List.push_toArray, List.append_toArray, List.nil_append, List.cons_append]
  gi_wp2
  gi_loopw [7] (fun i wr => i = .int .i64 0 ∧ J [] wr) (fun _ _ => 0)
  case atStart => exact ⟨rfl, h0⟩
  case round =>
    obtain ⟨rfl, hJs⟩ := hrel
    gi_wp2
    go_end0
    exact ⟨⟨_, rfl⟩, hJs⟩
/-- The block of a slice's elements. -/
def rowBlk : Value → Nat
  | .slice (some a) _ _ => a.block
  | _ => 0
/-- What Each hands back goes over the list, as far as the body wants. -/
theorem ringSeq_stops (F : Fence) (n : Nat) (hF : F.fn 46) (hro : F.round = none) (hn : 1 ≤ n) (Bs base : Nat) (ok : Nat → Prop) (v : Value) (zs : List Int) (hreach : zs.length ≤ 4096) (w : World)
    (hBs : w.heap[Bs]? = some (.cells #[v] 22 (0, 0))) (hv : Kd.R (Kd.int .i64) 2 w base ok v zs) :
    SeqStopsK F n Try.prog 46 #[.pointer (some ⟨Bs, 0, none⟩)] (fun x : Nat × Int => #[Value.int .i64 (x.1 : Int), Value.int .i64 x.2]) (KeepsBlk (rowBlk v)) (fun ys => ys = uptoI zs zs.length) (fun pre => ∃ k, k ≤ zs.length ∧ pre = uptoI zs k) zs.length w := fun l J Jx W hW _ _ hY h0 => by
  have hb := (hW.block Bs (blk_lt hBs)).trans hBs
  have hc0 := (blk_cell hb 0).trans rfl
  have hv' := Kd.R_below hv hW
  by_cases hz : 0 < zs.length
  · obtain ⟨g, cap, rfl, _, hlt, cells, hg⟩ := Kd.R_form hv' hz
    have hC := (Kd.R_reads' hv').2.2
    refine (ringSeq_in F n hF hro hn l Bs g 0 zs.length cap _ rfl zs hreach J Jx hY W hc0 hg ?_ h0)
    intro w' j hj hg'
    obtain ⟨ad, he, hcj⟩ := Kd.at_int hC (j : Int) (by omega) (by omega)
    cases he
    rw [Int.toNat_natCast, add_plain, blk_cell hg j] at hcj
    rw [Nat.zero_add, blk_cell hg' j, hcj]
    unfold rd
    rw [Int.toNat_natCast]
  · have hz0 : zs = [] := List.eq_nil_of_length_eq_zero (by omega)
    subst hz0
    obtain ⟨A, c, rfl⟩ := Kd.R_slice hv'
    exact (ringSeq_none F n hF hro l Bs c A J W hc0 h0).mono fun e W' ⟨he, hj⟩ => ⟨he, .inl ⟨[], rfl, hj⟩⟩
set_option maxHeartbeats 1000000 in
set_option maxRecDepth 100000 in
theorem ring_each {w : World} {r : Option Addr} {L : List Int} (hl : Calls Try.prog 30 #[.pointer r] w fun e w' => ∃ v, e = .returned v ∧ Kd.R (Kd.int .i64) 2 w' w.heap.size (fun _ => True) v L ∧ Below w.heap.size w w') :
    Calls Try.prog 32 #[.pointer r] w fun e w' => ∃ bs v, e = .returned (.func (.func 46) #[] #[.pointer (some ⟨bs, 0, none⟩)]) ∧ w.heap.size ≤ bs ∧ bs < w'.heap.size ∧ w'.heap[bs]? = some (.cells #[v] 22 (0, 0)) ∧
      Kd.R (Kd.int .i64) 2 w' w.heap.size (fun k => k ≠ bs) v L ∧ Below w.heap.size w w' := by
  have HL := Lib.hid hl
  clear hl
  go_enter Try.func32, Try.ntmps32
  go_wp2_with fail
  refine HL.out.mono ?_
  rintro e w1 ⟨v, rfl, hv, hb⟩
  obtain ⟨A, c, rfl⟩ := Kd.R_slice hv
  have HV := Lib.hid hv
  have HB := Lib.hid hb
  clear hv hb
  go_wp2
  go_ret
  exact ⟨w1.heap.size, _, by simp, HB.out.size, by simp, blk_new _ _, Kd.R_alloc (Kd.R_mono (Kd.R_bound HV.out) (fun k hk => Nat.ne_of_lt hk.2.2.1)) _, below_alloc HB.out _⟩
end Go.Proofs.Ytmlnbmbobkoipaa
