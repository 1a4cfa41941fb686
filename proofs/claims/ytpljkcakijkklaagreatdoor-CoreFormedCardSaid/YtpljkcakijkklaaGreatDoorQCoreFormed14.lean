/-
  Texts of this seat, joined, less what CoreFormed does not lean on: Memo1, Memo2, Rmemo1, Rmemo2, Sorted.
-/
import Derived.Test.YtpljkcakijkklaaGreatDoorQCoreFormed10
import Derived.Test.YtpljkcakijkklaaGreatDoorQCoreFormed13
import Derived.Maps.Own
import Derived.Maps.Views
import Derived.Test.YtpljkcakijkklaaGreatDoorQCoreFormed9
set_option linter.unusedVariables false
set_option linter.unusedSimpArgs false
set_option maxHeartbeats 4000000
set_option maxRecDepth 100000
namespace Go.Proofs.YtpljkcakijkklaaGreatDoor.Zz14
theorem z14_0 {p : Prop} (h : p := by rw [memoL_take HY.out HH.out]; exact HF.out) : p := h
end Go.Proofs.YtpljkcakijkklaaGreatDoor.Zz14
open Go.Proofs.YtpljkcakijkklaaGreatDoor.Zz14
section
namespace Go.Proofs.YtpljkcakijkklaaGreatDoor
set_option linter.unusedVariables false
set_option linter.unusedSimpArgs false
open Go.RowKit Go.Maps Go.Proofs.YtpljkcakijkklaaGreatDoorW.PrintWords Go.Proofs.YtpljkcakijkklaaGreatDoorW.PrintLast Go.Proofs.YtpljkcakijkklaaGreatDoorW.PrintMore

def Held := Int → Option Cr
def putH (h : Held) (x : Int) (c : Cr) : Held := fun y => if y = x then some c else h y
mutual
def memoS : Cr → Held → Option Held
 | .node op n _ _ _ l, h => match (if op = 7 then (match l with | k :: _ => (match h n with | some f => if sameS f k then some (putH h n k) else none | none => some (putH h n k)) | [] => some h) else some h) with
  | some h' => memoL l h'
  | none => none
def memoL : List Cr → Held → Option Held
 | [], h => some h
 | c :: l, h => match memoS c h with
  | some h' => memoL l h'
  | none => none
end
def memo1 (op n : Int) (l : List Cr) (h : Held) : Option Held := if op = 7 then (match l with | k :: _ => (match h n with | some f => if sameS f k then some (putH h n k) else none | none => some (putH h n k)) | [] => some h) else some h
theorem memoS_eq (c : Cr) (h : Held) : memoS c h = (match memo1 c.op c.n c.kids h with | some h' => memoL c.kids h' | none => none) := by
 cases c
 rw [memoS.eq_def]
 rfl
theorem memoL_take {l : List Cr} : ∀ {i : Nat} {k : Cr} {h h' : Held}, l[i]? = some k → memoL (l.take i) h = some h' → memoL (l.take (i + 1)) h = memoS k h' := by
 induction l with
 | nil => intro i k h h' hk; simp at hk
 | cons c l ih =>
  intro i k h h' hk hh
  cases i with
  | zero =>
   simp at hk
   subst hk
   rw [List.take_zero, memoL] at hh
   injection hh with hh
   subst hh
   rw [List.take_succ_cons, List.take_zero, memoL]
   cases memoS c h with
   | none => rfl
   | some h2 => simp only; rw [memoL]
  | succ i =>
   rw [List.take_succ_cons, memoL] at hh ⊢
   cases hc : memoS c h with
   | none => rw [hc] at hh; cases hh
   | some h2 =>
    rw [hc] at hh
    simp only at hh ⊢
    exact ih (by simpa using hk) hh
theorem memoL_nil (h : Held) : memoL [] h = some h := by rw [memoL]
theorem memoL_fail {l : List Cr} : ∀ {i : Nat} {h : Held}, memoL (l.take i) h = none → memoL l h = none := by
 induction l with
 | nil => intro i h hh; rw [List.take_nil, memoL] at hh; cases hh
 | cons c l ih =>
  intro i h hh
  cases i with
  | zero => rw [List.take_zero, memoL] at hh; cases hh
  | succ i =>
   rw [List.take_succ_cons, memoL] at hh
   rw [memoL]
   cases hc : memoS c h with
   | none => rfl
   | some h2 =>
    rw [hc] at hh
    exact ih hh
mutual
def MOk : Cr → Prop
 | .node op n _ _ _ l => (op = 7 → l.length = 1 ∧ (0 ≤ n ∧ n < 256) ∧ ∀ k ∈ l, ¬ k.op = 0) ∧ MOkL l
def MOkL : List Cr → Prop
 | [] => True
 | c :: l => MOk c ∧ MOkL l
end
theorem MOk.eq {c : Cr} (h : MOk c) : (c.op = 7 → c.kids.length = 1 ∧ (0 ≤ c.n ∧ c.n < 256) ∧ ∀ k ∈ c.kids, ¬ k.op = 0) ∧ MOkL c.kids := by
 cases c
 rw [MOk] at h
 exact h
theorem MOkL.mem : ∀ {l : List Cr} {c : Cr}, MOkL l → c ∈ l → MOk c
 | [], _, _, h => by cases h
 | d :: l, c, h, hc => by
  rw [MOkL] at h
  rcases List.mem_cons.1 hc with rfl | hc
  ·exact h.1
  ·exact h.2.mem hc

structure BX (g : Nat) (a b : World) : Prop where
 os : b.os = a.os
 tape : b.tape = a.tape
 output : b.output = a.output
 size : a.heap.size ≤ b.heap.size
 block : ∀ k, k < a.heap.size → k ≠ g → b.heap[k]? = a.heap[k]?
theorem BX.refl (g : Nat) (a : World) : BX g a a := ⟨rfl, rfl, rfl, Nat.le_refl _, fun _ _ _ => rfl⟩
theorem BX.trans {g : Nat} {a b c : World} (h : BX g a b) (k : BX g b c) : BX g a c :=
 ⟨k.os.trans h.os, k.tape.trans h.tape, k.output.trans h.output, Nat.le_trans h.size k.size, fun i hi hg => (k.block i (Nat.lt_of_lt_of_le hi h.size) hg).trans (h.block i hi hg)⟩
theorem BX.of_below {g : Nat} {a b : World} (h : Below a.heap.size a b) : BX g a b := ⟨h.os, h.tape, h.output, h.size, fun k hk _ => h.block k hk⟩
theorem BX.of_grown {g : Nat} {a b : World} (h : a.grownBy b (some g)) : BX g a b := ⟨h.os, h.tape, h.output, h.size, fun k hk hg => h.block k hk (fun e => hg (by injection e))⟩
theorem BX.below {g n : Nat} {a b : World} (h : BX g a b) (hn : n ≤ g) (ha : n ≤ a.heap.size) : Below n a b := ⟨h.os, h.tape, h.output, h.size, fun k hk => h.block k (by omega) (by omega)⟩
def IsM (g : Nat) (w : World) : Prop := ∃ es clock, w.heap[g]? = some (.map es clock)
theorem cell_bx {g : Nat} {a b : World} (h : BX g a b) (hm : IsM g a) {p : Addr} {u : Value} (hc : a.cell? p = some u) : b.cell? p = some u := by
 have hne : p.block ≠ g := by
  intro e
  obtain ⟨es, cl, hg⟩ := hm
  simp [World.cell?, e, hg] at hc
 rw [World.cell?_of_block (w := a) (h.block p.block (World.block_lt_of_cell? a p hc) hne)]
 exact hc
theorem cells_bx {g : Nat} {a b : World} (h : BX g a b) (hm : IsM g a) {p : Addr} {n : Nat} {cs : List Value} (hc : a.cells? 0 p n = some cs) : b.cells? 0 p n = some cs := by
 obtain ⟨_, h2, h3⟩ := World.cells?_some hc
 refine World.cells?_of_each (Nat.zero_le _) h2 fun i hi => ?_
 have h4 := h3 i hi
 rw [List.getElem?_eq_getElem (by omega)] at h4 ⊢
 exact cell_bx h hm h4
mutual
theorem Lies.bx {g : Nat} {w w' : World} (hb : BX g w w') (hm : IsM g w) : ∀ {c : Cr}, Lies w c → Lies w' c
 | .node o x y a k l, h => by
  rw [Lies] at h ⊢
  exact ⟨h.1, h.2.1, LiesL.bx hb hm h.2.2⟩
theorem LiesL.bx {g : Nat} {w w' : World} (hb : BX g w w') (hm : IsM g w) {a : Option Addr} : ∀ {i : Nat} {l : List Cr}, LiesL w a i l → LiesL w' a i l
 | _, [], _ => by rw [LiesL]; trivial
 | i, c :: l, h => by
  rw [LiesL] at h ⊢
  obtain ⟨⟨b, hb2, hc⟩, h2, h3⟩ := h
  exact ⟨⟨b, hb2, cells_bx hb hm hc⟩, Lies.bx hb hm h2, LiesL.bx hb hm h3⟩
end
theorem blk_bx {g : Nat} {a b : World} (h : BX g a b) (hm : IsM g a) {k : Nat} {cs : Array Value} {t : TypeId} (hk : a.heap[k]? = some (.cells cs t (0, 0))) : b.heap[k]? = some (.cells cs t (0, 0)) := by
 have hne : k ≠ g := by
  intro e
  obtain ⟨es, cl, hg⟩ := hm
  rw [e, hg] at hk
  cases hk
 rw [h.block k (blk_lt hk) hne]
 exact hk

def RV (v : Value) : Option (DataW Value × List MemPlace) := some (.held v, [])
structure MapIs (g : Nat) (h : Held) (N : Nat) (W : World) : Prop where
 own : ∃ D, W.ownsMap (H := Value) Tryz.prog 2 RV g N D ∧ IsMap D ∧ ∀ x, D.atKey (.int .i64 x) .nil = match h x with | some c => .held c.val | none => .nil
 lies : ∀ x c, h x = some c → Lies W c
theorem MapIs.isM {g : Nat} {h : Held} {N : Nat} {W : World} (m : MapIs g h N W) : IsM g W := by
 obtain ⟨D, ⟨es, cl, hg, -⟩, -⟩ := m.own
 exact ⟨es, cl, hg⟩
theorem MapIs.mono {g : Nat} {h : Held} {N N' : Nat} {W : World} (m : MapIs g h N W) (hn : N ≤ N') : MapIs g h N' W := by
 obtain ⟨D, h1, h2⟩ := m.own
 exact ⟨⟨D, h1.mono hn, h2⟩, m.lies⟩
theorem MapIs.lt {g : Nat} {h : Held} {N : Nat} {W : World} (m : MapIs g h N W) : g < W.heap.size := by
 obtain ⟨es, cl, hg⟩ := m.isM
 exact (Array.getElem?_eq_some_iff.1 hg).1
theorem MapIs.below {g : Nat} {h : Held} {N : Nat} {W W' : World} (m : MapIs g h N W) (hb : Below W.heap.size W W') : MapIs g h N W' := by
 have hlt := m.lt
 obtain ⟨D, ⟨es, cl, hg, hr⟩, h2⟩ := m.own
 exact ⟨⟨D, ⟨es, cl, (hb.block g hlt).trans hg, hr⟩, h2⟩, fun x c hx => (m.lies x c hx).below hb⟩
theorem core_zero (w : World) : (zeroValue 24).run Tryz.prog w = .ok (.agg #[.int .i64 0, .int .i64 0, .int .i64 0, .slice none 0 0]) w := by kernel_rfl
theorem key_int {x : Int} (hx : I64 x) : keyOf Tryz.prog 2 (.int .i64 x) = some (.int .i64 x) := keyOf_int_mk Tryz.underlying2 (by
 have e : IntKind.i64.min = -9223372036854775808 := by decide
 have e2 : IntKind.i64.max = 9223372036854775807 := by decide
 unfold I64 at hx
 simp [Lit.wf, e, e2]
 omega)
set_option maxRecDepth 100000
theorem MapIs.look {g : Nat} {h : Held} {N : Nat} {W : World} (m : MapIs g h N W) {x : Int} (hx : I64 x) :
  (Instr.lookup 119 (.map (some g)) (.int .i64 x) true).run Tryz.prog W = .ok (match h x with | some c => .tuple #[c.val, .bool true] | none => .tuple #[.agg #[.int .i64 0, .int .i64 0, .int .i64 0, .slice none 0 0], .bool false]) W := by
 obtain ⟨D, ⟨es, clock, hb, F, _, rfl⟩, -, hat⟩ := m.own
 have h1 := hat x
 rcases Maps.fit_look true (int_keyed Tryz.underlying2) Tryz.underlying119 (core_zero W) hb F (key_int hx) with ⟨hrun, -, ha⟩ | ⟨e0, y, -, -, hrun, hy, ha, -⟩
 ·rw [ha .nil] at h1
  rw [hrun]
  cases hh : h x with
  | none => rfl
  | some c => rw [hh] at h1; cases h1
 ·rw [ha .nil] at h1
  rw [hrun]
  unfold RV at hy
  injection hy with hy
  rw [← hy] at h1
  cases hh : h x with
  | none => rw [hh] at h1; cases h1
  | some c =>
   rw [hh] at h1
   simp only [DataW.held.injEq] at h1
   simp only [if_true]
   rw [h1]
theorem MapIs.store {g : Nat} {h : Held} {N : Nat} {W : World} (m : MapIs g h N W) {x : Int} (hx : I64 x) {c : Cr} (hc : Lies W c) (hn : N < maxLen) :
  ∃ W', (Instr.mapUpdate 119 (.map (some g)) (.int .i64 x) (.agg #[.int .i64 c.op, .int .i64 c.n, .int .i64 c.m, .slice c.at_ c.kids.length c.cap])).run Tryz.prog W = .ok () W' ∧ MapIs g (putH h x c) (N + 1) W' ∧ BX g W W' := by
 obtain ⟨D, hown, hD, hat⟩ := m.own
 obtain ⟨W', hrun, h1, h2⟩ := hown.update (int_keyed Tryz.underlying2) Tryz.underlying119 hn (key_int hx) (val := c.val) (d := .held c.val) (ps := []) rfl
 have hb := BX.of_grown h2
 refine ⟨W', hrun, ⟨⟨_, h1, ?_, fun y => ?_⟩, fun y d hy => ?_⟩, hb⟩
 ·obtain ⟨es, rfl⟩ := hD
  exact ⟨_, rfl⟩
 ·unfold putH
  by_cases e : y = x
  ·subst e
   rw [if_pos rfl, atKey_put_same (k := .int .i64 y) hD trivial]
  ·rw [if_neg e, atKey_put_other (fun h => e (by injection h))]
   exact hat y
 ·unfold putH at hy
  by_cases e : y = x
  ·rw [if_pos e] at hy
   injection hy with hy
   subst hy
   exact hc.bx hb m.isM
  ·rw [if_neg e] at hy
   exact (m.lies y d hy).bx hb m.isM
end Go.Proofs.YtpljkcakijkklaaGreatDoor

end
section
namespace Go.Proofs.YtpljkcakijkklaaGreatDoor
set_option linter.unusedVariables false
set_option linter.unusedSimpArgs false
open Go.RowKit Go.Maps Go.Proofs.YtpljkcakijkklaaGreatDoorW.PrintWords Go.Proofs.YtpljkcakijkklaaGreatDoorW.PrintLast Go.Proofs.YtpljkcakijkklaaGreatDoorW.PrintMore

abbrev walkO (g3 g4 : Nat) : Obj := .cells #[.func (.func 67) #[] #[.pointer (some ⟨g3, 0, none⟩), .pointer (some ⟨g4, 0, none⟩)]] 30 (0, 0)
abbrev heldO (gm : Nat) : Obj := .cells #[.map (some gm)] 119 (0, 0)
theorem memo11_calls {k : Cr} {g3 g4 : Nat} {W : World} {A B : World → Prop} (k4 : W.heap[g4]? = some (walkO g3 g4))
  (hc : Calls Tryz.prog 67 #[.agg #[.int .i64 k.op, .int .i64 k.n, .int .i64 k.m, .slice k.at_ k.kids.length k.cap], .pointer (some ⟨g3, 0, none⟩), .pointer (some ⟨g4, 0, none⟩)] (W.alloc (.cells #[.int .i64 k.op, .int .i64 k.n, .int .i64 k.m, .slice k.at_ k.kids.length k.cap] 24)) fun e w' => (e = .returned (.bool false) ∧ A w') ∨ (e = .returned (.bool true) ∧ B w')) :
  Calls Tryz.prog 69 #[.agg #[.int .i64 k.op, .int .i64 k.n, .int .i64 k.m, .slice k.at_ k.kids.length k.cap], .pointer (some ⟨g4, 0, none⟩)] W fun e w' => (e = .returned (.bool true) ∧ A w') ∨ (e = .returned (.bool false) ∧ B w') := by
 have HC := Lib.hid hc
 have x4 := (blk_cell k4 0).trans rfl
 have lt4 := blk_lt k4
 have n0 : ¬ g4 = W.heap.size := by omega
 have n1 : ¬ W.heap.size = g4 := by omega
 clear hc k4
 go_enter Tryz.func69, Tryz.ntmps69
 go_wp2_with fail
 refine HC.out.mono ?_
 rintro e w' (⟨rfl, hf⟩ | ⟨rfl, hf⟩)
 ·have HF := Lib.hid hf
  clear hf
  go_wp2_with fail
  go_ret
  exact .inl ⟨by first | rfl | simp, HF.out⟩
 ·have HF := Lib.hid hf
  clear hf
  go_wp2_with fail
  go_ret
  exact .inr ⟨by first | rfl | simp, HF.out⟩
theorem memo12_calls {k : Cr} {g3 g4 : Nat} {W : World} {A B : World → Prop} (k4 : W.heap[g4]? = some (walkO g3 g4))
  (hc : Calls Tryz.prog 67 #[.agg #[.int .i64 k.op, .int .i64 k.n, .int .i64 k.m, .slice k.at_ k.kids.length k.cap], .pointer (some ⟨g3, 0, none⟩), .pointer (some ⟨g4, 0, none⟩)] (W.alloc (.cells #[.int .i64 k.op, .int .i64 k.n, .int .i64 k.m, .slice k.at_ k.kids.length k.cap] 24)) fun e w' => (e = .returned (.bool false) ∧ A w') ∨ (e = .returned (.bool true) ∧ B w')) :
  Calls Tryz.prog 70 #[.agg #[.int .i64 k.op, .int .i64 k.n, .int .i64 k.m, .slice k.at_ k.kids.length k.cap], .pointer (some ⟨g4, 0, none⟩)] W fun e w' => (e = .returned (.bool true) ∧ A w') ∨ (e = .returned (.bool false) ∧ B w') := by
 have HC := Lib.hid hc
 have x4 := (blk_cell k4 0).trans rfl
 have lt4 := blk_lt k4
 have n0 : ¬ g4 = W.heap.size := by omega
 have n1 : ¬ W.heap.size = g4 := by omega
 clear hc k4
 go_enter Tryz.func70, Tryz.ntmps70
 go_wp2_with fail
 refine HC.out.mono ?_
 rintro e w' (⟨rfl, hf⟩ | ⟨rfl, hf⟩)
 ·have HF := Lib.hid hf
  clear hf
  go_wp2_with fail
  go_ret
  exact .inl ⟨by first | rfl | simp, HF.out⟩
 ·have HF := Lib.hid hf
  clear hf
  go_wp2_with fail
  go_ret
  exact .inr ⟨by first | rfl | simp, HF.out⟩
def WalkC (w0 : World) (gm g3 g4 : Nat) (c : Cr) : Prop := MOk c → ∀ (h : Held) (N : Nat) (W : World), BX gm w0 W → MapIs gm h N W → Lies w0 c → N + c.total < maxLen →
 Calls Tryz.prog 67 #[.agg #[.int .i64 c.op, .int .i64 c.n, .int .i64 c.m, .slice c.at_ c.kids.length c.cap], .pointer (some ⟨g3, 0, none⟩), .pointer (some ⟨g4, 0, none⟩)] W fun e w' => (e = .returned (.bool false) ∧ memoS c h = none ∧ BX gm w0 w') ∨ (e = .returned (.bool true) ∧ ∃ h', memoS c h = some h' ∧ BX gm w0 w' ∧ MapIs gm h' (N + c.total) w')
def StM (w0 : World) (gm : Nat) (l : List Cr) (h : Held) (N i : Nat) (W : World) : Prop := BX gm w0 W ∧ ∃ h', memoL (l.take i) h = some h' ∧ MapIs gm h' (N + totalL (l.take i)) W
def FinM (w0 : World) (gm : Nat) (l : List Cr) (h : Held) (W : World) : Prop := BX gm w0 W ∧ memoL l h = none
theorem step_of {w0 : World} {gm g3 g4 : Nat} (k4 : w0.heap[g4]? = some (walkO g3 g4)) (n4 : ¬ g4 = gm) {at_ : Option Addr} {l : List Cr} {h : Held} {N : Nat} (hl : LiesL w0 at_ 0 l) (hok : MOkL l) (ih : ∀ k ∈ l, WalkC w0 gm g3 g4 k) (hN : N + totalL l < maxLen) {g : Nat}
  (hg : ∀ {k : Cr} {W : World} {A B : World → Prop}, W.heap[g4]? = some (walkO g3 g4) → Calls Tryz.prog 67 #[.agg #[.int .i64 k.op, .int .i64 k.n, .int .i64 k.m, .slice k.at_ k.kids.length k.cap], .pointer (some ⟨g3, 0, none⟩), .pointer (some ⟨g4, 0, none⟩)] (W.alloc (.cells #[.int .i64 k.op, .int .i64 k.n, .int .i64 k.m, .slice k.at_ k.kids.length k.cap] 24)) (fun e w' => (e = .returned (.bool false) ∧ A w') ∨ (e = .returned (.bool true) ∧ B w')) →
   Calls Tryz.prog g #[.agg #[.int .i64 k.op, .int .i64 k.n, .int .i64 k.m, .slice k.at_ k.kids.length k.cap], .pointer (some ⟨g4, 0, none⟩)] W fun e w' => (e = .returned (.bool true) ∧ A w') ∨ (e = .returned (.bool false) ∧ B w')) :
  StepS g #[.pointer (some ⟨g4, 0, none⟩)] (StM w0 gm l h N) (FinM w0 gm l h) l := by
 intro i k hk W hS
 obtain ⟨hb, h', hh, hm⟩ := hS
 have hka : W.heap[g4]? = some (walkO g3 g4) := by rw [hb.block g4 (blk_lt k4) n4]; exact k4
 have ba : Below W.heap.size W (W.alloc (.cells #[.int .i64 k.op, .int .i64 k.n, .int .i64 k.m, .slice k.at_ k.kids.length k.cap] 24)) := below_alloc (Below.refl _ _) _
 have ht := totalL_take hk
 have htl := totalL_take_le l (i + 1)
 have hlk := LiesL.lies hl (List.mem_of_getElem? hk)
 have hc := ih k (List.mem_of_getElem? hk) (hok.mem (List.mem_of_getElem? hk)) h' (N + totalL (l.take i)) _ (hb.trans (BX.of_below ba)) (hm.below ba) hlk (by omega)
 refine (hg (A := fun w' => memoS k h' = none ∧ BX gm w0 w') (B := fun w' => ∃ h2, memoS k h' = some h2 ∧ BX gm w0 w' ∧ MapIs gm h2 (N + totalL (l.take i) + k.total) w') hka hc).mono fun e w' hw => ?_
 rcases hw with ⟨rfl, h1, h2⟩ | ⟨rfl, h2, h3, h4, h5⟩
 ·exact .inl ⟨rfl, h2, memoL_fail (i := i + 1) (by rw [memoL_take hk hh]; exact h1)⟩
 ·exact .inr ⟨rfl, h4, h2, by rw [memoL_take hk hh]; exact h3, by rw [ht, ← Nat.add_assoc]; exact h5⟩
theorem walk_plain {op n m : Int} {at_ : Option Addr} {cap : Nat} {l : List Cr} {w0 W : World} {gm g3 g4 N : Nat} {h : Held} (k3 : w0.heap[g3]? = some (heldO gm)) (k4 : w0.heap[g4]? = some (walkO g3 g4)) (n3 : ¬ g3 = gm) (n4 : ¬ g4 = gm) (hg0 : IsM gm w0) (hl : Lies w0 (.node op n m at_ cap l)) (hok : MOkL l)
  (ih : ∀ k ∈ l, WalkC w0 gm g3 g4 k) (hb : BX gm w0 W) (hm : MapIs gm h N W) (hN : N + (1 + totalL l) < maxLen) (h7 : ¬ op = 7) :
  Calls Tryz.prog 67 #[.agg #[.int .i64 op, .int .i64 n, .int .i64 m, .slice at_ l.length cap], .pointer (some ⟨g3, 0, none⟩), .pointer (some ⟨g4, 0, none⟩)] W fun e w' => (e = .returned (.bool false) ∧ memoS (.node op n m at_ cap l) h = none ∧ BX gm w0 w') ∨ (e = .returned (.bool true) ∧ ∃ h', memoS (.node op n m at_ cap l) h = some h' ∧ BX gm w0 w' ∧ MapIs gm h' (N + (1 + totalL l)) w') := by
 have K4 := Lib.hid k4
 have N4 := Lib.hid n4
 have HM0 := Lib.hid hg0
 have HL := Lib.hid (show LiesL w0 at_ 0 l from hl.kids)
 have HOK := Lib.hid hok
 have HIH := Lib.hid ih
 have HN := Lib.hid hN
 have HBIG := Lib.hid (show l.length ≤ 4398046511104 by have := hl.room; simp only [Cr.kids_node, Cr.cap_node] at this; omega)
 have HM1 := Lib.hid (show memo1 op n l h = some h by unfold memo1; rw [if_neg h7])
 obtain ⟨w1, e1, b1, k1, s1⟩ := box1 W (.cells #[.int .i64 op, .int .i64 n, .int .i64 m, .slice at_ l.length cap] 24)
 have HE := Lib.hid e1
 have HB := Lib.hid (hb.trans (BX.of_below b1))
 have HMI := Lib.hid ((hm.below b1).mono (Nat.le_succ N))
 have p7 : (op == 7) = false := by simpa using h7
 clear k3 k4 n3 n4 hg0 hl hok ih hb hm hN h7 k1 e1 b1 s1
 go_enter Tryz.func67, Tryz.ntmps67
 go_wp2_with fail
 rw [HE.out]
 refine (containsS_calls (g := 69) (lb := #[.pointer (some ⟨g4, 0, none⟩)]) (fun _ _ => rfl) (St := StM w0 gm l h (N + 1)) (Fin := FinM w0 gm l h) cap (fun i W hS => HL.out.bx hS.1 HM0.out) HBIG.out ⟨HB.out, h, by rw [List.take_zero, memoL], by rw [List.take_zero, totalL]; exact HMI.out⟩ (step_of K4.out N4.out HL.out HOK.out HIH.out (by have := HN.out; omega) (fun ka hc => memo11_calls ka hc))).mono ?_
 rintro e w9 (⟨rfl, hf⟩ | ⟨rfl, hf⟩)
 ·have HF := Lib.hid hf
  clear hf
  go_wp2_with fail
  go_ret
  exact .inl ⟨by first | rfl | simp, by rw [memoS_eq]; show (match memo1 op n l h with | some h' => memoL l h' | none => none) = none; rw [HM1.out]; exact HF.out.2, HF.out.1⟩
 ·have HF := Lib.hid hf
  clear hf
  go_wp2_with fail
  go_ret
  obtain ⟨f1, h', f2, f3⟩ := HF.out
  rw [List.take_length] at f2 f3
  exact .inr ⟨by first | rfl | simp, h', by rw [memoS_eq]; show (match memo1 op n l h with | some h' => memoL l h' | none => none) = _; rw [HM1.out]; exact f2, f1, by rw [← Nat.add_assoc]; exact f3⟩
theorem walk_new {k0 : Cr} {n m : Int} {at_ : Option Addr} {cap : Nat} {l : List Cr} {w0 W : World} {gm g3 g4 N : Nat} {h : Held} (k3 : w0.heap[g3]? = some (heldO gm)) (k4 : w0.heap[g4]? = some (walkO g3 g4)) (n3 : ¬ g3 = gm) (n4 : ¬ g4 = gm) (hg0 : IsM gm w0) (hl : Lies w0 (.node 7 n m at_ cap l)) (hok : MOkL l)
  (ih : ∀ k ∈ l, WalkC w0 gm g3 g4 k) (hb : BX gm w0 W) (hm : MapIs gm h N W) (hN : N + (1 + totalL l) < maxLen) (hk : l = [k0]) (hx : h n = none) :
  Calls Tryz.prog 67 #[.agg #[.int .i64 7, .int .i64 n, .int .i64 m, .slice at_ l.length cap], .pointer (some ⟨g3, 0, none⟩), .pointer (some ⟨g4, 0, none⟩)] W fun e w' => (e = .returned (.bool false) ∧ memoS (.node 7 n m at_ cap l) h = none ∧ BX gm w0 w') ∨ (e = .returned (.bool true) ∧ ∃ h', memoS (.node 7 n m at_ cap l) h = some h' ∧ BX gm w0 w' ∧ MapIs gm h' (N + (1 + totalL l)) w') := by
 subst hk
 have K4 := Lib.hid k4
 have N4 := Lib.hid n4
 have HM0 := Lib.hid hg0
 have HL := Lib.hid (show LiesL w0 at_ 0 [k0] from hl.kids)
 have HOK := Lib.hid hok
 have HIH := Lib.hid ih
 have HN := Lib.hid hN
 have HBIG := Lib.hid (show ([k0] : List Cr).length ≤ 4398046511104 by simp)
 have hi := hl.ints.2.1
 simp only [Cr.n_node] at hi
 obtain ⟨p, rfl⟩ : ∃ p, at_ = some p := by
  obtain ⟨b, hb, -⟩ := hl.kids.cells (i := 0) (k := k0) rfl
  exact ⟨b, hb⟩
 have hla : W.heap.size + 1 = (W.alloc (.cells #[.int .i64 7, .int .i64 n, .int .i64 m, .slice (some p) 1 cap] 24)).heap.size := by simp
 have hba := below_alloc (Below.refl W.heap.size W) (.cells #[.int .i64 7, .int .i64 n, .int .i64 m, .slice (some p) 1 cap] 24)
 have hlk := (hm.below hba).look hi
 rw [hx] at hlk
 simp only at hlk
 have x3 := (blk_cell (blk_bx hb hg0 k3) 0).trans rfl
 have lt3 := blk_lt (blk_bx hb hg0 k3)
 have n30 : ¬ g3 = W.heap.size := by omega
 have n31 : ¬ W.heap.size = g3 := by omega
 obtain ⟨w2, e2, b2, k2, k5, s2⟩ := box2 W (.cells #[.int .i64 7, .int .i64 n, .int .i64 m, .slice (some p) 1 cap] 24) (.cells #[.int .i64 0, .int .i64 0, .int .i64 0, .slice none 0 0] 24)
 have HE := Lib.hid e2
 have HB := Lib.hid (hb.trans (BX.of_below b2))
 have HMI := Lib.hid (hm.below b2)
 have LK := Lib.hid (hl.kid (k := k0) (by simp))
 have K3 := Lib.hid k3
 have HI := Lib.hid hi
 have HX := Lib.hid hx
 have HC := Lib.hid fun (w' : World) (hb' : BX gm w2 w') => (show (w'.cell? ⟨g3, 0, none⟩ = some (.map (some gm))) ∧ (w'.cell? ⟨W.heap.size, 0, none⟩ = some (.int .i64 7) ∧ w'.cell? ⟨W.heap.size, 1, none⟩ = some (.int .i64 n) ∧ w'.cell? ⟨W.heap.size, 2, none⟩ = some (.int .i64 m) ∧ w'.cell? ⟨W.heap.size, 3, none⟩ = some (.slice (some p) 1 cap)) ∧ (w'.cell? ⟨W.heap.size + 1, 0, none⟩ = some (.int .i64 0) ∧ w'.cell? ⟨W.heap.size + 1, 1, none⟩ = some (.int .i64 0) ∧ w'.cell? ⟨W.heap.size + 1, 2, none⟩ = some (.int .i64 0) ∧ w'.cell? ⟨W.heap.size + 1, 3, none⟩ = some (.slice none 0 0)) ∧
   (w'.cell? p = some (.int .i64 k0.op) ∧ w'.cell? ⟨p.block, p.off + 1, none⟩ = some (.int .i64 k0.n) ∧ w'.cell? ⟨p.block, p.off + 2, none⟩ = some (.int .i64 k0.m) ∧ w'.cell? ⟨p.block, p.off + 3, none⟩ = some (.slice k0.at_ k0.kids.length k0.cap)) from
  ⟨(blk_cell (blk_bx (HB.out.trans hb') hg0 K3.out) 0).trans rfl, core_cells (blk_bx hb' HMI.out.isM k2), core_cells (blk_bx hb' HMI.out.isM k5), LiesL.lit0 (show LiesL w' (some p) 0 [k0] from LiesL.bx (HB.out.trans hb') hg0 hl.kids) (Below.refl _ _) (k := k0) rfl⟩)
 clear k3 k4 n3 n4 hg0 hl hok ih hb hm hN k2 k5 e2 b2 s2 hla hba hx hi
 go_enter Tryz.func67, Tryz.ntmps67
 go_wp2_with fail
 rw [HE.out]
 clear hlk x3 lt3 n30 n31
 have HCB := Lib.hid fun (w' : World) (hb : Below w2.heap.size w2 w') => HC.out w' (BX.of_below hb)
 have HM1 := Lib.hid (show memo1 7 n [k0] h = some (putH h n k0) by unfold memo1; rw [if_pos rfl]; simp only [HX.out])
 refine wp_region_held_drew (S := fun w' => Aside0 (Below w2.heap.size w2 w')) (by kernel_rfl) ?_ (fun hHeld => ?_)
 ·exact ⟨(Below.refl _ _).drew⟩
 generalize World.drew _ = wDa at hHeld ⊢
 have HCr := HCB
 refine' tk 0 ?_
 try simp only [pt]
 refine' tk 1 ?_
 try simp only [pt]
 refine' tn 2 ?_
 try simp only [pt]
 refine' tn 3 ?_
 try simp only [pt]
 refine' tn 4 ?_
 try simp only [pt]
 refine' tn 5 ?_
 try simp only [pt]
 refine' tn 6 ?_
 try simp only [pt]
 refine' tn 7 ?_
 try simp only [pt]
 refine' tn 8 ?_
 try simp only [pt]
 refine' tk 9 ?_
 try simp only [pt]
 refine wpAnyH_done (by kernel_rfl) ?_ _
 obtain ⟨x3, ⟨y0, y1, y2, y3⟩, -⟩ := HCB.out _ hHeld.out
 go_wp2_with fail
 clear x3 y0 y1 y2 y3
 have hMI := HMI.out.below hHeld.out.drew
 have hb5 := BX.of_below (g := gm) hHeld.out.drew
 clear hHeld
 refine wp_region_held_drew (S := fun w' => Aside0 (BX gm w2 w')) (by kernel_rfl) ?_ (fun hHeld => ?_)
 ·exact ⟨hb5⟩
 clear hb5
 generalize World.drew _ = wDb at hHeld hMI ⊢
 have HCr := HC
 refine' tk 0 ?_
 try simp only [pt]
 refine' tk 1 ?_
 try simp only [pt]
 refine' tk 2 ?_
 try simp only [pt]
 refine' tk 3 ?_
 try simp only [pt]
 refine' tk 4 ?_
 try simp only [pt]
 refine' tk 5 ?_
 try simp only [pt]
 refine' tk 6 ?_
 try simp only [pt]
 obtain ⟨wU, hrun, hmU, hbU⟩ := hMI.store HI.out (LK.out.bx (HB.out.trans hHeld.out) HM0.out) (by have := HN.out; omega)
 have HMU := Lib.hid hmU
 clear hmU hMI
 refine' cm 7 (fun K hK => ?_)
 go_simp
 refine hK.out _ _ ⟨hHeld.out.trans hbU⟩ (fun hHeld => ?_)
 clear hrun hbU
 clear hK K
 try simp only [pt]
 refine wpAnyH_done (by kernel_rfl) ?_ _
 have hZ := HC.out _ hHeld.out
 obtain ⟨x3, ⟨y0, y1, y2, y3⟩, -⟩ := hZ
 go_wp2_with fail
 have HZ := Lib.hid hHeld.out
 clear x3 y0 y1 y2 y3 hHeld
 refine (containsS_calls (g := 69) (lb := #[.pointer (some ⟨g4, 0, none⟩)]) (fun _ _ => rfl) (St := StM w0 gm [k0] (putH h n k0) (N + 1)) (Fin := FinM w0 gm [k0] (putH h n k0)) cap (fun i W hS => HL.out.bx hS.1 HM0.out) HBIG.out ⟨HB.out.trans HZ.out, (putH h n k0), by rw [List.take_zero, memoL], by rw [List.take_zero, totalL]; exact HMU.out⟩ (step_of K4.out N4.out HL.out HOK.out HIH.out (by have := HN.out; omega) (fun ka hc => memo11_calls ka hc))).mono ?_
 rintro e w9 (⟨rfl, hf⟩ | ⟨rfl, hf⟩)
 ·have HF := Lib.hid hf
  clear hf
  go_wp2_with fail
  go_ret
  exact .inl ⟨by first | rfl | simp, by rw [memoS_eq]; show (match memo1 7 n [k0] h with | some h' => memoL [k0] h' | none => none) = none; rw [HM1.out]; exact HF.out.2, HF.out.1⟩
 ·have HF := Lib.hid hf
  clear hf
  go_wp2_with fail
  go_ret
  obtain ⟨f1, h', f2, f3⟩ := HF.out
  rw [List.take_length] at f2 f3
  exact .inr ⟨by first | rfl | simp, h', by rw [memoS_eq]; show (match memo1 7 n [k0] h with | some h' => memoL [k0] h' | none => none) = _; rw [HM1.out]; exact f2, f1, by rw [← Nat.add_assoc]; exact f3⟩
theorem walk_old {k0 f : Cr} {n m : Int} {at_ : Option Addr} {cap : Nat} {l : List Cr} {w0 W : World} {gm g3 g4 N : Nat} {h : Held} (k3 : w0.heap[g3]? = some (heldO gm)) (k4 : w0.heap[g4]? = some (walkO g3 g4)) (n3 : ¬ g3 = gm) (n4 : ¬ g4 = gm) (hg0 : IsM gm w0) (hl : Lies w0 (.node 7 n m at_ cap l)) (hok : MOkL l)
  (ih : ∀ k ∈ l, WalkC w0 gm g3 g4 k) (hb : BX gm w0 W) (hm : MapIs gm h N W) (hN : N + (1 + totalL l) < maxLen) (hk : l = [k0]) (hx : h n = some f) :
  Calls Tryz.prog 67 #[.agg #[.int .i64 7, .int .i64 n, .int .i64 m, .slice at_ l.length cap], .pointer (some ⟨g3, 0, none⟩), .pointer (some ⟨g4, 0, none⟩)] W fun e w' => (e = .returned (.bool false) ∧ memoS (.node 7 n m at_ cap l) h = none ∧ BX gm w0 w') ∨ (e = .returned (.bool true) ∧ ∃ h', memoS (.node 7 n m at_ cap l) h = some h' ∧ BX gm w0 w' ∧ MapIs gm h' (N + (1 + totalL l)) w') := by
 subst hk
 have K4 := Lib.hid k4
 have N4 := Lib.hid n4
 have HM0 := Lib.hid hg0
 have HL := Lib.hid (show LiesL w0 at_ 0 [k0] from hl.kids)
 have HOK := Lib.hid hok
 have HIH := Lib.hid ih
 have HN := Lib.hid hN
 have HBIG := Lib.hid (show ([k0] : List Cr).length ≤ 4398046511104 by simp)
 have hi := hl.ints.2.1
 simp only [Cr.n_node] at hi
 obtain ⟨p, rfl⟩ : ∃ p, at_ = some p := by
  obtain ⟨b, hb, -⟩ := hl.kids.cells (i := 0) (k := k0) rfl
  exact ⟨b, hb⟩
 have hla : W.heap.size + 1 = (W.alloc (.cells #[.int .i64 7, .int .i64 n, .int .i64 m, .slice (some p) 1 cap] 24)).heap.size := by simp
 have hba := below_alloc (Below.refl W.heap.size W) (.cells #[.int .i64 7, .int .i64 n, .int .i64 m, .slice (some p) 1 cap] 24)
 have hlk := (hm.below hba).look hi
 rw [hx] at hlk
 simp only [Cr.val] at hlk
 have x3 := (blk_cell (blk_bx hb hg0 k3) 0).trans rfl
 have lt3 := blk_lt (blk_bx hb hg0 k3)
 have n30 : ¬ g3 = W.heap.size := by omega
 have n31 : ¬ W.heap.size = g3 := by omega
 obtain ⟨w2, e2, b2, k2, k5, s2⟩ := box2 W (.cells #[.int .i64 7, .int .i64 n, .int .i64 m, .slice (some p) 1 cap] 24) (.cells #[.int .i64 f.op, .int .i64 f.n, .int .i64 f.m, .slice f.at_ f.kids.length f.cap] 24)
 have HE := Lib.hid e2
 have HB := Lib.hid (hb.trans (BX.of_below b2))
 have HMI := Lib.hid (hm.below b2)
 have LK := Lib.hid (hl.kid (k := k0) (by simp))
 have K3 := Lib.hid k3
 have HI := Lib.hid hi
 have HX := Lib.hid hx
 have LF := Lib.hid ((hm.lies n f hx).below b2)
 have HC := Lib.hid fun (w' : World) (hb' : BX gm w2 w') => (show (w'.cell? ⟨g3, 0, none⟩ = some (.map (some gm))) ∧ (w'.cell? ⟨W.heap.size, 0, none⟩ = some (.int .i64 7) ∧ w'.cell? ⟨W.heap.size, 1, none⟩ = some (.int .i64 n) ∧ w'.cell? ⟨W.heap.size, 2, none⟩ = some (.int .i64 m) ∧ w'.cell? ⟨W.heap.size, 3, none⟩ = some (.slice (some p) 1 cap)) ∧ (w'.cell? ⟨W.heap.size + 1, 0, none⟩ = some (.int .i64 f.op) ∧ w'.cell? ⟨W.heap.size + 1, 1, none⟩ = some (.int .i64 f.n) ∧ w'.cell? ⟨W.heap.size + 1, 2, none⟩ = some (.int .i64 f.m) ∧ w'.cell? ⟨W.heap.size + 1, 3, none⟩ = some (.slice f.at_ f.kids.length f.cap)) ∧
   (w'.cell? p = some (.int .i64 k0.op) ∧ w'.cell? ⟨p.block, p.off + 1, none⟩ = some (.int .i64 k0.n) ∧ w'.cell? ⟨p.block, p.off + 2, none⟩ = some (.int .i64 k0.m) ∧ w'.cell? ⟨p.block, p.off + 3, none⟩ = some (.slice k0.at_ k0.kids.length k0.cap)) from
  ⟨(blk_cell (blk_bx (HB.out.trans hb') hg0 K3.out) 0).trans rfl, core_cells (blk_bx hb' HMI.out.isM k2), core_cells (blk_bx hb' HMI.out.isM k5), LiesL.lit0 (show LiesL w' (some p) 0 [k0] from LiesL.bx (HB.out.trans hb') hg0 hl.kids) (Below.refl _ _) (k := k0) rfl⟩)
 clear k3 k4 n3 n4 hg0 hl hok ih hb hm hN k2 k5 e2 b2 s2 hla hba hx hi
 go_enter Tryz.func67, Tryz.ntmps67
 go_wp2_with fail
 rw [HE.out]
 clear hlk x3 lt3 n30 n31
 have HCB := Lib.hid fun (w' : World) (hb : Below w2.heap.size w2 w') => HC.out w' (BX.of_below hb)
 obtain ⟨b, hbq⟩ : ∃ b, sameS f k0 = b := ⟨_, rfl⟩
 have HBQ := Lib.hid hbq
 clear hbq
 refine wp_region_held_drew (S := fun w' => Aside0 (Below w2.heap.size w2 w')) (by kernel_rfl) ?_ (fun hHeld => ?_)
 ·exact ⟨(Below.refl _ _).drew⟩
 generalize World.drew _ = wDa at hHeld ⊢
 have HCr := HCB
 refine' tk 0 ?_
 try simp only [pt]
 refine' tk 1 ?_
 try simp only [pt]
 refine' tk 2 ?_
 try simp only [pt]
 refine' tk 3 ?_
 try simp only [pt]
 refine' tk 4 ?_
 try simp only [pt]
 refine' tk 5 ?_
 try simp only [pt]
 refine' tk 6 ?_
 try simp only [pt]
 refine' cm 7 (fun K hK => ?_)
 go_simp
 refine (same_calls f k0 _ ((LF.out).below hHeld.out) ((LK.out.bx (HB.out.trans (BX.of_below hHeld.out)) HM0.out))).mono ?_
 rintro e w7 ⟨rfl, hb2⟩
 refine hK.out _ _ ⟨hHeld.out.trans (hb2.mono hHeld.out.size)⟩ (fun hHeld => ?_)
 clear hK K
 try simp only [pt]
 refine' tk 8 ?_
 try simp only [pt]
 refine' tk 9 ?_
 try simp only [pt]
 refine wpAnyH_done (by kernel_rfl) ?_ _
 rw [HBQ.out]
 cases b with
 | false =>
  go_wp2_with fail
  go_ret
  exact .inl ⟨by first | rfl | simp, by rw [memoS_eq]; show (match memo1 7 n [k0] h with | some h' => memoL [k0] h' | none => none) = none; unfold memo1; rw [if_pos rfl]; simp only [HX.out, HBQ.out]; rfl, HB.out.trans (BX.of_below hHeld.out)⟩
 | true =>
  have HM1 := Lib.hid (show memo1 7 n [k0] h = some (putH h n k0) by unfold memo1; rw [if_pos rfl]; simp only [HX.out, HBQ.out]; rfl)
  obtain ⟨x3, ⟨y0, y1, y2, y3⟩, -⟩ := HCB.out _ hHeld.out
  go_wp2_with fail
  clear x3 y0 y1 y2 y3
  have hMI := HMI.out.below hHeld.out.drew
  have hb5 := BX.of_below (g := gm) hHeld.out.drew
  clear hHeld
  refine wp_region_held_drew (S := fun w' => Aside0 (BX gm w2 w')) (by kernel_rfl) ?_ (fun hHeld => ?_)
  ·exact ⟨hb5⟩
  clear hb5
  generalize World.drew _ = wDb at hHeld hMI ⊢
  have HCr := HC
  refine' tk 0 ?_
  try simp only [pt]
  refine' tk 1 ?_
  try simp only [pt]
  refine' tk 2 ?_
  try simp only [pt]
  refine' tk 3 ?_
  try simp only [pt]
  refine' tk 4 ?_
  try simp only [pt]
  refine' tk 5 ?_
  try simp only [pt]
  refine' tk 6 ?_
  try simp only [pt]
  obtain ⟨wU, hrun, hmU, hbU⟩ := hMI.store HI.out (LK.out.bx (HB.out.trans hHeld.out) HM0.out) (by have := HN.out; omega)
  have HMU := Lib.hid hmU
  clear hmU hMI
  refine' cm 7 (fun K hK => ?_)
  go_simp
  refine hK.out _ _ ⟨hHeld.out.trans hbU⟩ (fun hHeld => ?_)
  clear hrun hbU
  clear hK K
  try simp only [pt]
  refine wpAnyH_done (by kernel_rfl) ?_ _
  have hZ := HC.out _ hHeld.out
  obtain ⟨x3, ⟨y0, y1, y2, y3⟩, -⟩ := hZ
  go_wp2_with fail
  have HZ := Lib.hid hHeld.out
  clear x3 y0 y1 y2 y3 hHeld
  refine (containsS_calls (g := 69) (lb := #[.pointer (some ⟨g4, 0, none⟩)]) (fun _ _ => rfl) (St := StM w0 gm [k0] (putH h n k0) (N + 1)) (Fin := FinM w0 gm [k0] (putH h n k0)) cap (fun i W hS => HL.out.bx hS.1 HM0.out) HBIG.out ⟨HB.out.trans HZ.out, (putH h n k0), by rw [List.take_zero, memoL], by rw [List.take_zero, totalL]; exact HMU.out⟩ (step_of K4.out N4.out HL.out HOK.out HIH.out (by have := HN.out; omega) (fun ka hc => memo11_calls ka hc))).mono ?_
  rintro e w9 (⟨rfl, hf⟩ | ⟨rfl, hf⟩)
  ·have HF := Lib.hid hf
   clear hf
   go_wp2_with fail
   go_ret
   exact .inl ⟨by first | rfl | simp, by rw [memoS_eq]; show (match memo1 7 n [k0] h with | some h' => memoL [k0] h' | none => none) = none; rw [HM1.out]; exact HF.out.2, HF.out.1⟩
  ·have HF := Lib.hid hf
   clear hf
   go_wp2_with fail
   go_ret
   obtain ⟨f1, h', f2, f3⟩ := HF.out
   rw [List.take_length] at f2 f3
   exact .inr ⟨by first | rfl | simp, h', by rw [memoS_eq]; show (match memo1 7 n [k0] h with | some h' => memoL [k0] h' | none => none) = _; rw [HM1.out]; exact f2, f1, by rw [← Nat.add_assoc]; exact f3⟩
end Go.Proofs.YtpljkcakijkklaaGreatDoor

end
section
namespace Go.Proofs.YtpljkcakijkklaaGreatDoor
set_option linter.unusedVariables false
set_option linter.unusedSimpArgs false
open Go.RowKit Go.Proofs.YtpljkcakijkklaaGreatDoorW.PrintWords Go.Proofs.YtpljkcakijkklaaGreatDoorW.PrintLast Go.Proofs.YtpljkcakijkklaaGreatDoorW.PrintMore

theorem addr_add0 (g k : Nat) : (⟨g, 0, none⟩ : Addr).add k = ⟨g, k, none⟩ := by
 cases k with
 | zero => rfl
 | succ k => simp [Addr.add]
def heldCells (h : Held) (x : Int) : List Value := match h x with | some c => c.cells | none => [.int .i64 0, .int .i64 0, .int .i64 0, .slice none 0 0]
structure HeldAt (w0 : World) (g : Nat) (h : Held) (W : World) : Prop where
 blk : ∃ cur : Array Value, W.heap[g]? = some (.cells cur 24 (0, 0)) ∧ cur.size = 1024 ∧ ∀ x j : Nat, x < 256 → j < 4 → cur[x * 4 + j]? = (heldCells h x)[j]?
 lies : ∀ x c, h x = some c → Lies w0 c ∧ ¬ c.op = 0
theorem HeldAt.lt {w0 W : World} {g : Nat} {h : Held} (m : HeldAt w0 g h W) : g < W.heap.size := by
 obtain ⟨cur, hk, -⟩ := m.blk
 exact blk_lt hk
theorem HeldAt.below {w0 W W' : World} {g : Nat} {h : Held} (m : HeldAt w0 g h W) (hb : Below W.heap.size W W') : HeldAt w0 g h W' := by
 obtain ⟨cur, hk, h2⟩ := m.blk
 exact ⟨⟨cur, blk_below hk hb, h2⟩, m.lies⟩
theorem HeldAt.at {w0 W : World} {g : Nat} {h : Held} (m : HeldAt w0 g h W) {ad : Addr} (had : ad = ⟨g, 0, none⟩) {x : Nat} (hx : x < 256) {u0 u1 u2 u3 : Value} (hc : heldCells h x = [u0, u1, u2, u3]) :
  (W.cell? (ad.add (x * 4)) = some u0 ∧ W.cell? ⟨(ad.add (x * 4)).block, (ad.add (x * 4)).off + 1, none⟩ = some u1 ∧ W.cell? ⟨(ad.add (x * 4)).block, (ad.add (x * 4)).off + 2, none⟩ = some u2 ∧ W.cell? ⟨(ad.add (x * 4)).block, (ad.add (x * 4)).off + 3, none⟩ = some u3) ∧
  (W.frozen? (ad.add (x * 4)) = false ∧ W.frozen? ⟨(ad.add (x * 4)).block, (ad.add (x * 4)).off + 1, none⟩ = false ∧ W.frozen? ⟨(ad.add (x * 4)).block, (ad.add (x * 4)).off + 2, none⟩ = false ∧ W.frozen? ⟨(ad.add (x * 4)).block, (ad.add (x * 4)).off + 3, none⟩ = false) := by
 obtain ⟨cur, hk, hs, hcell⟩ := m.blk
 subst had
 rw [addr_add0]
 have f (j : Nat) (hj : j < 4) : W.cell? ⟨g, x * 4 + j, none⟩ = [u0, u1, u2, u3][j]? := by
  rw [blk_cell hk (x * 4 + j), ← hc]
  exact hcell x j hx hj
 exact ⟨⟨f 0 (by decide), f 1 (by decide), f 2 (by decide), f 3 (by decide)⟩, blk_frozen hk _, blk_frozen hk _, blk_frozen hk _, blk_frozen hk _⟩
theorem sets_next {W : World} {A : Addr} {u1 u2 u3 : Value} (h1 : W.cell? ⟨A.block, A.off + 1, none⟩ = some u1) (h2 : W.cell? ⟨A.block, A.off + 2, none⟩ = some u2) (h3 : W.cell? ⟨A.block, A.off + 3, none⟩ = some u3) :
  (∀ v, (W.setCell A v).cell? ⟨A.block, A.off + 1, none⟩ = some u1) ∧ (∀ v v', ((W.setCell A v).setCell ⟨A.block, A.off + 1, none⟩ v').cell? ⟨A.block, A.off + 2, none⟩ = some u2) ∧
  (∀ v v' v'', (((W.setCell A v).setCell ⟨A.block, A.off + 1, none⟩ v').setCell ⟨A.block, A.off + 2, none⟩ v'').cell? ⟨A.block, A.off + 3, none⟩ = some u3) := by
 have n (a : Addr) (j : Nat) (hj : a.off ≠ A.off + j) : a ≠ ⟨A.block, A.off + j, none⟩ := fun e => hj (by rw [e])
 refine ⟨fun v => ?_, fun v v' => ?_, fun v v' v'' => ?_⟩
 ·rw [World.cell?_setCell_other _ _ _ _ (n A 1 (by omega))]
  exact h1
 ·rw [World.cell?_setCell_other _ _ _ _ (n ⟨A.block, A.off + 1, none⟩ 2 (by simp)), World.cell?_setCell_other _ _ _ _ (n A 2 (by omega))]
  exact h2
 ·rw [World.cell?_setCell_other _ _ _ _ (n ⟨A.block, A.off + 2, none⟩ 3 (by simp)), World.cell?_setCell_other _ _ _ _ (n ⟨A.block, A.off + 1, none⟩ 3 (by simp)), World.cell?_setCell_other _ _ _ _ (n A 3 (by omega))]
  exact h3
theorem HeldAt.put {w0 W : World} {g : Nat} {h : Held} (m : HeldAt w0 g h W) {ad : Addr} (had : ad = ⟨g, 0, none⟩) {x : Nat} (hx : x < 256) {c : Cr} (hl : Lies w0 c) (h0 : ¬ c.op = 0) :
  HeldAt w0 g (putH h x c) ((((W.setCell (ad.add (x * 4)) (.int .i64 c.op)).setCell ⟨(ad.add (x * 4)).block, (ad.add (x * 4)).off + 1, none⟩ (.int .i64 c.n)).setCell ⟨(ad.add (x * 4)).block, (ad.add (x * 4)).off + 2, none⟩ (.int .i64 c.m)).setCell ⟨(ad.add (x * 4)).block, (ad.add (x * 4)).off + 3, none⟩ (.slice c.at_ c.kids.length c.cap)) ∧
  BX g W ((((W.setCell (ad.add (x * 4)) (.int .i64 c.op)).setCell ⟨(ad.add (x * 4)).block, (ad.add (x * 4)).off + 1, none⟩ (.int .i64 c.n)).setCell ⟨(ad.add (x * 4)).block, (ad.add (x * 4)).off + 2, none⟩ (.int .i64 c.m)).setCell ⟨(ad.add (x * 4)).block, (ad.add (x * 4)).off + 3, none⟩ (.slice c.at_ c.kids.length c.cap)) := by
 obtain ⟨cur, hk, hs, hcell⟩ := m.blk
 subst had
 rw [addr_add0]
 refine ⟨⟨⟨_, blk_set (blk_set (blk_set (blk_set hk (x * 4) _) (x * 4 + 1) _) (x * 4 + 2) _) (x * 4 + 3) _, by simp [hs], fun y j hy hj => ?_⟩, fun y d hd => ?_⟩, ?_⟩
 ·by_cases e : y = x
  ·subst e
   have e2 : heldCells (putH h y c) y = c.cells := by
    unfold heldCells putH
    rw [if_pos rfl]
   rw [e2]
   have hj' : j = 0 ∨ j = 1 ∨ j = 2 ∨ j = 3 := by omega
   rcases hj' with rfl | rfl | rfl | rfl
   ·rw [Array.getElem?_setIfInBounds, if_neg (by omega), Array.getElem?_setIfInBounds, if_neg (by omega), Array.getElem?_setIfInBounds, if_neg (by omega), Array.getElem?_setIfInBounds, if_pos (by omega), if_pos (by omega)]
    rfl
   ·rw [Array.getElem?_setIfInBounds, if_neg (by omega), Array.getElem?_setIfInBounds, if_neg (by omega), Array.getElem?_setIfInBounds, if_pos rfl, if_pos (by simp; omega)]
    rfl
   ·rw [Array.getElem?_setIfInBounds, if_neg (by omega), Array.getElem?_setIfInBounds, if_pos rfl, if_pos (by simp; omega)]
    rfl
   ·rw [Array.getElem?_setIfInBounds, if_pos rfl, if_pos (by simp; omega)]
    rfl
  ·have e2 : heldCells (putH h x c) y = heldCells h y := by
    unfold heldCells putH
    rw [if_neg (by omega)]
   rw [e2, Array.getElem?_setIfInBounds, if_neg (by omega), Array.getElem?_setIfInBounds, if_neg (by omega), Array.getElem?_setIfInBounds, if_neg (by omega), Array.getElem?_setIfInBounds, if_neg (by omega)]
   exact hcell y j hy hj
 ·unfold putH at hd
  by_cases e : y = (x : Int)
  ·rw [if_pos e] at hd
   injection hd with hd
   subst hd
   exact ⟨hl, h0⟩
  ·rw [if_neg e] at hd
   exact m.lies y d hd
 ·have st (a : World) (p : Addr) (u : Value) (hp : p.block = g) : BX g a (a.setCell p u) :=
   ⟨rfl, rfl, rfl, by simp, fun k _ hk => Below.heap_setCell a p u k (by rw [hp]; exact hk)⟩
  exact ((st _ _ _ rfl).trans (st _ _ _ rfl)).trans ((st _ _ _ rfl).trans (st _ _ _ rfl))
end Go.Proofs.YtpljkcakijkklaaGreatDoor

end
section
namespace Go.Proofs.YtpljkcakijkklaaGreatDoor
set_option linter.unusedVariables false
set_option linter.unusedSimpArgs false
open Go.RowKit Go.Proofs.YtpljkcakijkklaaGreatDoorW.PrintWords Go.Proofs.YtpljkcakijkklaaGreatDoorW.PrintLast Go.Proofs.YtpljkcakijkklaaGreatDoorW.PrintMore

def PostM (w0 W : World) (gh : Nat) (c : Cr) (h : Held) (e : Ending) (w' : World) : Prop := (e = .returned (.bool false) ∧ memoS c h = none ∧ BX gh W w') ∨ (e = .returned (.bool true) ∧ ∃ h', memoS c h = some h' ∧ BX gh W w' ∧ HeldAt w0 gh h' w')
def RWalkC (w0 : World) (gh : Nat) (ad : Addr) (c : Cr) : Prop := MOk c → ∀ (h : Held) (W : World), Below w0.heap.size w0 W → HeldAt w0 gh h W → Calls Tryz.prog 41 #[.agg #[.int .i64 c.op, .int .i64 c.n, .int .i64 c.m, .slice c.at_ c.kids.length c.cap], .slice (some ad) 256 256] W fun e w' => PostM w0 W gh c h e w'
theorem rwalk_plain {op n m : Int} {at_ : Option Addr} {cap : Nat} {l : List Cr} {w0 W : World} {gh : Nat} {ad : Addr} {h : Held} (had : ad = ⟨gh, 0, none⟩) (hgh : w0.heap.size ≤ gh) (hl : Lies w0 (.node op n m at_ cap l)) (hok : MOkL l) (ih : ∀ k ∈ l, RWalkC w0 gh ad k) (hb : Below w0.heap.size w0 W) (hm : HeldAt w0 gh h W) (h7 : ¬ op = 7) :
  Calls Tryz.prog 41 #[.agg #[.int .i64 op, .int .i64 n, .int .i64 m, .slice at_ l.length cap], .slice (some ad) 256 256] W fun e w' => PostM w0 W gh (.node op n m at_ cap l) h e w' := by
 have HAD := Lib.hid had
 have HGH := Lib.hid hgh
 have HL := Lib.hid (show LiesL w0 at_ 0 l from hl.kids)
 have HOK := Lib.hid hok
 have HIH := Lib.hid ih
 have HBIG := Lib.hid (show l.length ≤ 4398046511104 by have := hl.room; simp only [Cr.kids_node, Cr.cap_node] at this; omega)
 have HM1 := Lib.hid (show memo1 op n l h = some h by unfold memo1; rw [if_neg h7])
 obtain ⟨wX, e1, b1, k1, s1⟩ := box1 W (.cells #[.int .i64 op, .int .i64 n, .int .i64 m, .slice at_ l.length cap] 24)
 have HE := Lib.hid e1
 have X1 := Lib.hid (BX.of_below (g := gh) b1)
 have XM := Lib.hid (hm.below b1)
 have XB := Lib.hid (hb.trans (b1.mono hb.size))
 obtain ⟨gB, hgB⟩ : ∃ g, W.heap.size = g := ⟨_, rfl⟩
 have HGB := Lib.hid hgB
 rw [hgB] at k1
 have XK := Lib.hid k1
 have XN := Lib.hid (show gB ≠ gh by have := hm.lt; omega)
 have p7 : (op == 7) = false := by simpa using h7
 clear had hgh hl hok ih hb hm h7 k1 e1 b1 s1 hgB
 go_enter Tryz.func41, Tryz.ntmps41
 go_wp2_with fail
 rw [HE.out, HGB.out]
 go_loopg [5] l.length (fun gg v5 wr => ∃ (i : Nat) (h' : Held), v5 = .int .i64 i ∧ Aside0 (i + gg = l.length) ∧ Aside0 (memoL (l.take i) h = some h') ∧ Aside0 (HeldAt w0 gh h' wr) ∧ Aside0 (BX gh wX wr))
 case atStart => exact ⟨0, h, rfl, ⟨by omega⟩, ⟨by rw [List.take_zero]; exact memoL_nil _⟩, ⟨XM.out⟩, ⟨BX.refl _ _⟩⟩
 case round =>
  obtain ⟨i, h', rfl, hi, hh, hm, hb⟩ := hrel
  have HI := Lib.hid hi.out
  have HH := Lib.hid hh.out
  have HM := Lib.hid hm.out
  have HB := Lib.hid hb.out
  clear hi hh hm hb
  have hbox : wr.heap[gB]? = some (.cells #[.int .i64 op, .int .i64 n, .int .i64 m, .slice at_ l.length cap] 24 (0, 0)) := by rw [HB.out.block gB (blk_lt XK.out) XN.out]; exact XK.out
  obtain ⟨y0, y1, y2, y3⟩ := core_cells hbox
  have HBW := Lib.hid (XB.out.trans (HB.out.below HGH.out XB.out.size))
  clear hbox
  by_cases hlt : i < l.length
  ·obtain ⟨y, hy⟩ : ∃ y, l[i]? = some y := ⟨_, List.getElem?_eq_getElem (by simpa using hlt)⟩
   obtain ⟨b, hbe, hblk, c0, c1, c2, c3⟩ := HL.out.cellsB HBW.out hy
   have HY := Lib.hid hy
   have q0 := eq_true (show (0 : Int) ≤ (i : Int) by omega)
   have q1 : ((i : Int) < (l.length : Int)) = True := eq_true (by omega)
   have q2 : (i < l.length) = True := eq_true hlt
   have w5 : wrap64 ((i : Int) + 1) = ((i + 1 : Nat) : Int) := by have := HBIG.out; unfold wrap64; omega
   have hcall := HIH.out y (List.mem_of_getElem? hy) (HOK.out.mem (List.mem_of_getElem? hy)) h' _ HBW.out HM.out
   have HC := Lib.hid hcall
   have HLT := Lib.hid hlt
   first | (injection hbe with hbe; subst hbe) | subst hbe
   clear hy hcall hlt hblk
   go_wp2_with fail
   refine HC.out.mono ?_
   rintro e w7 (⟨rfl, hf, hx⟩ | ⟨rfl, h2, hf, hx, hm2⟩)
   ·have HF := Lib.hid hf
    have HX := Lib.hid hx
    clear hf hx w5 c0 c1 c2 c3 y0 y1 y2 y3
    go_wp2_with fail
    go_ret
    exact .inl ⟨by first | rfl | simp, by rw [memoS_eq]; show (match memo1 op n l h with | some h' => memoL l h' | none => none) = none; rw [HM1.out]; exact memoL_fail (i := i + 1) z14_0, X1.out.trans (HB.out.trans HX.out)⟩
   ·have HF := Lib.hid hf
    have HX := Lib.hid hx
    have HM2 := Lib.hid hm2
    clear hf hx hm2 c0 c1 c2 c3 y0 y1 y2 y3
    go_wp2_with fail
    go_roundg (gk - 1)
    case measure => clear w5; have := HI.out; have := HLT.out; omega
    case rel => exact ⟨i + 1, h2, by first | rfl | simp [w5], ⟨by clear w5; have := HI.out; have := HLT.out; omega⟩, ⟨by rw [memoL_take HY.out HH.out]; exact HF.out⟩, ⟨HM2.out⟩, ⟨HB.out.trans HX.out⟩⟩
  ·have q1 : ((i : Int) < (l.length : Int)) = False := eq_false (by omega)
   have q2 : (i < l.length) = False := eq_false hlt
   have hie : i = l.length := by have := HI.out; omega
   have hfin := HH.out
   rw [hie] at hfin
   rw [List.take_of_length_le (by simp)] at hfin
   have HFIN := Lib.hid hfin
   clear hlt hie hfin
   go_wp2_with fail
   go_ret
   exact .inr ⟨by first | rfl | simp, h', by rw [memoS_eq]; show (match memo1 op n l h with | some h' => memoL l h' | none => none) = _; rw [HM1.out]; exact HFIN.out, X1.out.trans HB.out, HM.out⟩
theorem rwalk_new {k0 : Cr} {n m : Int} {at_ : Option Addr} {cap : Nat} {l : List Cr} {w0 W : World} {gh : Nat} {ad : Addr} {h : Held} (had : ad = ⟨gh, 0, none⟩) (hgh : w0.heap.size ≤ gh) (hl : Lies w0 (.node 7 n m at_ cap l)) (hok : MOkL l) (ih : ∀ k ∈ l, RWalkC w0 gh ad k) (hb : Below w0.heap.size w0 W) (hm : HeldAt w0 gh h W) (hk : l = [k0]) (hx : h n = none) (hn : 0 ≤ n ∧ n < 256) (hz : ¬ k0.op = 0) :
  Calls Tryz.prog 41 #[.agg #[.int .i64 7, .int .i64 n, .int .i64 m, .slice at_ l.length cap], .slice (some ad) 256 256] W fun e w' => PostM w0 W gh (.node 7 n m at_ cap l) h e w' := by
 subst hk
 obtain ⟨x, rfl⟩ := Int.eq_ofNat_of_zero_le hn.1
 have hx2 : x < 256 := by have := hn.2; omega
 have HAD := Lib.hid had
 have HGH := Lib.hid hgh
 have HL := Lib.hid (show LiesL w0 at_ 0 [k0] from hl.kids)
 have HOK := Lib.hid hok
 have HIH := Lib.hid ih
 have HBIG := Lib.hid (show (1 : Nat) ≤ 4398046511104 by decide)
 obtain ⟨p, rfl⟩ : ∃ p, at_ = some p := by
  obtain ⟨b, hb, -⟩ := hl.kids.cells (i := 0) (k := k0) rfl
  exact ⟨b, hb⟩
 obtain ⟨w1, e1, b1, k1, s1⟩ := box1 W (.cells #[.int .i64 7, .int .i64 (x : Int), .int .i64 m, .slice (some p) 1 cap] 24)
 have HE := Lib.hid e1
 have B1 := Lib.hid b1
 have HX := Lib.hid hx
 have HX2 := Lib.hid hx2
 have HZ := Lib.hid hz
 have hcl : heldCells h (x : Int) = [.int .i64 0, .int .i64 0, .int .i64 0, .slice none 0 0] := by unfold heldCells; rw [hx]; try rfl
 have HCL := Lib.hid hcl
 have HMI := Lib.hid (hm.below b1)
 have XB0 := Lib.hid (hb.trans (b1.mono hb.size))
 have LK := Lib.hid (hl.kid (k := k0) (by simp))
 obtain ⟨gB, hgB⟩ : ∃ g, W.heap.size = g := ⟨_, rfl⟩
 have HGB := Lib.hid hgB
 rw [hgB] at k1
 have XK0 := Lib.hid k1
 have XN := Lib.hid (show gB ≠ gh by have := hm.lt; omega)
 have HC := Lib.hid fun (w' : World) (hb' : BX gh w1 w') => (show (w'.cell? ⟨gB, 0, none⟩ = some (.int .i64 7) ∧ w'.cell? ⟨gB, 1, none⟩ = some (.int .i64 (x : Int)) ∧ w'.cell? ⟨gB, 2, none⟩ = some (.int .i64 m) ∧ w'.cell? ⟨gB, 3, none⟩ = some (.slice (some p) 1 cap)) ∧
   (w'.cell? p = some (.int .i64 k0.op) ∧ w'.cell? ⟨p.block, p.off + 1, none⟩ = some (.int .i64 k0.n) ∧ w'.cell? ⟨p.block, p.off + 2, none⟩ = some (.int .i64 k0.m) ∧ w'.cell? ⟨p.block, p.off + 3, none⟩ = some (.slice k0.at_ k0.kids.length k0.cap)) from
  ⟨core_cells (show w'.heap[gB]? = _ by rw [hb'.block gB (blk_lt XK0.out) XN.out]; exact XK0.out), LiesL.lit0 (show LiesL w0 (some p) 0 [k0] from hl.kids) (XB0.out.trans (hb'.below HGH.out XB0.out.size)) (k := k0) rfl⟩)
 have HC2 := Lib.hid fun (w' : World) (hb' : Below w1.heap.size w1 w') => And.intro ((HMI.out.below hb').at HAD.out HX2.out HCL.out).1 (HC.out w' (BX.of_below hb'))
 have q0 := eq_true (show (0 : Int) ≤ (x : Int) by omega)
 have q1 : ((x : Int) < 256) = True := eq_true (by omega)
 have q2 : (x < 256) = True := eq_true hx2
 clear had hgh hl hok ih hb hm hx hz hcl k1 e1 b1 s1 hgB hn hx2
 go_enter Tryz.func41, Tryz.ntmps41
 go_wp2_with fail
 rw [HE.out, HGB.out]
 have HM1 := Lib.hid (show memo1 7 (x : Int) [k0] h = some (putH h (x : Int) k0) by unfold memo1; rw [if_pos rfl]; simp only [HX.out])
 refine wp_region_held_drew (S := fun w' => Aside0 (Below w1.heap.size w1 w')) (by kernel_rfl) ?_ (fun hHeld => ?_)
 ·exact ⟨(Below.refl _ _).drew⟩
 generalize World.drew _ = wDa at hHeld ⊢
 have HCr := HC2
 refine' tk 0 ?_
 try simp only [pt]
 refine' tk 1 ?_
 try simp only [pt]
 refine' tk 2 ?_
 try simp only [pt]
 refine' tk 3 ?_
 try simp only [pt]
 refine' tk 4 ?_
 try simp only [pt]
 refine' tk 5 ?_
 try simp only [pt]
 refine' tk 6 ?_
 try simp only [pt]
 refine' tk 7 ?_
 try simp only [pt]
 refine' tn 8 ?_
 try simp only [pt]
 refine' tn 9 ?_
 try simp only [pt]
 refine' tn 10 ?_
 try simp only [pt]
 refine' tn 11 ?_
 try simp only [pt]
 refine' tn 12 ?_
 try simp only [pt]
 refine' tn 13 ?_
 try simp only [pt]
 refine' tn 14 ?_
 try simp only [pt]
 refine' tn 15 ?_
 try simp only [pt]
 refine' tn 16 ?_
 try simp only [pt]
 refine' tn 17 ?_
 try simp only [pt]
 refine' tn 18 ?_
 try simp only [pt]
 refine' tk 19 ?_
 try simp only [pt]
 refine wpAnyH_done (by kernel_rfl) ?_ _
 obtain ⟨-, ⟨y0, y1, y2, y3⟩, -⟩ := HC2.out _ hHeld.out
 go_wp2_with fail
 clear y0 y1 y2 y3
 have hMI := HMI.out.below hHeld.out.drew
 have hb5 := BX.of_below (g := gh) hHeld.out.drew
 clear hHeld
 refine wp_region_held_drew (S := fun w' => Aside0 (BX gh w1 w')) (by kernel_rfl) ?_ (fun hHeld => ?_)
 ·exact ⟨hb5⟩
 clear hb5
 generalize World.drew _ = wDb at hHeld hMI ⊢
 have HCr := HC
 refine' tk 0 ?_
 try simp only [pt]
 refine' tk 1 ?_
 try simp only [pt]
 refine' tk 2 ?_
 try simp only [pt]
 refine' tk 3 ?_
 try simp only [pt]
 refine' tk 4 ?_
 try simp only [pt]
 refine' tk 5 ?_
 try simp only [pt]
 refine' tk 6 ?_
 try simp only [pt]
 refine' tk 7 ?_
 try simp only [pt]
 obtain ⟨⟨d0, d1, d2, d3⟩, f0, f1, f2, f3⟩ := hMI.at HAD.out HX2.out HCL.out
 obtain ⟨s1, s2, s3⟩ := sets_next d1 d2 d3
 obtain ⟨hput, hbx⟩ := hMI.put HAD.out HX2.out LK.out HZ.out
 have HPUT := Lib.hid hput
 have HBX := Lib.hid hbx
 clear hput hbx hMI
 refine' cm 8 (fun K hK => ?_)
 go_simp
 refine hK.out _ _ ⟨hHeld.out.trans HBX.out⟩ (fun hHeld => ?_)
 clear d0 d1 d2 d3 f0 f1 f2 f3 s1 s2 s3
 clear hK K
 try simp only [pt]
 refine wpAnyH_done (by kernel_rfl) ?_ _
 have hx1 := hHeld.out
 have hpm := HPUT.out
 clear hHeld HBX HPUT
 generalize World.setCell _ _ _ = wX at hx1 hpm ⊢
 have X1 := Lib.hid ((BX.of_below (g := gh) B1.out).trans hx1)
 have XM := Lib.hid hpm
 have XB := Lib.hid (XB0.out.trans (hx1.below HGH.out XB0.out.size))
 have XK := Lib.hid ((hx1.block gB (blk_lt XK0.out) XN.out).trans XK0.out)
 clear hx1 hpm
 go_wp2_with fail
 try rw [HGB.out]
 go_loopg [5] 1 (fun gg v5 wr => ∃ (i : Nat) (h' : Held), v5 = .int .i64 i ∧ Aside0 (i + gg = 1) ∧ Aside0 (memoL ([k0].take i) (putH h (x : Int) k0) = some h') ∧ Aside0 (HeldAt w0 gh h' wr) ∧ Aside0 (BX gh wX wr))
 case atStart => exact ⟨0, putH h (x : Int) k0, rfl, ⟨by omega⟩, ⟨by rw [List.take_zero]; exact memoL_nil _⟩, ⟨XM.out⟩, ⟨BX.refl _ _⟩⟩
 case round =>
  obtain ⟨i, h', rfl, hi, hh, hm, hb⟩ := hrel
  have HI := Lib.hid hi.out
  have HH := Lib.hid hh.out
  have HM := Lib.hid hm.out
  have HB := Lib.hid hb.out
  clear hi hh hm hb
  have hbox : wr.heap[gB]? = some (.cells #[.int .i64 7, .int .i64 (x : Int), .int .i64 m, .slice (some p) 1 cap] 24 (0, 0)) := by rw [HB.out.block gB (blk_lt XK.out) XN.out]; exact XK.out
  obtain ⟨y0, y1, y2, y3⟩ := core_cells hbox
  have HBW := Lib.hid (XB.out.trans (HB.out.below HGH.out XB.out.size))
  clear hbox
  by_cases hlt : i < 1
  ·obtain ⟨y, hy⟩ : ∃ y, [k0][i]? = some y := ⟨_, List.getElem?_eq_getElem (by simpa using hlt)⟩
   obtain ⟨b, hbe, hblk, c0, c1, c2, c3⟩ := HL.out.cellsB HBW.out hy
   have HY := Lib.hid hy
   have q0 := eq_true (show (0 : Int) ≤ (i : Int) by omega)
   have q1 : ((i : Int) < 1) = True := eq_true (by omega)
   have q2 : (i < 1) = True := eq_true hlt
   have w5 : wrap64 ((i : Int) + 1) = ((i + 1 : Nat) : Int) := by have := HBIG.out; unfold wrap64; omega
   have hcall := HIH.out y (List.mem_of_getElem? hy) (HOK.out.mem (List.mem_of_getElem? hy)) h' _ HBW.out HM.out
   have HC := Lib.hid hcall
   have HLT := Lib.hid hlt
   first | (injection hbe with hbe; subst hbe) | subst hbe
   clear hy hcall hlt hblk
   go_wp2_with fail
   refine HC.out.mono ?_
   rintro e w7 (⟨rfl, hf, hx⟩ | ⟨rfl, h2, hf, hx, hm2⟩)
   ·have HF := Lib.hid hf
    have HX := Lib.hid hx
    clear hf hx w5 c0 c1 c2 c3 y0 y1 y2 y3
    go_wp2_with fail
    go_ret
    exact .inl ⟨by first | rfl | simp, by rw [memoS_eq]; show (match memo1 7 (x : Int) [k0] h with | some h' => memoL [k0] h' | none => none) = none; rw [HM1.out]; exact memoL_fail (i := i + 1) z14_0, X1.out.trans (HB.out.trans HX.out)⟩
   ·have HF := Lib.hid hf
    have HX := Lib.hid hx
    have HM2 := Lib.hid hm2
    clear hf hx hm2 c0 c1 c2 c3 y0 y1 y2 y3
    go_wp2_with fail
    go_roundg (gk - 1)
    case measure => clear w5; have := HI.out; have := HLT.out; omega
    case rel => exact ⟨i + 1, h2, by first | rfl | simp [w5], ⟨by clear w5; have := HI.out; have := HLT.out; omega⟩, ⟨by rw [memoL_take HY.out HH.out]; exact HF.out⟩, ⟨HM2.out⟩, ⟨HB.out.trans HX.out⟩⟩
  ·have q1 : ((i : Int) < 1) = False := eq_false (by omega)
   have q2 : (i < 1) = False := eq_false hlt
   have hie : i = 1 := by have := HI.out; omega
   have hfin := HH.out
   rw [hie] at hfin
   rw [List.take_of_length_le (by simp)] at hfin
   have HFIN := Lib.hid hfin
   clear hlt hie hfin
   go_wp2_with fail
   go_ret
   exact .inr ⟨by first | rfl | simp, h', by rw [memoS_eq]; show (match memo1 7 (x : Int) [k0] h with | some h' => memoL [k0] h' | none => none) = _; rw [HM1.out]; exact HFIN.out, X1.out.trans HB.out, HM.out⟩
theorem rwalk_old {k0 f : Cr} {n m : Int} {at_ : Option Addr} {cap : Nat} {l : List Cr} {w0 W : World} {gh : Nat} {ad : Addr} {h : Held} (had : ad = ⟨gh, 0, none⟩) (hgh : w0.heap.size ≤ gh) (hl : Lies w0 (.node 7 n m at_ cap l)) (hok : MOkL l) (ih : ∀ k ∈ l, RWalkC w0 gh ad k) (hb : Below w0.heap.size w0 W) (hm : HeldAt w0 gh h W) (hk : l = [k0]) (hx : h n = some f) (hn : 0 ≤ n ∧ n < 256) (hz : ¬ k0.op = 0) :
  Calls Tryz.prog 41 #[.agg #[.int .i64 7, .int .i64 n, .int .i64 m, .slice at_ l.length cap], .slice (some ad) 256 256] W fun e w' => PostM w0 W gh (.node 7 n m at_ cap l) h e w' := by
 subst hk
 obtain ⟨x, rfl⟩ := Int.eq_ofNat_of_zero_le hn.1
 have hx2 : x < 256 := by have := hn.2; omega
 have HAD := Lib.hid had
 have HGH := Lib.hid hgh
 have HL := Lib.hid (show LiesL w0 at_ 0 [k0] from hl.kids)
 have HOK := Lib.hid hok
 have HIH := Lib.hid ih
 have HBIG := Lib.hid (show (1 : Nat) ≤ 4398046511104 by decide)
 obtain ⟨p, rfl⟩ : ∃ p, at_ = some p := by
  obtain ⟨b, hb, -⟩ := hl.kids.cells (i := 0) (k := k0) rfl
  exact ⟨b, hb⟩
 obtain ⟨w1, e1, b1, k1, s1⟩ := box1 W (.cells #[.int .i64 7, .int .i64 (x : Int), .int .i64 m, .slice (some p) 1 cap] 24)
 have HE := Lib.hid e1
 have B1 := Lib.hid b1
 have HX := Lib.hid hx
 have HX2 := Lib.hid hx2
 have HZ := Lib.hid hz
 have hcl : heldCells h (x : Int) = [.int .i64 f.op, .int .i64 f.n, .int .i64 f.m, .slice f.at_ f.kids.length f.cap] := by unfold heldCells; rw [hx]; try rfl
 have HCL := Lib.hid hcl
 have HMI := Lib.hid (hm.below b1)
 have XB0 := Lib.hid (hb.trans (b1.mono hb.size))
 have LK := Lib.hid (hl.kid (k := k0) (by simp))
 obtain ⟨gB, hgB⟩ : ∃ g, W.heap.size = g := ⟨_, rfl⟩
 have HGB := Lib.hid hgB
 rw [hgB] at k1
 have XK0 := Lib.hid k1
 have XN := Lib.hid (show gB ≠ gh by have := hm.lt; omega)
 have LF := Lib.hid (hm.lies _ f hx)
 have z0 : (f.op != 0) = true := by simpa using (hm.lies _ f hx).2
 have z1 : (f.op == 0) = false := by simpa using (hm.lies _ f hx).2
 have HC := Lib.hid fun (w' : World) (hb' : BX gh w1 w') => (show (w'.cell? ⟨gB, 0, none⟩ = some (.int .i64 7) ∧ w'.cell? ⟨gB, 1, none⟩ = some (.int .i64 (x : Int)) ∧ w'.cell? ⟨gB, 2, none⟩ = some (.int .i64 m) ∧ w'.cell? ⟨gB, 3, none⟩ = some (.slice (some p) 1 cap)) ∧
   (w'.cell? p = some (.int .i64 k0.op) ∧ w'.cell? ⟨p.block, p.off + 1, none⟩ = some (.int .i64 k0.n) ∧ w'.cell? ⟨p.block, p.off + 2, none⟩ = some (.int .i64 k0.m) ∧ w'.cell? ⟨p.block, p.off + 3, none⟩ = some (.slice k0.at_ k0.kids.length k0.cap)) from
  ⟨core_cells (show w'.heap[gB]? = _ by rw [hb'.block gB (blk_lt XK0.out) XN.out]; exact XK0.out), LiesL.lit0 (show LiesL w0 (some p) 0 [k0] from hl.kids) (XB0.out.trans (hb'.below HGH.out XB0.out.size)) (k := k0) rfl⟩)
 have HC2 := Lib.hid fun (w' : World) (hb' : Below w1.heap.size w1 w') => And.intro ((HMI.out.below hb').at HAD.out HX2.out HCL.out).1 (HC.out w' (BX.of_below hb'))
 have q0 := eq_true (show (0 : Int) ≤ (x : Int) by omega)
 have q1 : ((x : Int) < 256) = True := eq_true (by omega)
 have q2 : (x < 256) = True := eq_true hx2
 clear had hgh hl hok ih hb hm hx hz hcl k1 e1 b1 s1 hgB hn hx2
 go_enter Tryz.func41, Tryz.ntmps41
 go_wp2_with fail
 rw [HE.out, HGB.out]
 obtain ⟨b, hbq⟩ : ∃ b, sameS f k0 = b := ⟨_, rfl⟩
 have HBQ := Lib.hid hbq
 clear hbq
 refine wp_region_held_drew (S := fun w' => Aside0 (Below w1.heap.size w1 w')) (by kernel_rfl) ?_ (fun hHeld => ?_)
 ·exact ⟨(Below.refl _ _).drew⟩
 generalize World.drew _ = wDa at hHeld ⊢
 have HCr := HC2
 refine' tk 0 ?_
 try simp only [pt]
 refine' tk 1 ?_
 try simp only [pt]
 refine' tk 2 ?_
 try simp only [pt]
 refine' tk 3 ?_
 try simp only [pt]
 refine' tk 4 ?_
 try simp only [pt]
 refine' tk 5 ?_
 try simp only [pt]
 refine' tk 6 ?_
 try simp only [pt]
 refine' tk 7 ?_
 try simp only [pt]
 refine' tk 8 ?_
 try simp only [pt]
 refine' tk 9 ?_
 try simp only [pt]
 refine' tk 10 ?_
 try simp only [pt]
 refine' tk 11 ?_
 try simp only [pt]
 refine' tk 12 ?_
 try simp only [pt]
 refine' tk 13 ?_
 try simp only [pt]
 refine' tk 14 ?_
 try simp only [pt]
 refine' tk 15 ?_
 try simp only [pt]
 refine' tk 16 ?_
 try simp only [pt]
 refine' cm 17 (fun K hK => ?_)
 go_simp
 refine (rsame_calls f k0 _ (LF.out.1.below (XB0.out.trans (hHeld.out.mono XB0.out.size))) (LK.out.below (XB0.out.trans (hHeld.out.mono XB0.out.size)))).mono ?_
 rintro e w7 ⟨rfl, hb2⟩
 refine hK.out _ _ ⟨hHeld.out.trans (hb2.mono hHeld.out.size)⟩ (fun hHeld => ?_)
 clear hK K
 try simp only [pt]
 refine' tk 18 ?_
 try simp only [pt]
 refine' tk 19 ?_
 try simp only [pt]
 refine wpAnyH_done (by kernel_rfl) ?_ _
 rw [HBQ.out]
 cases b with
 | false =>
  go_wp2_with fail
  go_ret
  exact .inl ⟨by first | rfl | simp, by rw [memoS_eq]; show (match memo1 7 (x : Int) [k0] h with | some h' => memoL [k0] h' | none => none) = none; unfold memo1; rw [if_pos rfl]; simp only [HX.out, HBQ.out]; rfl, (BX.of_below B1.out).trans (BX.of_below hHeld.out)⟩
 | true =>
  have HM1 := Lib.hid (show memo1 7 (x : Int) [k0] h = some (putH h (x : Int) k0) by unfold memo1; rw [if_pos rfl]; simp only [HX.out, HBQ.out]; rfl)
  obtain ⟨-, ⟨y0, y1, y2, y3⟩, -⟩ := HC2.out _ hHeld.out
  go_wp2_with fail
  clear y0 y1 y2 y3
  have hMI := HMI.out.below hHeld.out.drew
  have hb5 := BX.of_below (g := gh) hHeld.out.drew
  clear hHeld
  refine wp_region_held_drew (S := fun w' => Aside0 (BX gh w1 w')) (by kernel_rfl) ?_ (fun hHeld => ?_)
  ·exact ⟨hb5⟩
  clear hb5
  generalize World.drew _ = wDb at hHeld hMI ⊢
  have HCr := HC
  refine' tk 0 ?_
  try simp only [pt]
  refine' tk 1 ?_
  try simp only [pt]
  refine' tk 2 ?_
  try simp only [pt]
  refine' tk 3 ?_
  try simp only [pt]
  refine' tk 4 ?_
  try simp only [pt]
  refine' tk 5 ?_
  try simp only [pt]
  refine' tk 6 ?_
  try simp only [pt]
  refine' tk 7 ?_
  try simp only [pt]
  obtain ⟨⟨d0, d1, d2, d3⟩, f0, f1, f2, f3⟩ := hMI.at HAD.out HX2.out HCL.out
  obtain ⟨s1, s2, s3⟩ := sets_next d1 d2 d3
  obtain ⟨hput, hbx⟩ := hMI.put HAD.out HX2.out LK.out HZ.out
  have HPUT := Lib.hid hput
  have HBX := Lib.hid hbx
  clear hput hbx hMI
  refine' cm 8 (fun K hK => ?_)
  go_simp
  refine hK.out _ _ ⟨hHeld.out.trans HBX.out⟩ (fun hHeld => ?_)
  clear d0 d1 d2 d3 f0 f1 f2 f3 s1 s2 s3
  clear hK K
  try simp only [pt]
  refine wpAnyH_done (by kernel_rfl) ?_ _
  have hx1 := hHeld.out
  have hpm := HPUT.out
  clear hHeld HBX HPUT
  generalize World.setCell _ _ _ = wX at hx1 hpm ⊢
  have X1 := Lib.hid ((BX.of_below (g := gh) B1.out).trans hx1)
  have XM := Lib.hid hpm
  have XB := Lib.hid (XB0.out.trans (hx1.below HGH.out XB0.out.size))
  have XK := Lib.hid ((hx1.block gB (blk_lt XK0.out) XN.out).trans XK0.out)
  clear hx1 hpm
  go_wp2_with fail
  try rw [HGB.out]
  go_loopg [5] 1 (fun gg v5 wr => ∃ (i : Nat) (h' : Held), v5 = .int .i64 i ∧ Aside0 (i + gg = 1) ∧ Aside0 (memoL ([k0].take i) (putH h (x : Int) k0) = some h') ∧ Aside0 (HeldAt w0 gh h' wr) ∧ Aside0 (BX gh wX wr))
  case atStart => exact ⟨0, putH h (x : Int) k0, rfl, ⟨by omega⟩, ⟨by rw [List.take_zero]; exact memoL_nil _⟩, ⟨XM.out⟩, ⟨BX.refl _ _⟩⟩
  case round =>
   obtain ⟨i, h', rfl, hi, hh, hm, hb⟩ := hrel
   have HI := Lib.hid hi.out
   have HH := Lib.hid hh.out
   have HM := Lib.hid hm.out
   have HB := Lib.hid hb.out
   clear hi hh hm hb
   have hbox : wr.heap[gB]? = some (.cells #[.int .i64 7, .int .i64 (x : Int), .int .i64 m, .slice (some p) 1 cap] 24 (0, 0)) := by rw [HB.out.block gB (blk_lt XK.out) XN.out]; exact XK.out
   obtain ⟨y0, y1, y2, y3⟩ := core_cells hbox
   have HBW := Lib.hid (XB.out.trans (HB.out.below HGH.out XB.out.size))
   clear hbox
   by_cases hlt : i < 1
   ·obtain ⟨y, hy⟩ : ∃ y, [k0][i]? = some y := ⟨_, List.getElem?_eq_getElem (by simpa using hlt)⟩
    obtain ⟨b, hbe, hblk, c0, c1, c2, c3⟩ := HL.out.cellsB HBW.out hy
    have HY := Lib.hid hy
    have q0 := eq_true (show (0 : Int) ≤ (i : Int) by omega)
    have q1 : ((i : Int) < 1) = True := eq_true (by omega)
    have q2 : (i < 1) = True := eq_true hlt
    have w5 : wrap64 ((i : Int) + 1) = ((i + 1 : Nat) : Int) := by have := HBIG.out; unfold wrap64; omega
    have hcall := HIH.out y (List.mem_of_getElem? hy) (HOK.out.mem (List.mem_of_getElem? hy)) h' _ HBW.out HM.out
    have HC := Lib.hid hcall
    have HLT := Lib.hid hlt
    first | (injection hbe with hbe; subst hbe) | subst hbe
    clear hy hcall hlt hblk
    go_wp2_with fail
    refine HC.out.mono ?_
    rintro e w7 (⟨rfl, hf, hx⟩ | ⟨rfl, h2, hf, hx, hm2⟩)
    ·have HF := Lib.hid hf
     have HX := Lib.hid hx
     clear hf hx w5 c0 c1 c2 c3 y0 y1 y2 y3
     go_wp2_with fail
     go_ret
     exact .inl ⟨by first | rfl | simp, by rw [memoS_eq]; show (match memo1 7 (x : Int) [k0] h with | some h' => memoL [k0] h' | none => none) = none; rw [HM1.out]; exact memoL_fail (i := i + 1) z14_0, X1.out.trans (HB.out.trans HX.out)⟩
    ·have HF := Lib.hid hf
     have HX := Lib.hid hx
     have HM2 := Lib.hid hm2
     clear hf hx hm2 c0 c1 c2 c3 y0 y1 y2 y3
     go_wp2_with fail
     go_roundg (gk - 1)
     case measure => clear w5; have := HI.out; have := HLT.out; omega
     case rel => exact ⟨i + 1, h2, by first | rfl | simp [w5], ⟨by clear w5; have := HI.out; have := HLT.out; omega⟩, ⟨by rw [memoL_take HY.out HH.out]; exact HF.out⟩, ⟨HM2.out⟩, ⟨HB.out.trans HX.out⟩⟩
   ·have q1 : ((i : Int) < 1) = False := eq_false (by omega)
    have q2 : (i < 1) = False := eq_false hlt
    have hie : i = 1 := by have := HI.out; omega
    have hfin := HH.out
    rw [hie] at hfin
    rw [List.take_of_length_le (by simp)] at hfin
    have HFIN := Lib.hid hfin
    clear hlt hie hfin
    go_wp2_with fail
    go_ret
    exact .inr ⟨by first | rfl | simp, h', by rw [memoS_eq]; show (match memo1 7 (x : Int) [k0] h with | some h' => memoL [k0] h' | none => none) = _; rw [HM1.out]; exact HFIN.out, X1.out.trans HB.out, HM.out⟩
theorem rwalk_calls {w0 : World} {gh : Nat} {ad : Addr} (had : ad = ⟨gh, 0, none⟩) (hgh : w0.heap.size ≤ gh) (c : Cr) : Lies w0 c → RWalkC w0 gh ad c := by
 refine Cr.ind (P := fun c => Lies w0 c → RWalkC w0 gh ad c) (fun c ih => ?_) c
 intro hl hok h W hb hm
 have ih' : ∀ k ∈ c.kids, RWalkC w0 gh ad k := fun k hk => ih k hk (hl.kid hk)
 have hok2 := hok.eq
 obtain ⟨op, n, m, at_, cap, l⟩ := c
 simp only [Cr.op_node, Cr.n_node, Cr.m_node, Cr.at_node, Cr.cap_node, Cr.kids_node] at *
 by_cases h7 : op = 7
 ·subst h7
  obtain ⟨hlen, hn, hz⟩ := hok2.1 rfl
  obtain ⟨k0, hk⟩ : ∃ k0, l = [k0] := by
   match l, hlen with
   | [k0], _ => exact ⟨k0, rfl⟩
  have hz0 : ¬ k0.op = 0 := hz k0 (by rw [hk]; simp)
  cases hx : h n with
  | none => exact rwalk_new had hgh hl hok2.2 ih' hb hm hk hx hn hz0
  | some f => exact rwalk_old had hgh hl hok2.2 ih' hb hm hk hx hn hz0
 ·exact rwalk_plain had hgh hl hok2.2 ih' hb hm h7
end Go.Proofs.YtpljkcakijkklaaGreatDoor

end
section
namespace Go.Proofs.YtpljkcakijkklaaGreatDoor
set_option linter.unusedVariables false
set_option linter.unusedSimpArgs false
open Go.RowKit

theorem itS {c : Prop} [Decidable c] {a b : Int} {P : Int → Prop} (ha : c → P a) (hb : ¬ c → P b) : P (if c then a else b) := by
 split
 ·exact ha ‹_›
 ·exact hb ‹_›
theorem leafS_ne {rw rc op n m : Int} : leafS rw rc op n m ≠ 0 → op ≠ 0 ∧ op ≠ 7 := by
 unfold leafS
 repeat' (refine itS (P := fun x => x ≠ 0 → op ≠ 0 ∧ op ≠ 7) (fun _ => ?_) (fun _ => ?_))
 all_goals (intro h; omega)
theorem oneS_ne {rl op n m s : Int} : oneS rl op n m s ≠ 0 → op ≠ 0 ∧ s ≠ 0 ∧ (op = 7 → 0 ≤ n ∧ n < rl) := by
 unfold oneS
 repeat' (refine itS (P := fun x => x ≠ 0 → op ≠ 0 ∧ s ≠ 0 ∧ (op = 7 → 0 ≤ n ∧ n < rl)) (fun _ => ?_) (fun _ => ?_))
 all_goals (intro h; omega)
theorem twoS_ne {s : Cr → Int} {op : Int} {a b : Cr} : twoS s op [a, b] ≠ 0 → op ≠ 0 ∧ op ≠ 7 ∧ s a ≠ 0 ∧ s b ≠ 0 := by
 unfold twoS
 have hb1 : ∀ t : Int, ((s a == t && s b == t) = true) ↔ (s a = t ∧ s b = t) := fun t => by simp
 simp only [hb1]
 repeat' (refine itS (P := fun x => x ≠ 0 → op ≠ 0 ∧ op ≠ 7 ∧ s a ≠ 0 ∧ s b ≠ 0) (fun _ => ?_) (fun _ => ?_))
 all_goals (intro h; omega)
theorem ifS_ne {s : Cr → Int} {a b c : Cr} : ifS s [a, b, c] ≠ 0 → s a ≠ 0 ∧ s b ≠ 0 ∧ s c ≠ 0 := by
 unfold ifS
 repeat' (refine itS (P := fun x => x ≠ 0 → s a ≠ 0 ∧ s b ≠ 0 ∧ s c ≠ 0) (fun _ => ?_) (fun _ => ?_))
 all_goals (intro h; omega)
theorem rungsP_ne {s : Cr → Int} : ∀ {l : List Cr} {p : Option Int}, rungsP s p l = true → ∀ k ∈ l, s k ≠ 0
 | [], p, h, k, hk => by cases hk
 | [a], p, h, k, hk => by
  obtain rfl := List.mem_singleton.1 hk
  have : s k = 3 := by simpa [rungsP] using h
  omega
 | x :: y :: l, p, h, k, hk => by
  have h : (x.op == 1 && (s x == 1 && ((match p with | none => true | some q => decide (q < x.n)) && (s y == 3 && rungsP s (some x.n) l)))) = true := by
   cases p <;> exact h
  simp only [Bool.and_eq_true] at h
  obtain ⟨_, hx, _, hy, hr⟩ := h
  have hx : s x = 1 := by simpa using hx
  have hy : s y = 3 := by simpa using hy
  rcases List.mem_cons.1 hk with rfl | hk
  ·omega
  ·rcases List.mem_cons.1 hk with rfl | hk
   ·omega
   ·exact rungsP_ne hr k hk
theorem ladS_ne {s : Cr → Int} {l : List Cr} (h : ladS s l ≠ 0) : ∀ k ∈ l, s k ≠ 0 := by
 cases l with
 | nil => exact fun k hk => by cases hk
 | cons a t =>
  have h : (if s a = 1 then (if rungsP s none t then (3 : Int) else 0) else 0) ≠ 0 := h
  by_cases h1 : s a = 1
  ·rw [if_pos h1] at h
   cases hr : rungsP s none t with
   | false => rw [hr] at h; exact absurd rfl h
   | true =>
    intro k hk
    rcases List.mem_cons.1 hk with rfl | hk
    ·omega
    ·exact rungsP_ne hr k hk
  ·rw [if_neg h1] at h
   exact absurd rfl h
theorem moreS_ne {s : Cr → Int} {op n m : Int} {l : List Cr} (h : moreS s op n m l ≠ 0) : op ≠ 0 ∧ op ≠ 7 ∧ ∀ k ∈ l, s k ≠ 0 := by
 unfold moreS at h
 by_cases h0 : n = 0 ∧ m = 0
 ·rw [if_pos h0] at h
  by_cases h28 : op = 28 ∧ l.length = 3
  ·rw [if_pos h28] at h
   obtain ⟨a, b, c, rfl⟩ : ∃ a b c, l = [a, b, c] := by
    match l, h28.2 with
    | [a, b, c], _ => exact ⟨a, b, c, rfl⟩
   obtain ⟨h1, h2, h3⟩ := ifS_ne h
   refine ⟨by omega, by omega, fun k hk => ?_⟩
   simp only [List.mem_cons, List.not_mem_nil, or_false] at hk
   rcases hk with rfl | rfl | rfl
   ·exact h1
   ·exact h2
   ·exact h3
  ·rw [if_neg h28] at h
   by_cases h32 : op = 32 ∧ 2 ≤ l.length ∧ l.length % 2 = 0
   ·rw [if_pos h32] at h
    exact ⟨by omega, by omega, ladS_ne h⟩
   ·rw [if_neg h32] at h
    by_cases h2 : l.length = 2
    ·rw [if_pos h2] at h
     obtain ⟨a, b, rfl⟩ : ∃ a b, l = [a, b] := by
      match l, h2 with
      | [a, b], _ => exact ⟨a, b, rfl⟩
     obtain ⟨h1, h3, h4, h5⟩ := twoS_ne h
     refine ⟨h1, h3, fun k hk => ?_⟩
     simp only [List.mem_cons, List.not_mem_nil, or_false] at hk
     rcases hk with rfl | rfl
     ·exact h4
     ·exact h5
    ·rw [if_neg h2] at h
     exact absurd rfl h
 ·rw [if_neg h0] at h
  exact absurd rfl h
theorem sort_ne {rw rc rl : Int} {c : Cr} (h : sortS rw rc rl c ≠ 0) : c.op ≠ 0 ∧ (∀ k ∈ c.kids, sortS rw rc rl k ≠ 0) ∧ (c.op = 7 → c.kids.length = 1 ∧ 0 ≤ c.n ∧ c.n < rl) := by
 rw [sortS_eq] at h
 unfold nodeS at h
 obtain ⟨op, n, m, at_, cap, l⟩ := c
 simp only [Cr.op_node, Cr.n_node, Cr.m_node, Cr.kids_node] at *
 match l, h with
 | [], h =>
  obtain ⟨h1, h2⟩ := leafS_ne h
  exact ⟨h1, fun k hk => (by cases hk), fun h7 => absurd h7 h2⟩
 | [k], h =>
  obtain ⟨h1, h2, h3⟩ := oneS_ne h
  refine ⟨h1, fun k' hk => ?_, fun h7 => ⟨rfl, h3 h7⟩⟩
  obtain rfl := List.mem_singleton.1 hk
  exact h2
 | a :: b :: t, h =>
  obtain ⟨h1, h2, h3⟩ := moreS_ne h
  exact ⟨h1, h3, fun h7 => absurd h7 h2⟩
theorem sort_mok {rw rc rl : Int} (hrl : rl ≤ 256) (c : Cr) : sortS rw rc rl c ≠ 0 → MOk c := by
 refine Cr.ind (P := fun c => sortS rw rc rl c ≠ 0 → MOk c) (fun c ih => ?_) c
 intro h
 obtain ⟨h1, h2, h3⟩ := sort_ne h
 obtain ⟨op, n, m, at_, cap, l⟩ := c
 simp only [Cr.op_node, Cr.n_node, Cr.m_node, Cr.kids_node] at *
 rw [MOk]
 refine ⟨fun h7 => ⟨(h3 h7).1, ⟨(h3 h7).2.1, by have := (h3 h7).2.2; omega⟩, fun k hk => (sort_ne (h2 k hk)).1⟩, ?_⟩
 have hall : ∀ k ∈ l, MOk k := fun k hk => ih k hk (h2 k hk)
 clear h h1 h2 h3 ih
 induction l with
 | nil => rw [MOkL]; trivial
 | cons a t iht => rw [MOkL]; exact ⟨hall a (by simp), iht fun k hk => hall k (by simp [hk])⟩
theorem mokL_of {rw rc rl : Int} (hrl : rl ≤ 256) : ∀ {l : List Cr}, (∀ c ∈ l, sortS rw rc rl c ≠ 0) → MOkL l
 | [], _ => by rw [MOkL]; trivial
 | c :: l, h => by rw [MOkL]; exact ⟨sort_mok hrl c (h c (by simp)), mokL_of hrl fun k hk => h k (by simp [hk])⟩
end Go.Proofs.YtpljkcakijkklaaGreatDoor

end
