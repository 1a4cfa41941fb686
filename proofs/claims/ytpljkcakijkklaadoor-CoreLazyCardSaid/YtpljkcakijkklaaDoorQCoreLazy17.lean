/-
  Texts of this seat, joined, less what CoreLazy does not lean on: Eval1, Eval2.
-/
import Derived.Test.YtpljkcakijkklaaDoorQCoreLazy16
import Derived.Test.YtpljkcakijkklaaDoorQCoreLazy9
set_option linter.unusedVariables false
set_option linter.unusedSimpArgs false
set_option maxHeartbeats 4000000
set_option maxRecDepth 100000
section
namespace Go.Proofs.YtpljkcakijkklaaDoor
set_option linter.unusedVariables false
set_option linter.unusedSimpArgs false
open Go.RowKit Go.Proofs.YtpljkcakijkklaaDoorW.PrintWords Go.Proofs.YtpljkcakijkklaaDoorW.PrintLast Go.Proofs.YtpljkcakijkklaaDoorW.PrintMore

def fnS (op a b : Int) : Int :=
 if op = 8 then heldI (-a) else if op = 9 then wrap64 (1 - a) else if op = 10 then heldI (if a < 0 then -a else a)
 else if op = 11 then heldI (heldI (-(-a / 1000000)) * 1000000) else if op = 12 then heldI (heldI (a / 1000000) * 1000000)
 else if op = 14 then heldI (a + b) else if op = 15 then heldI (a + -b) else if op = 16 then heldI (a * b / 1000000) else if op = 17 then (if b = 0 then 0 else heldI (quotI a b))
 else if op = 18 then (if a < b then 1 else 0) else if op = 19 then (if a ≤ b then 1 else 0) else if op = 20 then (if a = b then 1 else 0) else if op = 21 then (if b < a then 1 else 0) else if op = 22 then (if b ≤ a then 1 else 0)
 else if op = 23 then min a b else max a b
theorem fn_8 {a b : Int} (ha : R64 a) (hb : R64 b) (w : World) : Calls Tryd.prog 61 #[.int .i64 a, .int .i64 b] w fun e w' => e = .returned (.int .i64 (fnS 8 a b)) ∧ Below w.heap.size w w' := by
 obtain ⟨r, hr⟩ : ∃ r, fnS 8 a b = r := ⟨_, rfl⟩
 have HR := Lib.hid hr
 rw [hr]
 clear hr
 go_enter Tryd.func61, Tryd.ntmps61
 go_wp2_with fail
 refine (fix_Neg.calls a r w (by unfold fix_Neg.f; rw [if_pos ha]; exact congrArg some HR.out)).mono ?_
 rintro e w' ⟨rfl, hb'⟩
 go_wp2_with fail
 go_ret
 exact ⟨rfl, hb'⟩
theorem fn_9 {a b : Int} (ha : R64 a) (hb : R64 b) (w : World) : Calls Tryd.prog 63 #[.int .i64 a, .int .i64 b] w fun e w' => e = .returned (.int .i64 (fnS 9 a b)) ∧ Below w.heap.size w w' := by
 go_enter Tryd.func63, Tryd.ntmps63
 go_wp2
 go_ret
 exact ⟨rfl, Below.refl _ _⟩
theorem fn_10 {a b : Int} (ha : R64 a) (hb : R64 b) (w : World) : Calls Tryd.prog 64 #[.int .i64 a, .int .i64 b] w fun e w' => e = .returned (.int .i64 (fnS 10 a b)) ∧ Below w.heap.size w w' := by
 obtain ⟨r, hr⟩ : ∃ r, fnS 10 a b = r := ⟨_, rfl⟩
 have HR := Lib.hid hr
 rw [hr]
 clear hr
 go_enter Tryd.func64, Tryd.ntmps64
 go_wp2_with fail
 refine (fix_Abs.calls a r w (by unfold fix_Abs.f; rw [if_pos ha]; exact congrArg some HR.out)).mono ?_
 rintro e w' ⟨rfl, hb'⟩
 go_wp2_with fail
 go_ret
 exact ⟨rfl, hb'⟩
theorem fn_11 {a b : Int} (ha : R64 a) (hb : R64 b) (w : World) : Calls Tryd.prog 66 #[.int .i64 a, .int .i64 b] w fun e w' => e = .returned (.int .i64 (fnS 11 a b)) ∧ Below w.heap.size w w' := by
 obtain ⟨r, hr⟩ : ∃ r, fnS 11 a b = r := ⟨_, rfl⟩
 have HR := Lib.hid hr
 rw [hr]
 clear hr
 go_enter Tryd.func66, Tryd.ntmps66
 go_wp2_with fail
 refine (fix_Ceil.calls a r w (by unfold fix_Ceil.f; rw [if_pos ha]; exact congrArg some HR.out)).mono ?_
 rintro e w' ⟨rfl, hb'⟩
 go_wp2_with fail
 go_ret
 exact ⟨rfl, hb'⟩
theorem fn_12 {a b : Int} (ha : R64 a) (hb : R64 b) (w : World) : Calls Tryd.prog 68 #[.int .i64 a, .int .i64 b] w fun e w' => e = .returned (.int .i64 (fnS 12 a b)) ∧ Below w.heap.size w w' := by
 obtain ⟨r, hr⟩ : ∃ r, fnS 12 a b = r := ⟨_, rfl⟩
 have HR := Lib.hid hr
 rw [hr]
 clear hr
 go_enter Tryd.func68, Tryd.ntmps68
 go_wp2_with fail
 refine (fix_Floor.calls a r w (by unfold fix_Floor.f; rw [if_pos ha]; exact congrArg some HR.out)).mono ?_
 rintro e w' ⟨rfl, hb'⟩
 go_wp2_with fail
 go_ret
 exact ⟨rfl, hb'⟩
theorem fn_14 {a b : Int} (ha : R64 a) (hb : R64 b) (w : World) : Calls Tryd.prog 70 #[.int .i64 a, .int .i64 b] w fun e w' => e = .returned (.int .i64 (fnS 14 a b)) ∧ Below w.heap.size w w' := by
 exact (fix_Add.calls a b _ w (by unfold fix_Add.f; rw [if_pos ⟨ha, hb⟩]; rfl)).mono fun e w' h => ⟨h.1, h.2⟩
theorem fn_15 {a b : Int} (ha : R64 a) (hb : R64 b) (w : World) : Calls Tryd.prog 71 #[.int .i64 a, .int .i64 b] w fun e w' => e = .returned (.int .i64 (fnS 15 a b)) ∧ Below w.heap.size w w' := by
 exact (fix_Sub.calls a b _ w (by unfold fix_Sub.f; rw [if_pos ⟨ha, hb⟩]; rfl)).mono fun e w' h => ⟨h.1, h.2⟩
theorem fn_16 {a b : Int} (ha : R64 a) (hb : R64 b) (w : World) : Calls Tryd.prog 72 #[.int .i64 a, .int .i64 b] w fun e w' => e = .returned (.int .i64 (fnS 16 a b)) ∧ Below w.heap.size w w' := by
 exact (fix_Mul.calls a b _ w (by unfold fix_Mul.f; rw [if_pos ⟨ha, hb⟩]; rfl)).mono fun e w' h => ⟨h.1, h.2⟩
theorem fn_17 {a b : Int} (ha : R64 a) (hb : R64 b) (w : World) : Calls Tryd.prog 73 #[.int .i64 a, .int .i64 b] w fun e w' => e = .returned (.int .i64 (fnS 17 a b)) ∧ Below w.heap.size w w' := by
 by_cases h0 : b = 0
 ·subst h0
  go_enter Tryd.func73, Tryd.ntmps73
  go_wp2_with fail
  refine (div_zero a w).mono ?_
  rintro e w' ⟨rfl, hb'⟩
  go_wp2_with fail
  go_ret
  exact ⟨rfl, hb'⟩
 ·have e9 : fnS 17 a b = heldI (quotI a b) := by
   show (if b = 0 then 0 else heldI (quotI a b)) = _
   rw [if_neg h0]
  rw [e9]
  obtain ⟨q, hq⟩ : ∃ q, heldI (quotI a b) = q := ⟨_, rfl⟩
  have hd : fix_Div.f a b = some (q, true) := by
   unfold fix_Div.f
   rw [if_pos ⟨ha, hb⟩, if_neg h0, hq]
  rw [hq]
  go_enter Tryd.func73, Tryd.ntmps73
  go_wp2_with fail
  refine (fix_Div.calls a b q true w hd).mono ?_
  rintro e w' ⟨rfl, hb'⟩
  go_wp2_with fail
  go_ret
  exact ⟨rfl, hb'⟩
theorem fn_18 {a b : Int} (ha : R64 a) (hb : R64 b) (w : World) : Calls Tryd.prog 75 #[.int .i64 a, .int .i64 b] w fun e w' => e = .returned (.int .i64 (fnS 18 a b)) ∧ Below w.heap.size w w' := by
 go_enter Tryd.func75, Tryd.ntmps75
 go_wp2
 all_goals
  go_ret
  refine ⟨?_, Below.refl _ _⟩
  first | (simp_all [fnS]; done) | (simp_all [fnS]; omega)
theorem fn_19 {a b : Int} (ha : R64 a) (hb : R64 b) (w : World) : Calls Tryd.prog 76 #[.int .i64 a, .int .i64 b] w fun e w' => e = .returned (.int .i64 (fnS 19 a b)) ∧ Below w.heap.size w w' := by
 go_enter Tryd.func76, Tryd.ntmps76
 go_wp2
 all_goals
  go_ret
  refine ⟨?_, Below.refl _ _⟩
  first | (simp_all [fnS]; done) | (simp_all [fnS]; omega)
theorem fn_20 {a b : Int} (ha : R64 a) (hb : R64 b) (w : World) : Calls Tryd.prog 77 #[.int .i64 a, .int .i64 b] w fun e w' => e = .returned (.int .i64 (fnS 20 a b)) ∧ Below w.heap.size w w' := by
 go_enter Tryd.func77, Tryd.ntmps77
 go_wp2
 all_goals
  go_ret
  refine ⟨?_, Below.refl _ _⟩
  first | (simp_all [fnS]; done) | (simp_all [fnS]; omega)
theorem fn_21 {a b : Int} (ha : R64 a) (hb : R64 b) (w : World) : Calls Tryd.prog 78 #[.int .i64 a, .int .i64 b] w fun e w' => e = .returned (.int .i64 (fnS 21 a b)) ∧ Below w.heap.size w w' := by
 go_enter Tryd.func78, Tryd.ntmps78
 go_wp2
 all_goals
  go_ret
  refine ⟨?_, Below.refl _ _⟩
  first | (simp_all [fnS]; done) | (simp_all [fnS]; omega)
theorem fn_22 {a b : Int} (ha : R64 a) (hb : R64 b) (w : World) : Calls Tryd.prog 79 #[.int .i64 a, .int .i64 b] w fun e w' => e = .returned (.int .i64 (fnS 22 a b)) ∧ Below w.heap.size w w' := by
 go_enter Tryd.func79, Tryd.ntmps79
 go_wp2
 all_goals
  go_ret
  refine ⟨?_, Below.refl _ _⟩
  first | (simp_all [fnS]; done) | (simp_all [fnS]; omega)
theorem fn_23 {a b : Int} (ha : R64 a) (hb : R64 b) (w : World) : Calls Tryd.prog 80 #[.int .i64 a, .int .i64 b] w fun e w' => e = .returned (.int .i64 (fnS 23 a b)) ∧ Below w.heap.size w w' := by
 go_enter Tryd.func80, Tryd.ntmps80
 go_wp2
 all_goals
  go_ret
  refine ⟨?_, Below.refl _ _⟩
  first | (simp_all [fnS]; done) | (simp_all [fnS]; omega)
theorem fn_24 {a b : Int} (ha : R64 a) (hb : R64 b) (w : World) : Calls Tryd.prog 81 #[.int .i64 a, .int .i64 b] w fun e w' => e = .returned (.int .i64 (fnS 24 a b)) ∧ Below w.heap.size w w' := by
 go_enter Tryd.func81, Tryd.ntmps81
 go_wp2
 all_goals
  go_ret
  refine ⟨?_, Below.refl _ _⟩
  first | (simp_all [fnS]; done) | (simp_all [fnS]; omega)
def opsT : List (Int × Nat) := [(8, 61), (9, 63), (10, 64), (11, 66), (12, 68), (14, 70), (15, 71), (16, 72), (17, 73), (18, 75), (19, 76), (20, 77), (21, 78), (22, 79), (23, 80), (24, 81)]
theorem ops_calls (w : World) : Calls Tryd.prog 48 #[] w fun e w' => e = .returned (.slice (some ⟨w.heap.size, 0, none⟩) 16 16) ∧ w' = w.alloc (.cells #[.int .i64 8, .func (.func 61) #[] #[], .int .i64 9, .func (.func 63) #[] #[], .int .i64 10, .func (.func 64) #[] #[], .int .i64 11, .func (.func 66) #[] #[], .int .i64 12, .func (.func 68) #[] #[], .int .i64 14, .func (.func 70) #[] #[], .int .i64 15, .func (.func 71) #[] #[], .int .i64 16, .func (.func 72) #[] #[], .int .i64 17, .func (.func 73) #[] #[], .int .i64 18, .func (.func 75) #[] #[], .int .i64 19, .func (.func 76) #[] #[], .int .i64 20, .func (.func 77) #[] #[], .int .i64 21, .func (.func 78) #[] #[], .int .i64 22, .func (.func 79) #[] #[], .int .i64 23, .func (.func 80) #[] #[], .int .i64 24, .func (.func 81) #[] #[]] 102) := by
 go_enter Tryd.func48, Tryd.ntmps48
 go_wp2
 go_ret
 exact ⟨rfl, rfl⟩
theorem fn_all {k : Int} {f : Nat} (h : (k, f) ∈ opsT) {a b : Int} (ha : R64 a) (hb : R64 b) (w : World) : Calls Tryd.prog f #[.int .i64 a, .int .i64 b] w fun e w' => e = .returned (.int .i64 (fnS k a b)) ∧ Below w.heap.size w w' := by
 simp only [opsT, List.mem_cons, Prod.mk.injEq, List.not_mem_nil, or_false] at h
 rcases h with ⟨rfl, rfl⟩ | ⟨rfl, rfl⟩ | ⟨rfl, rfl⟩ | ⟨rfl, rfl⟩ | ⟨rfl, rfl⟩ | ⟨rfl, rfl⟩ | ⟨rfl, rfl⟩ | ⟨rfl, rfl⟩ | ⟨rfl, rfl⟩ | ⟨rfl, rfl⟩ | ⟨rfl, rfl⟩ | ⟨rfl, rfl⟩ | ⟨rfl, rfl⟩ | ⟨rfl, rfl⟩ | ⟨rfl, rfl⟩ | ⟨rfl, rfl⟩
 ·exact fn_8 ha hb w
 ·exact fn_9 ha hb w
 ·exact fn_10 ha hb w
 ·exact fn_11 ha hb w
 ·exact fn_12 ha hb w
 ·exact fn_14 ha hb w
 ·exact fn_15 ha hb w
 ·exact fn_16 ha hb w
 ·exact fn_17 ha hb w
 ·exact fn_18 ha hb w
 ·exact fn_19 ha hb w
 ·exact fn_20 ha hb w
 ·exact fn_21 ha hb w
 ·exact fn_22 ha hb w
 ·exact fn_23 ha hb w
 ·exact fn_24 ha hb w
end Go.Proofs.YtpljkcakijkklaaDoor

end
section
namespace Go.Proofs.YtpljkcakijkklaaDoor
set_option linter.unusedVariables false
set_option linter.unusedSimpArgs false
open Go.RowKit Go.Proofs.YtpljkcakijkklaaDoorW.PrintWords Go.Proofs.YtpljkcakijkklaaDoorW.PrintLast Go.Proofs.YtpljkcakijkklaaDoorW.PrintMore

inductive Rs where
 | num (n : Int)
 | stop (r : Int)
structure En where
 rep : Int
 wa : Option Addr
 wcap : Nat
 wins : List (Int × Int)
 ca : Option Addr
 ccap : Nat
 crons : List Bool
def EnvL (w : World) (v : En) : Prop :=
 R64 v.rep ∧ (v.wins.length ≤ v.wcap ∧ v.wcap ≤ 8796093022208) ∧ (v.crons.length ≤ v.ccap ∧ v.ccap ≤ 140737488351232) ∧
 (∀ i x, v.wins[i]? = some x → R64 x.1 ∧ R64 x.2 ∧ ∃ b, v.wa = some b ∧ w.cells? 0 (b.add (i * 2)) 2 = some [.int .i64 x.1, .int .i64 x.2]) ∧
 (∀ i x, v.crons[i]? = some x → ∃ b, v.ca = some b ∧ w.cells? 0 (b.add i) 1 = some [.bool x])
theorem EnvL.below {w w' : World} {v : En} (h : EnvL w v) (hb : Below w.heap.size w w') : EnvL w' v := by
 obtain ⟨h1, h2, h3, h4, h5⟩ := h
 refine ⟨h1, h2, h3, fun i x hx => ?_, fun i x hx => ?_⟩
 ·obtain ⟨a, b, c, d, e⟩ := h4 i x hx
  exact ⟨a, b, c, d, below_cells hb e (by decide)⟩
 ·obtain ⟨c, d, e⟩ := h5 i x hx
  exact ⟨c, d, below_cells hb e (by decide)⟩

def leafE (v : En) (op n : Int) : Rs :=
 if op = 1 ∨ op = 2 then .num n
 else if op = 3 then .num (heldI (v.rep * 1000000))
 else if op = 4 then (match v.wins[n.toNat]? with | some (r, x) => if r = 0 then .num x else .stop r | none => .num 0)
 else if op = 5 then (match v.crons[n.toNat]? with | some b => .num (if b then 1 else 0) | none => .num 0)
 else .stop n
def unE (op n m a : Int) : Int := if op = 7 then a else if op = 13 then (if n < 0 ∨ m < 1 then 0 else heldI (a * n / m)) else fnS op a 0
def binE (op a b : Int) : Rs := if op = 17 ∧ b = 0 then .stop 2 else .num (fnS op a b)
def evalS (v : En) : Cr → Rs
 | .node op n _ _ _ [] => leafE v op n
 | .node op n m _ _ [k] => match evalS v k with
  | .stop r => .stop r
  | .num a => .num (unE op n m a)
 | .node op _ _ _ _ [k, l] => match evalS v k with
  | .stop r => if op = 27 then evalS v l else .stop r
  | .num a => if op = 27 then .num a else if op = 25 then (if a = 0 then .num 0 else evalS v l) else if op = 26 then (if a = 1 then .num 1 else evalS v l)
   else match evalS v l with
    | .stop r => .stop r
    | .num b => binE op a b
 | .node _ _ _ _ _ [k, l, q] => match evalS v k with
  | .stop r => .stop r
  | .num a => if a = 1 then evalS v l else evalS v q
 | .node _ _ _ _ _ (_ :: _ :: _ :: _ :: _) => .num 0

def RetE (r : Rs) (e : Ending) (w' : World) : Prop := match r with
 | .num n => e = .returned (.tuple #[.int .i64 n, .nilIface])
 | .stop q => ∃ g, e = .returned (.tuple #[.int .i64 0, .iface 83 (.pointer (some ⟨g, 0, none⟩))]) ∧ w'.cell? ⟨g, 0, none⟩ = some (.int .i64 q)
def EvalC (v : En) (k : Cr) (r : Rs) : Prop :=
 ∀ W, Lies W k → EnvL W v → Calls Tryd.prog 23 #[.agg #[.int .i64 k.op, .int .i64 k.n, .int .i64 k.m, .slice k.at_ k.kids.length k.cap], .agg #[.int .i64 v.rep, .slice v.wa v.wins.length v.wcap, .slice v.ca v.crons.length v.ccap]] W fun e w' => RetE r e w' ∧ Below W.heap.size W w'
theorem env_cells {w : World} {g : Nat} {r : Int} {a b : Value} (h : w.heap[g]? = some (.cells #[.int .i64 r, a, b] 28 (0, 0))) :
  w.cell? ⟨g, 0, none⟩ = some (.int .i64 r) ∧ w.cell? ⟨g, 1, none⟩ = some a ∧ w.cell? ⟨g, 2, none⟩ = some b :=
 ⟨(blk_cell h 0).trans rfl, (blk_cell h 1).trans rfl, (blk_cell h 2).trans rfl⟩
set_option maxRecDepth 100000
def opsCells : Array Value := #[.int .i64 8, .func (.func 61) #[] #[], .int .i64 9, .func (.func 63) #[] #[], .int .i64 10, .func (.func 64) #[] #[], .int .i64 11, .func (.func 66) #[] #[], .int .i64 12, .func (.func 68) #[] #[], .int .i64 14, .func (.func 70) #[] #[], .int .i64 15, .func (.func 71) #[] #[], .int .i64 16, .func (.func 72) #[] #[], .int .i64 17, .func (.func 73) #[] #[], .int .i64 18, .func (.func 75) #[] #[], .int .i64 19, .func (.func 76) #[] #[], .int .i64 20, .func (.func 77) #[] #[], .int .i64 21, .func (.func 78) #[] #[], .int .i64 22, .func (.func 79) #[] #[], .int .i64 23, .func (.func 80) #[] #[], .int .i64 24, .func (.func 81) #[] #[]]
theorem ops_row : ∀ i (x : Int × Nat), opsT[i]? = some x → opsCells[i * 2]? = some (.int .i64 x.1) ∧ opsCells[i * 2 + 1]? = some (.func (.func x.2) #[] #[]) := by
 intro i x h
 have hi : i < 16 := (List.getElem?_eq_some_iff.1 h).1
 match i, hi with
 | 0, _ => simp [opsT] at h; subst h; exact ⟨rfl, rfl⟩
 | 1, _ => simp [opsT] at h; subst h; exact ⟨rfl, rfl⟩
 | 2, _ => simp [opsT] at h; subst h; exact ⟨rfl, rfl⟩
 | 3, _ => simp [opsT] at h; subst h; exact ⟨rfl, rfl⟩
 | 4, _ => simp [opsT] at h; subst h; exact ⟨rfl, rfl⟩
 | 5, _ => simp [opsT] at h; subst h; exact ⟨rfl, rfl⟩
 | 6, _ => simp [opsT] at h; subst h; exact ⟨rfl, rfl⟩
 | 7, _ => simp [opsT] at h; subst h; exact ⟨rfl, rfl⟩
 | 8, _ => simp [opsT] at h; subst h; exact ⟨rfl, rfl⟩
 | 9, _ => simp [opsT] at h; subst h; exact ⟨rfl, rfl⟩
 | 10, _ => simp [opsT] at h; subst h; exact ⟨rfl, rfl⟩
 | 11, _ => simp [opsT] at h; subst h; exact ⟨rfl, rfl⟩
 | 12, _ => simp [opsT] at h; subst h; exact ⟨rfl, rfl⟩
 | 13, _ => simp [opsT] at h; subst h; exact ⟨rfl, rfl⟩
 | 14, _ => simp [opsT] at h; subst h; exact ⟨rfl, rfl⟩
 | 15, _ => simp [opsT] at h; subst h; exact ⟨rfl, rfl⟩
theorem ops_enter {k : Int} {f : Nat} (h : (k, f) ∈ opsT) : ∀ args w, (callFunc f args).run Tryd.prog w = .ok (.enter f args) w := by
 simp only [opsT, List.mem_cons, Prod.mk.injEq, List.not_mem_nil, or_false] at h
 rcases h with ⟨rfl, rfl⟩ | ⟨rfl, rfl⟩ | ⟨rfl, rfl⟩ | ⟨rfl, rfl⟩ | ⟨rfl, rfl⟩ | ⟨rfl, rfl⟩ | ⟨rfl, rfl⟩ | ⟨rfl, rfl⟩ | ⟨rfl, rfl⟩ | ⟨rfl, rfl⟩ | ⟨rfl, rfl⟩ | ⟨rfl, rfl⟩ | ⟨rfl, rfl⟩ | ⟨rfl, rfl⟩ | ⟨rfl, rfl⟩ | ⟨rfl, rfl⟩ <;> exact fun _ _ => rfl
theorem ops_once : ∀ i j : Fin 16, (opsT[i.val]'i.isLt).1 = (opsT[j.val]'j.isLt).1 → i = j := by decide
theorem ops_calls2 (w : World) : Calls Tryd.prog 48 #[] w fun e w' => e = .returned (.slice (some ⟨w.heap.size, 0, none⟩) 16 16) ∧ w' = w.alloc (.cells opsCells 102) := ops_calls w
theorem ops_at {k : Int} {f : Nat} (h : (k, f) ∈ opsT) : ∃ j, j < 16 ∧ opsT[j]? = some (k, f) ∧ ∀ i, i < j → ∀ x, opsT[i]? = some x → (x.1 == k) = false := by
 obtain ⟨j, hj, he⟩ := List.getElem_of_mem h
 have hj' : j < 16 := hj
 refine ⟨j, hj', by rw [List.getElem?_eq_getElem hj, he], fun i hi x hx => ?_⟩
 have hi' : i < 16 := by omega
 have hx' : opsT[i]'hi' = x := by
  have := List.getElem?_eq_getElem (l := opsT) (i := i) hi'
  rw [this] at hx
  injection hx
 cases hb : (x.1 == k) with
 | false => rfl
 | true =>
  exfalso
  have e := ops_once ⟨i, hi'⟩ ⟨j, hj'⟩ ((congrArg Prod.fst hx').trans ((by simpa using hb : x.1 = k).trans (congrArg Prod.fst he).symm))
  have : i = j := congrArg Fin.val e
  omega
end Go.Proofs.YtpljkcakijkklaaDoor

end
