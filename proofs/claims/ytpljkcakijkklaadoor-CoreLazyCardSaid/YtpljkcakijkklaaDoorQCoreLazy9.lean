/-
  Texts of this seat, joined, less what CoreLazy does not lean on: Cr, Core1, Core2, Core3, Core4, Core5, Core6, Core7, Core8, Core9, Cnodes.
-/
import Derived.Test.YtpljkcakijkklaaDoorQCoreLazy8
import Derived.Test.YtpljkcakijkklaaDoorQCoreLazy5
import Derived.DataShut
import Derived.Lib.Hide
set_option linter.unusedVariables false
set_option linter.unusedSimpArgs false
set_option maxHeartbeats 8000000
set_option maxRecDepth 100000
section
namespace Go.Proofs.YtpljkcakijkklaaDoor
set_option linter.unusedVariables false
set_option linter.unusedSimpArgs false
open Go.RowKit

inductive Cr where
 | node (op n m : Int) (at_ : Option Addr) (cap : Nat) (kids : List Cr)

namespace Cr
def op : Cr → Int | .node o _ _ _ _ _ => o
def n : Cr → Int | .node _ x _ _ _ _ => x
def m : Cr → Int | .node _ _ x _ _ _ => x
def at_ : Cr → Option Addr | .node _ _ _ x _ _ => x
def cap : Cr → Nat | .node _ _ _ _ x _ => x
def kids : Cr → List Cr | .node _ _ _ _ _ x => x
def hdr (c : Cr) : Value := .slice c.at_ c.kids.length c.cap
def cells (c : Cr) : List Value := [.int .i64 c.op, .int .i64 c.n, .int .i64 c.m, .slice c.at_ c.kids.length c.cap]
def val (c : Cr) : Value := .agg #[.int .i64 c.op, .int .i64 c.n, .int .i64 c.m, .slice c.at_ c.kids.length c.cap]
@[simp] theorem op_node (o x y : Int) (a : Option Addr) (k : Nat) (l : List Cr) : (Cr.node o x y a k l).op = o := rfl
@[simp] theorem n_node (o x y : Int) (a : Option Addr) (k : Nat) (l : List Cr) : (Cr.node o x y a k l).n = x := rfl
@[simp] theorem m_node (o x y : Int) (a : Option Addr) (k : Nat) (l : List Cr) : (Cr.node o x y a k l).m = y := rfl
@[simp] theorem at_node (o x y : Int) (a : Option Addr) (k : Nat) (l : List Cr) : (Cr.node o x y a k l).at_ = a := rfl
@[simp] theorem cap_node (o x y : Int) (a : Option Addr) (k : Nat) (l : List Cr) : (Cr.node o x y a k l).cap = k := rfl
@[simp] theorem kids_node (o x y : Int) (a : Option Addr) (k : Nat) (l : List Cr) : (Cr.node o x y a k l).kids = l := rfl

theorem ind {P : Cr → Prop} (h : ∀ c : Cr, (∀ k ∈ c.kids, P k) → P c) (c : Cr) : P c :=
 Cr.rec (motive_1 := P) (motive_2 := fun l => ∀ k ∈ l, P k) (fun o x y a k l ih => h (.node o x y a k l) ih) (fun k hk => nomatch hk)
  (fun c l ihc ihl k hk => (List.mem_cons.1 hk).elim (fun e => e ▸ ihc) (ihl k)) c
end Cr

def I64 (x : Int) : Prop := -9223372036854775808 ≤ x ∧ x ≤ 9223372036854775807

mutual
def Lies (w : World) : Cr → Prop
 | .node o x y a k l => (I64 o ∧ I64 x ∧ I64 y) ∧ (l.length ≤ k ∧ l.length ≤ 2932031007317) ∧ LiesL w a 0 l
def LiesL (w : World) (a : Option Addr) : Nat → List Cr → Prop
 | _, [] => True
 | i, c :: l => (∃ b, a = some b ∧ w.cells? 0 (b.add (i * 4)) 4 = some c.cells) ∧ Lies w c ∧ LiesL w a (i + 1) l
end
theorem LiesL.get {w : World} {a : Option Addr} : ∀ {l : List Cr} {i j : Nat} {c : Cr}, LiesL w a i l → l[j]? = some c → (∃ b, a = some b ∧ w.cells? 0 (b.add ((i + j) * 4)) 4 = some c.cells) ∧ Lies w c
 | [], _, _, _, _, h => by simp at h
 | d :: l, i, 0, c, hl, h => by
  rw [LiesL] at hl
  simp at h
  subst h
  exact ⟨hl.1, hl.2.1⟩
 | d :: l, i, j + 1, c, hl, h => by
  rw [LiesL] at hl
  have := LiesL.get hl.2.2 (j := j) (c := c) (by simpa using h)
  rwa [show i + 1 + j = i + (j + 1) by omega] at this
theorem LiesL.of_get {w : World} {a : Option Addr} : ∀ {l : List Cr} {i : Nat}, (∀ j c, l[j]? = some c → (∃ b, a = some b ∧ w.cells? 0 (b.add ((i + j) * 4)) 4 = some c.cells) ∧ Lies w c) → LiesL w a i l
 | [], _, _ => by rw [LiesL]; trivial
 | d :: l, i, h => by
  rw [LiesL]
  have h0 := h 0 d rfl
  refine ⟨by simpa using h0.1, h0.2, LiesL.of_get fun j c hj => ?_⟩
  have := h (j + 1) c (by simpa using hj)
  rwa [show i + (j + 1) = i + 1 + j by omega] at this

theorem LiesL.lies {w : World} {a : Option Addr} {l : List Cr} (h : LiesL w a 0 l) {k : Cr} (hk : k ∈ l) : Lies w k := by
 obtain ⟨i, hi, rfl⟩ := List.getElem_of_mem hk
 exact (h.get (List.getElem?_eq_getElem hi)).2
theorem Lies.ints {w : World} {c : Cr} (h : Lies w c) : I64 c.op ∧ I64 c.n ∧ I64 c.m := by
 cases c; rw [Lies] at h; exact h.1
theorem Lies.room {w : World} {c : Cr} (h : Lies w c) : c.kids.length ≤ c.cap ∧ c.kids.length ≤ 2932031007317 := by
 cases c; rw [Lies] at h; exact h.2.1
theorem Lies.kids {w : World} {c : Cr} (h : Lies w c) : LiesL w c.at_ 0 c.kids := by
 cases c; rw [Lies] at h; exact h.2.2
theorem Lies.mk {w : World} {c : Cr} (h1 : I64 c.op ∧ I64 c.n ∧ I64 c.m) (h2 : c.kids.length ≤ c.cap ∧ c.kids.length ≤ 2932031007317) (h3 : LiesL w c.at_ 0 c.kids) : Lies w c := by
 cases c; rw [Lies]; exact ⟨h1, h2, h3⟩
theorem Lies.kid {w : World} {c k : Cr} (h : Lies w c) (hk : k ∈ c.kids) : Lies w k := by
 obtain ⟨i, hi, rfl⟩ := List.getElem_of_mem hk
 exact (h.kids.get (List.getElem?_eq_getElem hi)).2
theorem Lies.at {w : World} {c : Cr} (h : Lies w c) {i : Nat} {k : Cr} (hk : c.kids[i]? = some k) :
  ∃ b, c.at_ = some b ∧ (b.add (i * 4)).block < w.heap.size ∧ w.cell? (b.add (i * 4)) = some (.int .i64 k.op) ∧ w.cell? ⟨(b.add (i * 4)).block, (b.add (i * 4)).off + 1, none⟩ = some (.int .i64 k.n) ∧
   w.cell? ⟨(b.add (i * 4)).block, (b.add (i * 4)).off + 2, none⟩ = some (.int .i64 k.m) ∧ w.cell? ⟨(b.add (i * 4)).block, (b.add (i * 4)).off + 3, none⟩ = some k.hdr ∧ Lies w k := by
 obtain ⟨⟨b, hb, hc⟩, hl⟩ := h.kids.get hk
 rw [Nat.zero_add] at hc
 have f (j : Nat) (u : Value) (hj : k.cells[j]? = some u) (h4 : j ≠ 0) : w.cell? ⟨(b.add (i * 4)).block, (b.add (i * 4)).off + j, none⟩ = some u := by
  have := cells_get hc j u hj
  have e : (b.add (i * 4)).add j = ⟨(b.add (i * 4)).block, (b.add (i * 4)).off + j, none⟩ := by
   cases j with
   | zero => exact absurd rfl h4
   | succ j => rfl
  rwa [e] at this
 refine ⟨b, hb, World.cells?_block hc (by decide), ?_, f 1 _ rfl (by decide), f 2 _ rfl (by decide), f 3 _ rfl (by decide), hl⟩
 have := cells_get hc 0 _ rfl
 rw [Addr.add_add] at this
 exact this

theorem below_cells {w w' : World} (hb : Below w.heap.size w w') {a : Addr} {n : Nat} {cs : List Value} (h : w.cells? 0 a n = some cs) (hn : 0 < n) : w'.cells? 0 a n = some cs := by
 have hlt := World.cells?_block h hn
 obtain ⟨_, h2, h3⟩ := World.cells?_some h
 refine World.cells?_of_each (Nat.zero_le _) h2 fun i hi => ?_
 rw [← h3 i hi]
 refine hb.cell ?_
 cases i <;> exact hlt

mutual
theorem Lies.below {w w' : World} (hb : Below w.heap.size w w') : ∀ {c : Cr}, Lies w c → Lies w' c
 | .node o x y a k l, h => by
  rw [Lies] at h ⊢
  exact ⟨h.1, h.2.1, LiesL.below hb h.2.2⟩
theorem LiesL.below {w w' : World} (hb : Below w.heap.size w w') {a : Option Addr} : ∀ {i : Nat} {l : List Cr}, LiesL w a i l → LiesL w' a i l
 | _, [], _ => by rw [LiesL]; trivial
 | i, c :: l, h => by
  rw [LiesL] at h ⊢
  obtain ⟨⟨b, hb2, hc⟩, h2, h3⟩ := h
  refine ⟨⟨b, hb2, ?_⟩, Lies.below hb h2, LiesL.below hb h3⟩
  exact below_cells hb hc (by decide)
end
end Go.Proofs.YtpljkcakijkklaaDoor

end
section
namespace Go.Proofs.YtpljkcakijkklaaDoor
set_option linter.unusedVariables false
set_option linter.unusedSimpArgs false
open Go.RowKit Go.Proofs.YtpljkcakijkklaaDoorW.PrintWords Go.Proofs.YtpljkcakijkklaaDoorW.PrintLast Go.Proofs.YtpljkcakijkklaaDoorW.PrintMore

def leafS (rw rc op n m : Int) : Int :=
 if op = 1 then (if m = 0 then 1 else 0)
 else if op = 2 then (if m = 0 then (if n = 0 then 2 else if n = 1 then 2 else 0) else 0)
 else if op = 3 then (if m = 0 then (if n = 0 then 1 else 0) else 0)
 else if op = 4 then (if m = 0 then (if 0 ≤ n then (if n < rw then 1 else 0) else 0) else 0)
 else if op = 5 then (if m = 0 then (if 0 ≤ n then (if n < rc then 2 else 0) else 0) else 0)
 else if op = 6 then (if 1 ≤ n then (if n ≤ 3 then (if m = 1 then m else if m = 2 then m else 0) else 0) else 0)
 else if op = 29 then (if m = 0 then (if n = 0 then 3 else 0) else 0)
 else 0

theorem leaf_calls (rw rc rl op n m : Int) (a : Option Addr) (l k : Nat) (w : World) : Calls Tryd.prog 34 #[.agg #[.int .i64 rw, .int .i64 rc, .int .i64 rl], .agg #[.int .i64 op, .int .i64 n, .int .i64 m, .slice a l k]] w fun e w' => e = .returned (.int .i64 (leafS rw rc op n m)) ∧ Below w.heap.size w w' := by
 go_enter Tryd.func34, Tryd.ntmps34
 go_wp2
 all_goals
  go_ret
  refine ⟨?_, ?_⟩
  ·first | (simp_all [leafS]; done) | (simp_all [leafS]; omega) | (simp_all [leafS]; intros; omega)
  ·exact below_alloc (below_alloc (Below.refl _ _) _) _
end Go.Proofs.YtpljkcakijkklaaDoor

end
section
namespace Go.Proofs.YtpljkcakijkklaaDoor
set_option linter.unusedVariables false
set_option linter.unusedSimpArgs false
open Go.RowKit Go.Proofs.YtpljkcakijkklaaDoorW.PrintWords Go.Proofs.YtpljkcakijkklaaDoorW.PrintLast Go.Proofs.YtpljkcakijkklaaDoorW.PrintMore

theorem LiesL.cells {w : World} {A : Option Addr} {l : List Cr} (h : LiesL w A 0 l) {i : Nat} {k : Cr} (hk : l[i]? = some k) :
  ∃ b, A = some b ∧ (b.add (i * 4)).block < w.heap.size ∧ w.cell? (b.add (i * 4)) = some (.int .i64 k.op) ∧ w.cell? ⟨(b.add (i * 4)).block, (b.add (i * 4)).off + 1, none⟩ = some (.int .i64 k.n) ∧
   w.cell? ⟨(b.add (i * 4)).block, (b.add (i * 4)).off + 2, none⟩ = some (.int .i64 k.m) ∧ w.cell? ⟨(b.add (i * 4)).block, (b.add (i * 4)).off + 3, none⟩ = some (.slice k.at_ k.kids.length k.cap) ∧ Lies w k := by
 obtain ⟨⟨b, hb, hc⟩, hl⟩ := h.get hk
 rw [Nat.zero_add] at hc
 have f (j : Nat) (u : Value) (hj : k.cells[j]? = some u) (h4 : j ≠ 0) : w.cell? ⟨(b.add (i * 4)).block, (b.add (i * 4)).off + j, none⟩ = some u := by
  have := cells_get hc j u hj
  have e : (b.add (i * 4)).add j = ⟨(b.add (i * 4)).block, (b.add (i * 4)).off + j, none⟩ := by
   cases j with
   | zero => exact absurd rfl h4
   | succ j => rfl
  rwa [e] at this
 refine ⟨b, hb, World.cells?_block hc (by decide), ?_, f 1 _ rfl (by decide), f 2 _ rfl (by decide), f 3 _ rfl (by decide), hl⟩
 have := cells_get hc 0 _ rfl
 rw [Addr.add_add] at this
 exact this
theorem LiesL.cellsB {w w' : World} {A : Option Addr} {l : List Cr} (h : LiesL w A 0 l) (hb : Below w.heap.size w w') {i : Nat} {k : Cr} (hk : l[i]? = some k) :
  ∃ b, A = some b ∧ (b.add (i * 4)).block < w.heap.size ∧ w'.cell? (b.add (i * 4)) = some (.int .i64 k.op) ∧ w'.cell? ⟨(b.add (i * 4)).block, (b.add (i * 4)).off + 1, none⟩ = some (.int .i64 k.n) ∧
   w'.cell? ⟨(b.add (i * 4)).block, (b.add (i * 4)).off + 2, none⟩ = some (.int .i64 k.m) ∧ w'.cell? ⟨(b.add (i * 4)).block, (b.add (i * 4)).off + 3, none⟩ = some (.slice k.at_ k.kids.length k.cap) := by
 obtain ⟨b, h1, h2, h3, h4, h5, h6, -⟩ := h.cells hk
 exact ⟨b, h1, h2, (hb.cell (p := b.add (i * 4)) h2).trans h3, (hb.cell (p := ⟨(b.add (i * 4)).block, (b.add (i * 4)).off + 1, none⟩) h2).trans h4, (hb.cell (p := ⟨(b.add (i * 4)).block, (b.add (i * 4)).off + 2, none⟩) h2).trans h5, (hb.cell (p := ⟨(b.add (i * 4)).block, (b.add (i * 4)).off + 3, none⟩) h2).trans h6⟩

def PredC (g : Nat) (lb : Array Value) (p : Cr → Bool) (w : World) (l : List Cr) : Prop :=
 ∀ k ∈ l, ∀ W, Below w.heap.size w W → Calls Tryd.prog g (#[.agg #[.int .i64 k.op, .int .i64 k.n, .int .i64 k.m, .slice k.at_ k.kids.length k.cap]] ++ lb) W fun e w' => e = .returned (.bool (p k)) ∧ Below W.heap.size W w'

theorem indexC_calls {g : Nat} {lb : Array Value} (eg : ∀ args w, (callFunc g args).run Tryd.prog w = .ok (.enter g args) w) {p : Cr → Bool} {A : Option Addr} {l : List Cr} (c : Nat) {w : World} (hl : LiesL w A 0 l) (hbig : l.length ≤ 4398046511104) (hp : PredC g lb p w l) :
  Calls Tryd.prog 85 #[.slice A l.length c, .func (.func g) #[] lb] w fun e w' => (∃ r : Int, e = .returned (.int .i64 r) ∧ decide (0 ≤ r) = l.any p) ∧ Below w.heap.size w w' := by
 obtain ⟨n, hn⟩ : ∃ n, l.length = n := ⟨_, rfl⟩
 have HL := Lib.hid hl
 have HP := Lib.hid hp
 have HN := Lib.hid hn
 rw [hn]
 rw [hn] at hbig
 clear hl hp hn
 go_enter Tryd.func85, Tryd.ntmps85
 go_wp2
 go_loopg [5, 8] n (fun gg _ s8 wr => ∃ kk : Nat, kk ≤ n ∧ n - kk ≤ gg ∧ s8 = .int .i64 kk ∧ Aside0 (Below w.heap.size w wr) ∧ Aside0 (∀ j, j < kk → ∀ x, l[j]? = some x → p x = false))
 case atStart => exact ⟨0, Nat.zero_le _, by omega, rfl, ⟨Below.refl _ w⟩, ⟨fun j hj => absurd hj (Nat.not_lt_zero _)⟩⟩
 case round =>
  obtain ⟨kk, hkk, hg, rfl, BW, A9⟩ := hrel
  have HB := Lib.hid BW.out
  have HA := Lib.hid A9.out
  clear BW A9
  by_cases hlt : kk < n
  ·have hltz : ((kk : Int) < (n : Int)) = True := eq_true (by omega)
   have h0 := eq_true (show (0 : Int) ≤ (kk : Int) by omega)
   obtain ⟨y, hy⟩ : ∃ y, l[kk]? = some y := ⟨_, List.getElem?_eq_getElem (by rw [HN.out]; exact hlt)⟩
   obtain ⟨b, rfl, hblk, c0, c1, c2, c3⟩ := HL.out.cellsB HB.out hy
   have hcall := HP.out y (List.mem_of_getElem? hy) _ HB.out
   have HY := Lib.hid hy
   have hw : wrap64 ((kk : Int) + 1) = ((kk + 1 : Nat) : Int) := by unfold wrap64; omega
   clear hy
   cases hq : p y with
   | true =>
    rw [hq] at hcall
    go_wp2_with fail
    refine hcall.mono ?_
    rintro e w' ⟨rfl, hb'⟩
    go_wp2_with fail
    go_ret
    refine ⟨⟨_, rfl, ?_⟩, HB.out.trans (hb'.mono HB.out.size)⟩
    rw [List.any_eq_true.2 ⟨y, List.mem_of_getElem? HY.out, hq⟩]
    exact decide_eq_true (Int.natCast_nonneg _)
   | false =>
    rw [hq] at hcall
    have HQ := Lib.hid hq
    clear hq
    go_wp2_with fail
    refine hcall.mono ?_
    rintro e w' ⟨rfl, hb'⟩
    go_wp2_with fail
    go_roundg (n - (kk + 1))
    case measure => clear hw; omega
    case rel =>
     have e9 : ((kk : Int) + 1) = ((kk + 1 : Nat) : Int) := rfl
     clear hw
     refine ⟨kk + 1, by omega, by omega, by first | rfl | simp, ⟨HB.out.trans (hb'.mono HB.out.size)⟩, ⟨fun j hj x hx => ?_⟩⟩
     by_cases e : j = kk
     ·subst e
      rw [HY.out] at hx
      injection hx with hx
      subst hx
      exact HQ.out
     ·exact HA.out j (by omega) x hx
  ·have hltz : ((kk : Int) < (n : Int)) = False := eq_false (by omega)
   have : kk = n := by omega
   subst this
   go_wp2
   go_ret
   refine ⟨⟨_, rfl, ?_⟩, HB.out⟩
   have : l.any p = false := by
    rw [List.any_eq_false]
    intro x hx
    obtain ⟨j, hj, rfl⟩ := List.getElem_of_mem hx
    have := HA.out j (by rw [← HN.out]; exact hj) _ (List.getElem?_eq_getElem hj)
    simp [this]
   rw [this]
   rfl
theorem containsC_calls {g : Nat} {lb : Array Value} (eg : ∀ args w, (callFunc g args).run Tryd.prog w = .ok (.enter g args) w) {p : Cr → Bool} {A : Option Addr} {l : List Cr} (c : Nat) {w : World} (hl : LiesL w A 0 l) (hbig : l.length ≤ 4398046511104) (hp : PredC g lb p w l) :
  Calls Tryd.prog 53 #[.slice A l.length c, .func (.func g) #[] lb] w fun e w' => e = .returned (.bool (l.any p)) ∧ Below w.heap.size w w' := by
 go_enter Tryd.func53, Tryd.ntmps53
 go_wp2_with (go_at_call 85; refine (indexC_calls eg c hl hbig hp).mono ?_; rintro e w' ⟨⟨r, rfl, hr⟩, hb'⟩)
 go_ret
 exact ⟨by rw [← hr]; rfl, hb'⟩
end Go.Proofs.YtpljkcakijkklaaDoor

end
section
namespace Go.Proofs.YtpljkcakijkklaaDoor
set_option linter.unusedVariables false
set_option linter.unusedSimpArgs false
open Go.RowKit Go.Proofs.YtpljkcakijkklaaDoorW.PrintWords Go.Proofs.YtpljkcakijkklaaDoorW.PrintLast Go.Proofs.YtpljkcakijkklaaDoorW.PrintMore

theorem when_calls (b : Bool) (s : Int) {r : Int} (hr : (if b then s else 0) = r) (w : World) : Calls Tryd.prog 41 #[.bool b, .int .i64 s] w fun e w' => e = .returned (.int .i64 r) ∧ w' = w := by
 subst hr
 cases b
 ·go_enter Tryd.func41, Tryd.ntmps41
  go_wp2
  go_ret
  exact ⟨rfl, rfl⟩
 ·go_enter Tryd.func41, Tryd.ntmps41
  go_wp2
  go_ret
  exact ⟨rfl, rfl⟩

def SortC (rw rc rl : Int) (k : Cr) (v : Int) : Prop :=
 ∀ W, Lies W k → Calls Tryd.prog 22 #[.agg #[.int .i64 rw, .int .i64 rc, .int .i64 rl], .agg #[.int .i64 k.op, .int .i64 k.n, .int .i64 k.m, .slice k.at_ k.kids.length k.cap]] W fun e w' => e = .returned (.int .i64 v) ∧ Below W.heap.size W w'

theorem not_any_ne (s : Cr → Int) (sort : Int) (l : List Cr) : (!l.any fun k => s k != sort) = l.all fun k => s k == sort := by
 induction l with
 | nil => rfl
 | cons x l ih => rw [List.any_cons, List.all_cons, Bool.not_or, ih]; simp [bne]
theorem box1 (w : World) (o : Obj) : ∃ w1, w.alloc o = w1 ∧ Below w.heap.size w w1 ∧ w1.heap[w.heap.size]? = some o ∧ w1.heap.size = w.heap.size + 1 :=
 ⟨_, rfl, below_alloc (Below.refl _ _) _, blk_new _ _, by simp⟩
theorem box2 (w : World) (o o2 : Obj) : ∃ w1, (w.alloc o).alloc o2 = w1 ∧ Below w.heap.size w w1 ∧ w1.heap[w.heap.size]? = some o ∧ w1.heap[w.heap.size + 1]? = some o2 ∧ w1.heap.size = w.heap.size + 2 := by
 refine ⟨_, rfl, below_alloc (below_alloc (Below.refl _ _) _) _, blk_alloc (blk_new _ _) _, ?_, by simp⟩
 have := blk_new (w.alloc o) o2
 simpa using this
theorem core_cells {w : World} {g : Nat} {o n m : Int} {v : Value} (h : w.heap[g]? = some (.cells #[.int .i64 o, .int .i64 n, .int .i64 m, v] 24 (0, 0))) :
  w.cell? ⟨g, 0, none⟩ = some (.int .i64 o) ∧ w.cell? ⟨g, 1, none⟩ = some (.int .i64 n) ∧ w.cell? ⟨g, 2, none⟩ = some (.int .i64 m) ∧ w.cell? ⟨g, 3, none⟩ = some v :=
 ⟨(blk_cell h 0).trans rfl, (blk_cell h 1).trans rfl, (blk_cell h 2).trans rfl, (blk_cell h 3).trans rfl⟩
theorem room_cells {w : World} {g : Nat} {a b c : Int} (h : w.heap[g]? = some (.cells #[.int .i64 a, .int .i64 b, .int .i64 c] 68 (0, 0))) :
  w.cell? ⟨g, 0, none⟩ = some (.int .i64 a) ∧ w.cell? ⟨g, 1, none⟩ = some (.int .i64 b) ∧ w.cell? ⟨g, 2, none⟩ = some (.int .i64 c) :=
 ⟨(blk_cell h 0).trans rfl, (blk_cell h 1).trans rfl, (blk_cell h 2).trans rfl⟩

theorem all1_calls {rw rc rl sort v : Int} {k : Cr} {b : Bool} (hb : (v != sort) = b) {g1 g2 : Nat} {w : World} (h1 : w.heap[g1]? = some (.cells #[.int .i64 rw, .int .i64 rc, .int .i64 rl] 68 (0, 0))) (h2 : w.heap[g2]? = some (.cells #[.int .i64 sort] 3 (0, 0)))
  (hk : SortC rw rc rl k v) (hl : Lies w k) : Calls Tryd.prog 54 #[.agg #[.int .i64 k.op, .int .i64 k.n, .int .i64 k.m, .slice k.at_ k.kids.length k.cap], .pointer (some ⟨g1, 0, none⟩), .pointer (some ⟨g2, 0, none⟩)] w fun e w' => e = .returned (.bool b) ∧ Below w.heap.size w w' := by
 have HK := Lib.hid hk
 have HL := Lib.hid hl
 obtain ⟨op, n, m, at_, cap, kids⟩ := k
 simp only [Cr.op, Cr.n, Cr.m, Cr.at_, Cr.cap, Cr.kids] at *
 obtain ⟨w1, e1, b1, k3, s1⟩ := box1 w (.cells #[.int .i64 op, .int .i64 n, .int .i64 m, .slice at_ kids.length cap] 24)
 have HE := Lib.hid e1
 have HC := Lib.hid fun (w' : World) (hb : Below w1.heap.size w1 w') => (show ((w'.cell? ⟨w.heap.size, 0, none⟩ = some (.int .i64 op) ∧ w'.cell? ⟨w.heap.size, 1, none⟩ = some (.int .i64 n) ∧ w'.cell? ⟨w.heap.size, 2, none⟩ = some (.int .i64 m) ∧ w'.cell? ⟨w.heap.size, 3, none⟩ = some (.slice at_ kids.length cap)) ∧
   (w'.cell? ⟨g1, 0, none⟩ = some (.int .i64 rw) ∧ w'.cell? ⟨g1, 1, none⟩ = some (.int .i64 rc) ∧ w'.cell? ⟨g1, 2, none⟩ = some (.int .i64 rl)) ∧ w'.cell? ⟨g2, 0, none⟩ = some (.int .i64 sort)) from
  ⟨core_cells (blk_below k3 hb), room_cells (blk_below (blk_below h1 b1) hb), (blk_cell (blk_below (blk_below h2 b1) hb) 0).trans rfl⟩)
 have B1 := Lib.hid b1
 clear hk hl h1 h2 k3 e1 b1 s1
 go_enter Tryd.func54, Tryd.ntmps54
 go_wp2_with fail
 rw [HE.out]
 refine wp_region_held_drew (S := fun w' => Aside0 (Below w1.heap.size w1 w')) (by kernel_rfl) ?_ (fun hHeld => ?_)
 ·exact ⟨(Below.refl _ _).drew⟩
 have HCr := HC
 refine' tk 0 ?_
 try simp only [pt]
 refine' tk 1 ?_
 try simp only [pt]
 refine' tk 3 ?_
 try simp only [pt]
 refine' cm 2 (fun K hK => ?_)
 go_simp
 refine (HK.out _ (HL.out.below (B1.out.trans (hHeld.out.mono B1.out.size)))).mono ?_
 rintro e w2 ⟨rfl, hb2⟩
 refine hK.out _ _ ⟨hHeld.out.trans (hb2.mono hHeld.out.size)⟩ (fun hHeld => ?_)
 clear hK K
 try simp only [pt]
 refine' tk 4 ?_
 try simp only [pt]
 refine' tk 5 ?_
 try simp only [pt]
 refine wpAnyH_done (by kernel_rfl) ?_ _
 go_wp2_with fail
 go_ret
 exact ⟨by simp [← hb], B1.out.trans (hHeld.out.mono B1.out.size)⟩

theorem all_calls {rw rc rl sort : Int} {A : Option Addr} {l : List Cr} (c : Nat) {w : World} (hl : LiesL w A 0 l) (hbig : l.length ≤ 4398046511104) (s : Cr → Int) (ih : ∀ k ∈ l, SortC rw rc rl k (s k)) {b : Bool} (hb : l.all (fun k => s k == sort) = b) :
  Calls Tryd.prog 43 #[.agg #[.int .i64 rw, .int .i64 rc, .int .i64 rl], .int .i64 sort, .slice A l.length c] w fun e w' => e = .returned (.bool b) ∧ Below w.heap.size w w' := by
 obtain ⟨w1, e1, b1, k1, k2, s1⟩ := box2 w (.cells #[.int .i64 rw, .int .i64 rc, .int .i64 rl] 68) (.cells #[.int .i64 sort] 3)
 have HP := Lib.hid (show PredC 54 #[.pointer (some ⟨w.heap.size, 0, none⟩), .pointer (some ⟨w.heap.size + 1, 0, none⟩)] (fun k => s k != sort) w1 l from fun k hk W hW =>
  all1_calls rfl (blk_below k1 hW) (blk_below k2 hW) (ih k hk) ((LiesL.lies hl hk).below (b1.trans (hW.mono b1.size))))
 have HE := Lib.hid e1
 have HL := Lib.hid (hl.below b1)
 have B1 := Lib.hid b1
 obtain ⟨len, hlen⟩ : ∃ n, l.length = n := ⟨_, rfl⟩
 have HN := Lib.hid hlen
 have HBG := Lib.hid hbig
 rw [hlen]
 clear hl ih k1 k2 e1 b1 s1 hlen hbig
 go_enter Tryd.func43, Tryd.ntmps43
 go_wp2_with fail
 rw [HE.out, ← HN.out]
 refine (containsC_calls (fun _ _ => by first | rfl | simp) c HL.out HBG.out HP.out).mono ?_
 rintro e w2 ⟨rfl, hb2⟩
 go_wp2_with fail
 go_ret
 refine ⟨?_, B1.out.trans (hb2.mono B1.out.size)⟩
 rw [← hb]
 show Ending.returned (.bool (!l.any fun k => s k != sort)) = _
 rw [not_any_ne]
end Go.Proofs.YtpljkcakijkklaaDoor

end
section
namespace Go.Proofs.YtpljkcakijkklaaDoor
set_option linter.unusedVariables false
set_option linter.unusedSimpArgs false
open Go.RowKit Go.Proofs.YtpljkcakijkklaaDoorW.PrintWords Go.Proofs.YtpljkcakijkklaaDoorW.PrintLast Go.Proofs.YtpljkcakijkklaaDoorW.PrintMore

def oneS (rl op n m s : Int) : Int :=
 if op = 7 then (if m = 0 then (if 0 ≤ n then (if n < rl then (if s = 3 then 0 else s) else 0) else 0) else 0)
 else if op = 13 then (if 0 ≤ n then (if 1 ≤ m then (if s = 1 then 1 else 0) else 0) else 0)
 else if n = 0 then (if m = 0 then
  (if op = 9 then (if s = 2 then 2 else 0)
   else if op = 8 then (if s = 1 then 1 else 0) else if op = 10 then (if s = 1 then 1 else 0) else if op = 11 then (if s = 1 then 1 else 0) else if op = 12 then (if s = 1 then 1 else 0)
   else if op = 30 then (if s = 1 then 3 else 0) else if op = 31 then (if s = 1 then 3 else 0) else 0) else 0) else 0

theorem one_calls {rw rc rl v op n m : Int} {at_ : Option Addr} {cap : Nat} {k : Cr} {w : World} (hl : Lies w (.node op n m at_ cap [k])) (hk : SortC rw rc rl k v) :
  Calls Tryd.prog 35 #[.agg #[.int .i64 rw, .int .i64 rc, .int .i64 rl], .agg #[.int .i64 op, .int .i64 n, .int .i64 m, .slice at_ 1 cap]] w fun e w' => e = .returned (.int .i64 (oneS rl op n m v)) ∧ Below w.heap.size w w' := by
 obtain ⟨w1, e1, b1, k2, k3, s1⟩ := box2 w (.cells #[.int .i64 rw, .int .i64 rc, .int .i64 rl] 68) (.cells #[.int .i64 op, .int .i64 n, .int .i64 m, .slice at_ 1 cap] 24)
 have hl1 := hl.below b1
 obtain ⟨b, rfl, -, -, -, -, -, hlk⟩ := hl1.kids.cells (i := 0) (k := k) rfl
 have HC := Lib.hid fun (w' : World) (hb : Below w1.heap.size w1 w') => (show ((w'.cell? ⟨w.heap.size, 0, none⟩ = some (.int .i64 rw) ∧ w'.cell? ⟨w.heap.size, 1, none⟩ = some (.int .i64 rc) ∧ w'.cell? ⟨w.heap.size, 2, none⟩ = some (.int .i64 rl)) ∧
   (w'.cell? ⟨w.heap.size + 1, 0, none⟩ = some (.int .i64 op) ∧ w'.cell? ⟨w.heap.size + 1, 1, none⟩ = some (.int .i64 n) ∧ w'.cell? ⟨w.heap.size + 1, 2, none⟩ = some (.int .i64 m) ∧ w'.cell? ⟨w.heap.size + 1, 3, none⟩ = some (.slice (some b) 1 cap)) ∧
   (w'.cell? b = some (.int .i64 k.op) ∧ w'.cell? ⟨b.block, b.off + 1, none⟩ = some (.int .i64 k.n) ∧ w'.cell? ⟨b.block, b.off + 2, none⟩ = some (.int .i64 k.m) ∧ w'.cell? ⟨b.block, b.off + 3, none⟩ = some (.slice k.at_ k.kids.length k.cap))) from by
  obtain ⟨b', hb', -, c0, c1, c2, c3⟩ := hl1.kids.cellsB hb (i := 0) (k := k) rfl
  injection hb' with hb'
  subst hb'
  exact ⟨room_cells (blk_below k2 hb), core_cells (blk_below k3 hb), by simpa [Addr.add] using c0, by simpa [Addr.add] using c1, by simpa [Addr.add] using c2, by simpa [Addr.add] using c3⟩)
 have HE := Lib.hid e1
 have HK := Lib.hid hk
 have HL := Lib.hid hlk
 have B1 := Lib.hid b1
 clear hl hl1 hk hlk k2 k3 e1 b1 s1
 go_enter Tryd.func35, Tryd.ntmps35
 go_wp2_with fail
 rw [HE.out]
 refine wp_region_held_drew (S := fun w' => Aside0 (Below w1.heap.size w1 w')) (by kernel_rfl) ?_ (fun hHeld => ?_)
 ·exact ⟨(Below.refl _ _).drew⟩
 have HCr := HC
 refine' tk 0 ?_
 try simp only [pt]
 refine' tk 1 ?_
 try simp only [pt]
 refine' tk 2 ?_
 try simp only [pt]
 refine' tk 3 ?_
 try simp only [pt]
 refine' tk 4 ?_
 try simp only [pt]
 refine' cm 5 (fun K hK => ?_)
 go_simp
 refine (HK.out _ (HL.out.below hHeld.out)).mono ?_
 rintro e w2 ⟨rfl, hb2⟩
 refine hK.out _ _ ⟨hHeld.out.trans (hb2.mono hHeld.out.size)⟩ (fun hHeld => ?_)
 clear hK K
 try simp only [pt]
 refine' tk 6 ?_
 try simp only [pt]
 refine wpAnyH_done (by kernel_rfl) ?_ _
 obtain ⟨⟨y0, y1, y2⟩, ⟨x0, x1, x2, x3⟩, -⟩ := HC.out w2 hHeld.out
 have BB := Lib.hid (B1.out.trans (hHeld.out.mono B1.out.size))
 clear HC HE HK HL hHeld hb2 B1
 go_wp2
 all_goals
  go_ret
  refine ⟨?_, BB.out⟩
  clear BB y0 y1 y2 x0 x1 x2 x3
  first | (simp_all [oneS]; done) | (simp_all [oneS]; omega) | (simp_all [oneS]; intros; omega)
end Go.Proofs.YtpljkcakijkklaaDoor

end
section
namespace Go.Proofs.YtpljkcakijkklaaDoor
set_option linter.unusedVariables false
set_option linter.unusedSimpArgs false
open Go.RowKit Go.Proofs.YtpljkcakijkklaaDoorW.PrintWords Go.Proofs.YtpljkcakijkklaaDoorW.PrintLast Go.Proofs.YtpljkcakijkklaaDoorW.PrintMore

def rungsP (s : Cr → Int) : Option Int → List Cr → Bool
 | _, [] => false
 | _, [a] => s a == 3
 | p, x :: y :: l => x.op == 1 && (s x == 1 && ((match p with | none => true | some q => decide (q < x.n)) && (s y == 3 && rungsP s (some x.n) l)))
def prvP (l : List Cr) (i : Nat) : Option Int := if i = 0 then none else (l[i - 2]?).map Cr.n
theorem rungsP_step {s : Cr → Int} {l : List Cr} {i : Nat} {x y : Cr} (hx : l[i]? = some x) (hy : l[i + 1]? = some y) (p : Option Int) :
  rungsP s p (l.drop i) = (x.op == 1 && (s x == 1 && ((match p with | none => true | some q => decide (q < x.n)) && (s y == 3 && rungsP s (some x.n) (l.drop (i + 2)))))) := by
 have h1 : i < l.length := (List.getElem?_eq_some_iff.1 hx).1
 have h2 : i + 1 < l.length := (List.getElem?_eq_some_iff.1 hy).1
 rw [List.drop_eq_getElem_cons h1, List.drop_eq_getElem_cons h2]
 rw [List.getElem?_eq_getElem h1] at hx
 rw [List.getElem?_eq_getElem h2] at hy
 injection hx with hx
 injection hy with hy
 rw [hx, hy]
 rfl
theorem rungsP_last {s : Cr → Int} {l : List Cr} {i : Nat} {x : Cr} (hx : l[i]? = some x) (hl : l.length = i + 1) (p : Option Int) : rungsP s p (l.drop i) = (s x == 3) := by
 have h1 : i < l.length := (List.getElem?_eq_some_iff.1 hx).1
 rw [List.drop_eq_getElem_cons h1, List.drop_of_length_le (by omega)]
 rw [List.getElem?_eq_getElem h1] at hx
 injection hx with hx
 rw [hx]
 rfl
theorem liesL_new {w : World} {k : Cr} {t : TypeId} (h : Lies w k) : LiesL (w.alloc (.cells #[.int .i64 k.op, .int .i64 k.n, .int .i64 k.m, .slice k.at_ k.kids.length k.cap] t)) (some ⟨w.heap.size, 0, none⟩) 0 [k] := by
 have hb := below_alloc (Below.refl w.heap.size w) (.cells #[.int .i64 k.op, .int .i64 k.n, .int .i64 k.m, .slice k.at_ k.kids.length k.cap] t)
 rw [LiesL, LiesL]
 refine ⟨⟨_, rfl, ?_⟩, h.below hb, trivial⟩
 exact World.cells?_alloc_all w #[.int .i64 k.op, .int .i64 k.n, .int .i64 k.m, .slice k.at_ k.kids.length k.cap] t 0 4 (Nat.zero_le _) rfl

theorem rungs_calls {rw rc rl : Int} {A : Option Addr} {l : List Cr} (c : Nat) {w : World} (hl : LiesL w A 0 l) (hbig : l.length ≤ 4398046511104) (hodd : l.length % 2 = 1) (s : Cr → Int) (ih : ∀ k ∈ l, SortC rw rc rl k (s k)) {r : Bool} (hr : rungsP s none l = r) :
  Calls Tryd.prog 44 #[.agg #[.int .i64 rw, .int .i64 rc, .int .i64 rl], .slice A l.length c] w fun e w' => e = .returned (.bool r) ∧ Below w.heap.size w w' := by
 obtain ⟨w1, e1, b1, k2, s1⟩ := box1 w (.cells #[.int .i64 rw, .int .i64 rc, .int .i64 rl] 68)
 have hl1 := hl.below b1
 obtain ⟨b, rfl⟩ : ∃ b, A = some b := by
  obtain ⟨b, hb, -⟩ := hl1.cells (i := 0) (k := l[0]'(by omega)) (List.getElem?_eq_getElem _)
  exact ⟨b, hb⟩
 have HL := Lib.hid hl1
 have HE := Lib.hid e1
 have B1 := Lib.hid b1
 have HK2 := Lib.hid k2
 have HIH := Lib.hid ih
 have HR := Lib.hid hr
 obtain ⟨len, hlen⟩ : ∃ n, l.length = n := ⟨_, rfl⟩
 have HN := Lib.hid hlen
 have HBG := Lib.hid (show len ≤ 4398046511104 by rw [← hlen]; exact hbig)
 have HOD := Lib.hid (show len % 2 = 1 by rw [← hlen]; exact hodd)
 rw [hlen]
 clear hl hl1 ih hr hlen hbig hodd k2 e1 b1 s1
 go_enter Tryd.func44, Tryd.ntmps44
 go_wp2_with fail
 rw [HE.out]
 go_loopg [5] len (fun gg v5 wr => ∃ i : Nat, v5 = .int .i64 i ∧ Aside0 (i % 2 = 0 ∧ i < len ∧ len - i ≤ gg) ∧ Aside0 (Below w1.heap.size w1 wr) ∧ Aside0 (rungsP s (prvP l i) (l.drop i) = r))
 case atStart => exact ⟨0, rfl, ⟨by have := HOD.out; omega⟩, ⟨Below.refl _ _⟩, ⟨HR.out⟩⟩
 case round =>
  obtain ⟨i, rfl, hi, BW, HRR⟩ := hrel
  have HI := Lib.hid hi.out
  have HB := Lib.hid BW.out
  have HQ := Lib.hid HRR.out
  clear hi BW HRR HR
  obtain ⟨j, hj⟩ : ∃ j, i + 1 = j := ⟨_, rfl⟩
  have HJ := Lib.hid hj
  have hiR : i ≤ 4398046511104 := by have := HI.out; have := HBG.out; omega
  have wj : wrap64 ((i : Int) + 1) = (j : Int) := by unfold wrap64; omega
  have wj2 : IntKind.i64.wrap ((i : Int) + 1) = (j : Int) := by rw [i64_w]; exact wj
  obtain ⟨x, hx⟩ : ∃ x, l[i]? = some x := ⟨_, List.getElem?_eq_getElem (by rw [HN.out]; exact HI.out.2.1)⟩
  have HX := Lib.hid hx
  have HXK := Lib.hid (HIH.out x (List.mem_of_getElem? hx))
  have HXL := Lib.hid (LiesL.lies HL.out (List.mem_of_getElem? hx))
  have hi0 := eq_true (show (0 : Int) ≤ (i : Int) by omega)
  have hi1 : ((i : Int) < (len : Int)) = True := eq_true (by have := HI.out; omega)
  by_cases hlt : j < len
  ·obtain ⟨y, hy⟩ : ∃ y, l[j]? = some y := ⟨_, List.getElem?_eq_getElem (by rw [HN.out]; exact hlt)⟩
   have HY := Lib.hid hy
   have HYK := Lib.hid (HIH.out y (List.mem_of_getElem? hy))
   have HYL := Lib.hid (LiesL.lies HL.out (List.mem_of_getElem? hy))
   have hST := rungsP_step (s := s) hx (by rw [hj]; exact hy) (prvP l i)
   rw [HQ.out] at hST
   have HST := Lib.hid hST
   have hj0 := eq_true (show (0 : Int) ≤ (j : Int) by omega)
   have hj1 : ((j : Int) < (len : Int)) = True := eq_true (by omega)
   have HC := Lib.hid fun (w' : World) (hb : Below wr.heap.size wr w') => (show ((w'.cell? ⟨w.heap.size, 0, none⟩ = some (.int .i64 rw) ∧ w'.cell? ⟨w.heap.size, 1, none⟩ = some (.int .i64 rc) ∧ w'.cell? ⟨w.heap.size, 2, none⟩ = some (.int .i64 rl)) ∧
     (w'.cell? (b.add (i * 4)) = some (.int .i64 x.op) ∧ w'.cell? ⟨(b.add (i * 4)).block, (b.add (i * 4)).off + 1, none⟩ = some (.int .i64 x.n) ∧ w'.cell? ⟨(b.add (i * 4)).block, (b.add (i * 4)).off + 2, none⟩ = some (.int .i64 x.m) ∧ w'.cell? ⟨(b.add (i * 4)).block, (b.add (i * 4)).off + 3, none⟩ = some (.slice x.at_ x.kids.length x.cap)) ∧
     (w'.cell? (b.add (j * 4)) = some (.int .i64 y.op) ∧ w'.cell? ⟨(b.add (j * 4)).block, (b.add (j * 4)).off + 1, none⟩ = some (.int .i64 y.n) ∧ w'.cell? ⟨(b.add (j * 4)).block, (b.add (j * 4)).off + 2, none⟩ = some (.int .i64 y.m) ∧ w'.cell? ⟨(b.add (j * 4)).block, (b.add (j * 4)).off + 3, none⟩ = some (.slice y.at_ y.kids.length y.cap)) ∧
     (∀ (h : Nat) (z : Cr), l[h]? = some z → w'.cell? ⟨(b.add (h * 4)).block, (b.add (h * 4)).off + 1, none⟩ = some (.int .i64 z.n))) from by
    have hb' := HB.out.trans (hb.mono HB.out.size)
    obtain ⟨p, hp, -, c0, c1, c2, c3⟩ := HL.out.cellsB hb' HX.out
    injection hp with hp
    subst hp
    obtain ⟨p, hp, -, d0, d1, d2, d3⟩ := HL.out.cellsB hb' HY.out
    injection hp with hp
    subst hp
    refine ⟨room_cells (blk_below HK2.out hb'), ⟨c0, c1, c2, c3⟩, ⟨d0, d1, d2, d3⟩, fun h z hz => ?_⟩
    obtain ⟨p, hp, -, -, a1, -⟩ := HL.out.cellsB hb' hz
    injection hp with hp
    subst hp
    exact a1)
   obtain ⟨bd, hbd⟩ : ∃ bd, (s y == 3) = bd := ⟨_, rfl⟩
   have HBD := Lib.hid hbd
   obtain ⟨i2, hi2⟩ : ∃ i2, i + 2 = i2 := ⟨_, rfl⟩
   have HI2 := Lib.hid hi2
   have wi2 : wrap64 ((i : Int) + 2) = (i2 : Int) := by unfold wrap64; omega
   have HLT := Lib.hid hlt
   clear hx hy hj hlt hST hiR hbd hi2
   by_cases q1 : x.op = 1
   ·have q1b : (x.op != 1) = false := by simp [q1]
    have HQ1 := Lib.hid q1
    clear q1
    by_cases q2 : s x = 1
    ·by_cases q3 : i = 0
     ·have hgt : ((0 : Int) < (i : Int)) = False := eq_false (by omega)
      have hgt2 : (0 < i) = False := eq_false (by omega)
      have HPZ := Lib.hid (show prvP l i = none by unfold prvP; rw [if_pos q3])
      clear q3
      go_wp2_with fail
      refine wp_region_held_drew (S := fun w' => Aside0 (Below wr.heap.size wr w')) (by kernel_rfl) ?_ (fun hHeld => ?_)
      ·exact ⟨(Below.refl _ _).drew⟩
      generalize World.drew _ = wDc at hHeld ⊢
      have HCr := HC
      refine' tk 0 ?_
      try simp only [pt]
      refine' tk 1 ?_
      try simp only [pt]
      refine' tk 2 ?_
      try simp only [pt]
      refine' tk 3 ?_
      try simp only [pt]
      refine' tk 4 ?_
      try simp only [pt]
      refine' tk 5 ?_
      try simp only [pt]
      refine' tk 6 ?_
      try simp only [pt]
      refine' tk 7 ?_
      try simp only [pt]
      refine' tk 8 ?_
      try simp only [pt]
      refine' tk 9 ?_
      try simp only [pt]
      refine' tk 10 ?_
      try simp only [pt]
      refine' tk 11 ?_
      try simp only [pt]
      refine' cm 12 (fun K hK => ?_)
      go_simp
      have hHeld0 := hHeld
      refine hK.out _ _ ⟨hHeld.out.alloc hHeld.out.size _⟩ (fun hHeld => ?_)
      clear hK K
      try simp only [pt]
      refine' cm 13 (fun K hK => ?_)
      go_simp
      refine (all_calls _ (liesL_new (HXL.out.below (HB.out.trans (hHeld0.out.mono HB.out.size)))) (by simp) s (fun k hk => by rw [List.mem_singleton.1 hk]; exact HXK.out) (b := true) (by simp; exact q2)).mono ?_
      rintro e w7 ⟨rfl, hb2⟩
      refine hK.out _ _ ⟨hHeld.out.trans (hb2.mono hHeld.out.size)⟩ (fun hHeld => ?_)
      clear hK K
      try simp only [pt]
      refine' tk 14 ?_
      try simp only [pt]
      refine' tk 15 ?_
      try simp only [pt]
      refine' tk 16 ?_
      try simp only [pt]
      refine' tk 17 ?_
      try simp only [pt]
      refine' tk 18 ?_
      try simp only [pt]
      refine' tk 19 ?_
      try simp only [pt]
      refine' tn 20 ?_
      try simp only [pt]
      refine' tn 21 ?_
      try simp only [pt]
      refine' tn 22 ?_
      try simp only [pt]
      refine' tn 23 ?_
      try simp only [pt]
      refine' tn 24 ?_
      try simp only [pt]
      refine' tn 25 ?_
      try simp only [pt]
      refine' tn 26 ?_
      try simp only [pt]
      refine' tn 27 ?_
      try simp only [pt]
      refine' tn 28 ?_
      try simp only [pt]
      refine' tn 29 ?_
      try simp only [pt]
      refine' tn 30 ?_
      try simp only [pt]
      refine' tn 31 ?_
      try simp only [pt]
      refine' tk 32 ?_
      try simp only [pt]
      refine' tk 33 ?_
      try simp only [pt]
      refine' tk 34 ?_
      try simp only [pt]
      refine' tk 35 ?_
      try simp only [pt]
      refine' tk 36 ?_
      try simp only [pt]
      refine' tk 37 ?_
      try simp only [pt]
      refine' tk 38 ?_
      try simp only [pt]
      refine' tk 39 ?_
      try simp only [pt]
      refine' tk 40 ?_
      try simp only [pt]
      refine' cm 41 (fun K hK => ?_)
      go_simp
      have hHeld0 := hHeld
      refine hK.out _ _ ⟨hHeld.out.alloc hHeld.out.size _⟩ (fun hHeld => ?_)
      clear hK K
      try simp only [pt]
      refine' cm 42 (fun K hK => ?_)
      go_simp
      refine (all_calls _ (liesL_new (HYL.out.below (HB.out.trans (hHeld0.out.mono HB.out.size)))) (by simp) s (fun k hk => by rw [List.mem_singleton.1 hk]; exact HYK.out) (b := bd) (by simp; exact HBD.out)).mono ?_
      rintro e w7 ⟨rfl, hb2⟩
      refine hK.out _ _ ⟨hHeld.out.trans (hb2.mono hHeld.out.size)⟩ (fun hHeld => ?_)
      clear hK K
      try simp only [pt]
      refine' tk 43 ?_
      try simp only [pt]
      refine' tk 44 ?_
      try simp only [pt]
      refine wpAnyH_done (by kernel_rfl) ?_ _
      cases bd with
      | false =>
       go_wp2_with fail
       go_ret
       refine ⟨?_, B1.out.trans ((HB.out.trans (hHeld.out.mono HB.out.size)).mono B1.out.size)⟩
       rw [HST.out, HBD.out]
       simp
      | true =>
       go_wp2_with fail
       go_roundg (gk - 2)
       case measure => clear wi2 wj wj2 ; have := HI.out; have := HJ.out; omega
       case rel =>
        refine ⟨i2, by first | rfl | simp [wi2], ⟨by clear wi2 wj wj2 ; have := HI.out; have := HI2.out; have := HJ.out; have := HOD.out; have := HLT.out; omega⟩, ⟨HB.out.trans (hHeld.out.mono HB.out.size)⟩, ⟨?_⟩⟩
        rw [HST.out, HBD.out, HPZ.out, HQ1.out, q2, ← HI2.out]
        have e : prvP l (i + 2) = some x.n := by unfold prvP; rw [if_neg (by omega), Nat.add_sub_cancel, HX.out]; rfl
        rw [e]
        simp
     ·obtain ⟨h, hh⟩ : ∃ h, h + 2 = i := ⟨i - 2, by have := HI.out; omega⟩
      obtain ⟨z, hz⟩ : ∃ z, l[h]? = some z := ⟨_, List.getElem?_eq_getElem (by rw [HN.out]; have := HI.out; omega)⟩
      have HZ := Lib.hid hz
      have hpz : prvP l i = some z.n := by
       unfold prvP
       rw [if_neg q3, show i - 2 = h by omega, hz]
       rfl
      have HPZ := Lib.hid hpz
      have hh0 := eq_true (show (0 : Int) ≤ (h : Int) by omega)
      have hh1 : ((h : Int) < (len : Int)) = True := eq_true (by have := HI.out; omega)
      have hgt : ((0 : Int) < (i : Int)) = True := eq_true (by omega)
      have hgt2 : (0 < i) = True := eq_true (by omega)
      have wh : wrap64 ((i : Int) - 2) = (h : Int) := by have := HI.out; have := HBG.out; unfold wrap64; omega
      have wh2 : IntKind.i64.wrap ((i : Int) - 2) = (h : Int) := by rw [i64_w]; exact wh
      have HC2 := Lib.hid fun (w' : World) (hb : Below wr.heap.size wr w') => (show _ ∧ _ ∧ _ ∧ w'.cell? ⟨(b.add (h * 4)).block, (b.add (h * 4)).off + 1, none⟩ = some (.int .i64 z.n) from ⟨(HC.out w' hb).1, (HC.out w' hb).2.1, (HC.out w' hb).2.2.1, (HC.out w' hb).2.2.2 h z HZ.out⟩)
      clear hz hpz hh q3
      by_cases q4 : x.n ≤ z.n
      ·go_wp2_with fail
       refine wp_region_held_drew (S := fun w' => Aside0 (Below wr.heap.size wr w')) (by kernel_rfl) ?_ (fun hHeld => ?_)
       ·exact ⟨(Below.refl _ _).drew⟩
       generalize World.drew _ = wDd at hHeld ⊢
       have HCr := HC2
       refine' tk 0 ?_
       try simp only [pt]
       refine' tk 1 ?_
       try simp only [pt]
       refine' tk 2 ?_
       try simp only [pt]
       refine' tk 3 ?_
       try simp only [pt]
       refine' tk 4 ?_
       try simp only [pt]
       refine' tk 5 ?_
       try simp only [pt]
       refine' tk 6 ?_
       try simp only [pt]
       refine' tk 7 ?_
       try simp only [pt]
       refine' tk 8 ?_
       try simp only [pt]
       refine' tk 9 ?_
       try simp only [pt]
       refine' tk 10 ?_
       try simp only [pt]
       refine' tk 11 ?_
       try simp only [pt]
       refine' cm 12 (fun K hK => ?_)
       go_simp
       have hHeld0 := hHeld
       refine hK.out _ _ ⟨hHeld.out.alloc hHeld.out.size _⟩ (fun hHeld => ?_)
       clear hK K
       try simp only [pt]
       refine' cm 13 (fun K hK => ?_)
       go_simp
       refine (all_calls _ (liesL_new (HXL.out.below (HB.out.trans (hHeld0.out.mono HB.out.size)))) (by simp) s (fun k hk => by rw [List.mem_singleton.1 hk]; exact HXK.out) (b := true) (by simp; exact q2)).mono ?_
       rintro e w7 ⟨rfl, hb2⟩
       refine hK.out _ _ ⟨hHeld.out.trans (hb2.mono hHeld.out.size)⟩ (fun hHeld => ?_)
       clear hK K
       try simp only [pt]
       refine' tk 14 ?_
       try simp only [pt]
       refine' tk 15 ?_
       try simp only [pt]
       refine' tk 16 ?_
       try simp only [pt]
       refine' tk 17 ?_
       try simp only [pt]
       refine' tk 18 ?_
       try simp only [pt]
       refine' tk 19 ?_
       try simp only [pt]
       refine' tk 20 ?_
       try simp only [pt]
       refine' tk 21 ?_
       try simp only [pt]
       refine' tk 22 ?_
       try simp only [pt]
       refine' tk 23 ?_
       try simp only [pt]
       refine' tk 24 ?_
       try simp only [pt]
       refine' tk 25 ?_
       try simp only [pt]
       refine' tk 26 ?_
       try simp only [pt]
       refine' tk 27 ?_
       try simp only [pt]
       refine' tk 28 ?_
       try simp only [pt]
       refine' tk 29 ?_
       try simp only [pt]
       refine' tk 30 ?_
       try simp only [pt]
       refine' tk 31 ?_
       try simp only [pt]
       refine' tk 32 ?_
       try simp only [pt]
       refine' tk 33 ?_
       try simp only [pt]
       refine' tk 34 ?_
       try simp only [pt]
       refine' tn 35 ?_
       try simp only [pt]
       refine' tn 36 ?_
       try simp only [pt]
       refine' tn 37 ?_
       try simp only [pt]
       refine' tn 38 ?_
       try simp only [pt]
       refine' tn 39 ?_
       try simp only [pt]
       refine' tn 40 ?_
       try simp only [pt]
       refine' tn 41 ?_
       try simp only [pt]
       refine' tn 42 ?_
       try simp only [pt]
       refine' tn 43 ?_
       try simp only [pt]
       refine' tk 44 ?_
       try simp only [pt]
       refine wpAnyH_done (by kernel_rfl) ?_ _
       go_wp2_with fail
       go_ret
       refine ⟨?_, B1.out.trans ((HB.out.trans (hHeld.out.mono HB.out.size)).mono B1.out.size)⟩
       rw [HST.out, HPZ.out]
       have e : decide (z.n < x.n) = false := decide_eq_false (Int.not_lt.2 q4)
       simp [e]
      ·have q4b : (x.n ≤ z.n) = False := eq_false q4
       go_wp2_with fail
       refine wp_region_held_drew (S := fun w' => Aside0 (Below wr.heap.size wr w')) (by kernel_rfl) ?_ (fun hHeld => ?_)
       ·exact ⟨(Below.refl _ _).drew⟩
       generalize World.drew _ = wDe at hHeld ⊢
       have HCr := HC2
       refine' tk 0 ?_
       try simp only [pt]
       refine' tk 1 ?_
       try simp only [pt]
       refine' tk 2 ?_
       try simp only [pt]
       refine' tk 3 ?_
       try simp only [pt]
       refine' tk 4 ?_
       try simp only [pt]
       refine' tk 5 ?_
       try simp only [pt]
       refine' tk 6 ?_
       try simp only [pt]
       refine' tk 7 ?_
       try simp only [pt]
       refine' tk 8 ?_
       try simp only [pt]
       refine' tk 9 ?_
       try simp only [pt]
       refine' tk 10 ?_
       try simp only [pt]
       refine' tk 11 ?_
       try simp only [pt]
       refine' cm 12 (fun K hK => ?_)
       go_simp
       have hHeld0 := hHeld
       refine hK.out _ _ ⟨hHeld.out.alloc hHeld.out.size _⟩ (fun hHeld => ?_)
       clear hK K
       try simp only [pt]
       refine' cm 13 (fun K hK => ?_)
       go_simp
       refine (all_calls _ (liesL_new (HXL.out.below (HB.out.trans (hHeld0.out.mono HB.out.size)))) (by simp) s (fun k hk => by rw [List.mem_singleton.1 hk]; exact HXK.out) (b := true) (by simp; exact q2)).mono ?_
       rintro e w7 ⟨rfl, hb2⟩
       refine hK.out _ _ ⟨hHeld.out.trans (hb2.mono hHeld.out.size)⟩ (fun hHeld => ?_)
       clear hK K
       try simp only [pt]
       refine' tk 14 ?_
       try simp only [pt]
       refine' tk 15 ?_
       try simp only [pt]
       refine' tk 16 ?_
       try simp only [pt]
       refine' tk 17 ?_
       try simp only [pt]
       refine' tk 18 ?_
       try simp only [pt]
       refine' tk 19 ?_
       try simp only [pt]
       refine' tk 20 ?_
       try simp only [pt]
       refine' tk 21 ?_
       try simp only [pt]
       refine' tk 22 ?_
       try simp only [pt]
       refine' tk 23 ?_
       try simp only [pt]
       refine' tk 24 ?_
       try simp only [pt]
       refine' tk 25 ?_
       try simp only [pt]
       refine' tk 26 ?_
       try simp only [pt]
       refine' tk 27 ?_
       try simp only [pt]
       refine' tk 28 ?_
       try simp only [pt]
       refine' tk 29 ?_
       try simp only [pt]
       refine' tk 30 ?_
       try simp only [pt]
       refine' tk 31 ?_
       try simp only [pt]
       refine' tk 32 ?_
       try simp only [pt]
       refine' tk 33 ?_
       try simp only [pt]
       refine' tk 34 ?_
       try simp only [pt]
       refine' tk 35 ?_
       try simp only [pt]
       refine' tk 36 ?_
       try simp only [pt]
       refine' tk 37 ?_
       try simp only [pt]
       refine' tk 38 ?_
       try simp only [pt]
       refine' tk 39 ?_
       try simp only [pt]
       refine' tk 40 ?_
       try simp only [pt]
       refine' cm 41 (fun K hK => ?_)
       go_simp
       have hHeld0 := hHeld
       refine hK.out _ _ ⟨hHeld.out.alloc hHeld.out.size _⟩ (fun hHeld => ?_)
       clear hK K
       try simp only [pt]
       refine' cm 42 (fun K hK => ?_)
       go_simp
       refine (all_calls _ (liesL_new (HYL.out.below (HB.out.trans (hHeld0.out.mono HB.out.size)))) (by simp) s (fun k hk => by rw [List.mem_singleton.1 hk]; exact HYK.out) (b := bd) (by simp; exact HBD.out)).mono ?_
       rintro e w7 ⟨rfl, hb2⟩
       refine hK.out _ _ ⟨hHeld.out.trans (hb2.mono hHeld.out.size)⟩ (fun hHeld => ?_)
       clear hK K
       try simp only [pt]
       refine' tk 43 ?_
       try simp only [pt]
       refine' tk 44 ?_
       try simp only [pt]
       refine wpAnyH_done (by kernel_rfl) ?_ _
       cases bd with
       | false =>
        go_wp2_with fail
        go_ret
        refine ⟨?_, B1.out.trans ((HB.out.trans (hHeld.out.mono HB.out.size)).mono B1.out.size)⟩
        rw [HST.out, HBD.out]
        simp
       | true =>
        go_wp2_with fail
        go_roundg (gk - 2)
        case measure => clear wi2 wj wj2 wh wh2; have := HI.out; have := HJ.out; omega
        case rel =>
         refine ⟨i2, by first | rfl | simp [wi2], ⟨by clear wi2 wj wj2 wh wh2; have := HI.out; have := HI2.out; have := HJ.out; have := HOD.out; have := HLT.out; omega⟩, ⟨HB.out.trans (hHeld.out.mono HB.out.size)⟩, ⟨?_⟩⟩
         rw [HST.out, HBD.out, HPZ.out, HQ1.out, q2, ← HI2.out]
         have e : prvP l (i + 2) = some x.n := by unfold prvP; rw [if_neg (by omega), Nat.add_sub_cancel, HX.out]; rfl
         rw [e]
         have e2 : decide (z.n < x.n) = true := by first | exact decide_eq_true q4 | exact decide_eq_true (Int.not_le.1 q4)
         simp [e2]
    ·go_wp2_with fail
     refine wp_region_held_drew (S := fun w' => Aside0 (Below wr.heap.size wr w')) (by kernel_rfl) ?_ (fun hHeld => ?_)
     ·exact ⟨(Below.refl _ _).drew⟩
     generalize World.drew _ = wDb at hHeld ⊢
     have HCr := HC
     refine' tk 0 ?_
     try simp only [pt]
     refine' tk 1 ?_
     try simp only [pt]
     refine' tk 2 ?_
     try simp only [pt]
     refine' tk 3 ?_
     try simp only [pt]
     refine' tk 4 ?_
     try simp only [pt]
     refine' tk 5 ?_
     try simp only [pt]
     refine' tk 6 ?_
     try simp only [pt]
     refine' tk 7 ?_
     try simp only [pt]
     refine' tk 8 ?_
     try simp only [pt]
     refine' tk 9 ?_
     try simp only [pt]
     refine' tk 10 ?_
     try simp only [pt]
     refine' tk 11 ?_
     try simp only [pt]
     refine' cm 12 (fun K hK => ?_)
     go_simp
     have hHeld0 := hHeld
     refine hK.out _ _ ⟨hHeld.out.alloc hHeld.out.size _⟩ (fun hHeld => ?_)
     clear hK K
     try simp only [pt]
     refine' cm 13 (fun K hK => ?_)
     go_simp
     refine (all_calls _ (liesL_new (HXL.out.below (HB.out.trans (hHeld0.out.mono HB.out.size)))) (by simp) s (fun k hk => by rw [List.mem_singleton.1 hk]; exact HXK.out) (b := false) (by simp; exact q2)).mono ?_
     rintro e w7 ⟨rfl, hb2⟩
     refine hK.out _ _ ⟨hHeld.out.trans (hb2.mono hHeld.out.size)⟩ (fun hHeld => ?_)
     clear hK K
     try simp only [pt]
     refine' tk 14 ?_
     try simp only [pt]
     refine' tk 15 ?_
     try simp only [pt]
     refine' tk 16 ?_
     try simp only [pt]
     refine' tn 17 ?_
     try simp only [pt]
     refine' tn 18 ?_
     try simp only [pt]
     refine' tn 19 ?_
     try simp only [pt]
     refine' tn 20 ?_
     try simp only [pt]
     refine' tn 21 ?_
     try simp only [pt]
     refine' tn 22 ?_
     try simp only [pt]
     refine' tn 23 ?_
     try simp only [pt]
     refine' tn 24 ?_
     try simp only [pt]
     refine' tn 25 ?_
     try simp only [pt]
     refine' tn 26 ?_
     try simp only [pt]
     refine' tn 27 ?_
     try simp only [pt]
     refine' tn 28 ?_
     try simp only [pt]
     refine' tn 29 ?_
     try simp only [pt]
     refine' tn 30 ?_
     try simp only [pt]
     refine' tn 31 ?_
     try simp only [pt]
     refine' tn 32 ?_
     try simp only [pt]
     refine' tk 33 ?_
     try simp only [pt]
     refine' tk 34 ?_
     try simp only [pt]
     refine' tn 35 ?_
     try simp only [pt]
     refine' tn 36 ?_
     try simp only [pt]
     refine' tn 37 ?_
     try simp only [pt]
     refine' tn 38 ?_
     try simp only [pt]
     refine' tn 39 ?_
     try simp only [pt]
     refine' tn 40 ?_
     try simp only [pt]
     refine' tn 41 ?_
     try simp only [pt]
     refine' tn 42 ?_
     try simp only [pt]
     refine' tn 43 ?_
     try simp only [pt]
     refine' tk 44 ?_
     try simp only [pt]
     refine wpAnyH_done (by kernel_rfl) ?_ _
     go_wp2_with fail
     go_ret
     refine ⟨?_, B1.out.trans ((HB.out.trans (hHeld.out.mono HB.out.size)).mono B1.out.size)⟩
     rw [HST.out]
     simp [q2]
   ·have q1b : (x.op != 1) = true := by simp [q1]
    go_wp2_with fail
    refine wp_region_held_drew (S := fun w' => Aside0 (Below wr.heap.size wr w')) (by kernel_rfl) ?_ (fun hHeld => ?_)
    ·exact ⟨(Below.refl _ _).drew⟩
    generalize World.drew _ = wDa at hHeld ⊢
    have HCr := HC
    refine' tk 0 ?_
    try simp only [pt]
    refine' tk 1 ?_
    try simp only [pt]
    refine' tk 2 ?_
    try simp only [pt]
    refine' tk 3 ?_
    try simp only [pt]
    refine' tk 4 ?_
    try simp only [pt]
    refine' tk 5 ?_
    try simp only [pt]
    refine' tk 6 ?_
    try simp only [pt]
    refine' tn 7 ?_
    try simp only [pt]
    refine' tn 8 ?_
    try simp only [pt]
    refine' tn 9 ?_
    try simp only [pt]
    refine' tn 10 ?_
    try simp only [pt]
    refine' tn 11 ?_
    try simp only [pt]
    refine' tn 12 ?_
    try simp only [pt]
    refine' tn 13 ?_
    try simp only [pt]
    refine' tn 14 ?_
    try simp only [pt]
    refine' tk 15 ?_
    try simp only [pt]
    refine' tk 16 ?_
    try simp only [pt]
    refine' tn 17 ?_
    try simp only [pt]
    refine' tn 18 ?_
    try simp only [pt]
    refine' tn 19 ?_
    try simp only [pt]
    refine' tn 20 ?_
    try simp only [pt]
    refine' tn 21 ?_
    try simp only [pt]
    refine' tn 22 ?_
    try simp only [pt]
    refine' tn 23 ?_
    try simp only [pt]
    refine' tn 24 ?_
    try simp only [pt]
    refine' tn 25 ?_
    try simp only [pt]
    refine' tn 26 ?_
    try simp only [pt]
    refine' tn 27 ?_
    try simp only [pt]
    refine' tn 28 ?_
    try simp only [pt]
    refine' tn 29 ?_
    try simp only [pt]
    refine' tn 30 ?_
    try simp only [pt]
    refine' tn 31 ?_
    try simp only [pt]
    refine' tn 32 ?_
    try simp only [pt]
    refine' tk 33 ?_
    try simp only [pt]
    refine' tk 34 ?_
    try simp only [pt]
    refine' tn 35 ?_
    try simp only [pt]
    refine' tn 36 ?_
    try simp only [pt]
    refine' tn 37 ?_
    try simp only [pt]
    refine' tn 38 ?_
    try simp only [pt]
    refine' tn 39 ?_
    try simp only [pt]
    refine' tn 40 ?_
    try simp only [pt]
    refine' tn 41 ?_
    try simp only [pt]
    refine' tn 42 ?_
    try simp only [pt]
    refine' tn 43 ?_
    try simp only [pt]
    refine' tk 44 ?_
    try simp only [pt]
    refine wpAnyH_done (by kernel_rfl) ?_ _
    go_wp2_with fail
    go_ret
    refine ⟨?_, B1.out.trans ((HB.out.trans (hHeld.out.mono HB.out.size)).mono B1.out.size)⟩
    rw [HST.out]
    simp [q1]
  ·have hj1 : ((j : Int) < (len : Int)) = False := eq_false (by omega)
   have hjn : j = len := by have := HI.out; omega
   have hLA := rungsP_last (s := s) hx (by rw [HN.out, ← hjn, ← hj]) (prvP l i)
   rw [HQ.out] at hLA
   have HLA := Lib.hid hLA
   have wi : wrap64 ((len : Int) - 1) = (i : Int) := by have := HI.out; have := HBG.out; unfold wrap64; omega
   have wi2 : IntKind.i64.wrap ((len : Int) - 1) = (i : Int) := by rw [i64_w]; exact wi
   have HC := Lib.hid fun (w' : World) (hb : Below wr.heap.size wr w') => (show ((w'.cell? ⟨w.heap.size, 0, none⟩ = some (.int .i64 rw) ∧ w'.cell? ⟨w.heap.size, 1, none⟩ = some (.int .i64 rc) ∧ w'.cell? ⟨w.heap.size, 2, none⟩ = some (.int .i64 rl)) ∧
     (w'.cell? (b.add (i * 4)) = some (.int .i64 x.op) ∧ w'.cell? ⟨(b.add (i * 4)).block, (b.add (i * 4)).off + 1, none⟩ = some (.int .i64 x.n) ∧ w'.cell? ⟨(b.add (i * 4)).block, (b.add (i * 4)).off + 2, none⟩ = some (.int .i64 x.m) ∧ w'.cell? ⟨(b.add (i * 4)).block, (b.add (i * 4)).off + 3, none⟩ = some (.slice x.at_ x.kids.length x.cap))) from by
    have hb' := HB.out.trans (hb.mono HB.out.size)
    obtain ⟨p, hp, -, c0, c1, c2, c3⟩ := HL.out.cellsB hb' HX.out
    injection hp with hp
    subst hp
    exact ⟨room_cells (blk_below HK2.out hb'), ⟨c0, c1, c2, c3⟩⟩)
   clear hx hj hlt hLA hiR hjn
   go_wp2_with fail
   refine wp_region_held_drew (S := fun w' => Aside0 (Below wr.heap.size wr w')) (by kernel_rfl) ?_ (fun hHeld => ?_)
   ·exact ⟨(Below.refl _ _).drew⟩
   generalize World.drew _ = wDl at hHeld ⊢
   have HCr := HC
   refine' tk 0 ?_
   try simp only [pt]
   refine' tk 1 ?_
   try simp only [pt]
   refine' tk 2 ?_
   try simp only [pt]
   refine' tk 3 ?_
   try simp only [pt]
   refine' tk 4 ?_
   try simp only [pt]
   refine' tk 5 ?_
   try simp only [pt]
   refine' tk 6 ?_
   try simp only [pt]
   refine' cm 7 (fun K hK => ?_)
   go_simp
   have hHeld0 := hHeld
   refine hK.out _ _ ⟨hHeld.out.alloc hHeld.out.size _⟩ (fun hHeld => ?_)
   clear hK K
   try simp only [pt]
   refine' cm 8 (fun K hK => ?_)
   go_simp
   refine (all_calls _ (liesL_new (HXL.out.below (HB.out.trans (hHeld0.out.mono HB.out.size)))) (by simp) s (fun k hk => by rw [List.mem_singleton.1 hk]; exact HXK.out) (b := r) (by simp [HLA.out])).mono ?_
   rintro e w7 ⟨rfl, hb2⟩
   refine hK.out _ _ ⟨hHeld.out.trans (hb2.mono hHeld.out.size)⟩ (fun hHeld => ?_)
   clear hK K
   try simp only [pt]
   refine' tk 9 ?_
   try simp only [pt]
   refine wpAnyH_done (by kernel_rfl) ?_ _
   go_wp2_with fail
   go_ret
   exact ⟨by simp, B1.out.trans ((HB.out.trans (hHeld.out.mono HB.out.size)).mono B1.out.size)⟩
end Go.Proofs.YtpljkcakijkklaaDoor

end
section
namespace Go.Proofs.YtpljkcakijkklaaDoor
set_option linter.unusedVariables false
set_option linter.unusedSimpArgs false
open Go.RowKit Go.Proofs.YtpljkcakijkklaaDoorW.PrintWords Go.Proofs.YtpljkcakijkklaaDoorW.PrintLast Go.Proofs.YtpljkcakijkklaaDoorW.PrintMore

def ifS (s : Cr → Int) : List Cr → Int
 | [a, b, c] => if s a = 2 then (if s b = 1 then (if s c = 1 then 1 else 0) else if s b = 2 then (if s c = 2 then 2 else 0) else 0) else 0
 | _ => 0
def ladS (s : Cr → Int) : List Cr → Int
 | a :: t => if s a = 1 then (if rungsP s none t then 3 else 0) else 0
 | [] => 0
def twoS (s : Cr → Int) (op : Int) : List Cr → Int
 | [a, b] =>
  if op = 14 ∨ op = 15 ∨ op = 16 ∨ op = 17 ∨ op = 23 ∨ op = 24 then (if (s a == 1 && s b == 1) then 1 else 0)
  else if op = 18 ∨ op = 19 ∨ op = 20 ∨ op = 21 ∨ op = 22 then (if (s a == 1 && s b == 1) then 2 else 0)
  else if op = 25 ∨ op = 26 then (if (s a == 2 && s b == 2) then 2 else 0)
  else if op = 27 then (if s a = 3 then 0 else if s a = 0 then 0 else if s b = s a then s a else 0)
  else 0
 | _ => 0
def moreS (s : Cr → Int) (op n m : Int) (l : List Cr) : Int :=
 if n = 0 ∧ m = 0 then
  (if op = 28 ∧ l.length = 3 then ifS s l
   else if op = 32 ∧ 2 ≤ l.length ∧ l.length % 2 = 0 then ladS s l
   else if l.length = 2 then twoS s op l else 0)
 else 0
theorem liesL_tail {w : World} {b : Addr} {a : Cr} {t : List Cr} (h : LiesL w (some b) 0 (a :: t)) : LiesL w (some ⟨b.block, b.off + 4, none⟩) 0 t := by
 refine LiesL.of_get fun j c hj => ?_
 obtain ⟨⟨p, hp, hc⟩, hl⟩ := h.get (j := j + 1) (c := c) (by simpa using hj)
 injection hp with hp
 subst hp
 refine ⟨⟨_, rfl, ?_⟩, hl⟩
 have e : (⟨b.block, b.off + 4, none⟩ : Addr) = b.add 4 := rfl
 rw [e, Addr.add_add]
 rw [show 4 + (0 + j) * 4 = (0 + (j + 1)) * 4 by omega]
 exact hc
theorem LiesL.lit {w w' : World} {b : Addr} {l : List Cr} (h : LiesL w (some b) 0 l) (hb : Below w.heap.size w w') (i : Nat) {k : Cr} (hk : l[i + 1]? = some k) :
  w'.cell? ⟨b.block, b.off + (i + 1) * 4, none⟩ = some (.int .i64 k.op) ∧ w'.cell? ⟨b.block, b.off + (i + 1) * 4 + 1, none⟩ = some (.int .i64 k.n) ∧ w'.cell? ⟨b.block, b.off + (i + 1) * 4 + 2, none⟩ = some (.int .i64 k.m) ∧ w'.cell? ⟨b.block, b.off + (i + 1) * 4 + 3, none⟩ = some (.slice k.at_ k.kids.length k.cap) := by
 obtain ⟨p, hp, -, c0, c1, c2, c3⟩ := h.cellsB hb hk
 injection hp with hp
 subst hp
 have e : b.add ((i + 1) * 4) = ⟨b.block, b.off + (i + 1) * 4, none⟩ := by
  rw [show (i + 1) * 4 = (i * 4 + 3) + 1 by omega]
  rfl
 rw [e] at c0 c1 c2 c3
 exact ⟨c0, c1, c2, c3⟩
theorem LiesL.lit0 {w w' : World} {b : Addr} {l : List Cr} (h : LiesL w (some b) 0 l) (hb : Below w.heap.size w w') {k : Cr} (hk : l[0]? = some k) :
  w'.cell? b = some (.int .i64 k.op) ∧ w'.cell? ⟨b.block, b.off + 1, none⟩ = some (.int .i64 k.n) ∧ w'.cell? ⟨b.block, b.off + 2, none⟩ = some (.int .i64 k.m) ∧ w'.cell? ⟨b.block, b.off + 3, none⟩ = some (.slice k.at_ k.kids.length k.cap) := by
 obtain ⟨p, hp, -, c0, c1, c2, c3⟩ := h.cellsB hb hk
 injection hp with hp
 subst hp
 exact ⟨c0, c1, c2, c3⟩

section
variable {rw rc rl op n m : Int} {at_ : Option Addr} {cap : Nat} {w : World}
theorem more_n {len : Nat} (h : ¬ n = 0) :
  Calls Tryd.prog 36 #[.agg #[.int .i64 rw, .int .i64 rc, .int .i64 rl], .agg #[.int .i64 op, .int .i64 n, .int .i64 m, .slice at_ len cap]] w fun e w' => e = .returned (.int .i64 (0)) ∧ Below w.heap.size w w' := by
 go_enter Tryd.func36, Tryd.ntmps36
 have h1 : (n != 0) = true := by simp [h]
 go_wp2
 all_goals
  go_ret
  exact ⟨rfl, below_alloc (below_alloc (Below.refl _ _) _) _⟩
theorem more_m {len : Nat} (h : ¬ m = 0) :
  Calls Tryd.prog 36 #[.agg #[.int .i64 rw, .int .i64 rc, .int .i64 rl], .agg #[.int .i64 op, .int .i64 0, .int .i64 m, .slice at_ len cap]] w fun e w' => e = .returned (.int .i64 (0)) ∧ Below w.heap.size w w' := by
 go_enter Tryd.func36, Tryd.ntmps36
 have h1 : (m != 0) = true := by simp [h]
 go_wp2
 all_goals
  go_ret
  exact ⟨rfl, below_alloc (below_alloc (Below.refl _ _) _) _⟩
theorem more_28 {len : Nat} (h2 : ¬ len = 2) (h3 : ¬ len = 3) :
  Calls Tryd.prog 36 #[.agg #[.int .i64 rw, .int .i64 rc, .int .i64 rl], .agg #[.int .i64 28, .int .i64 0, .int .i64 0, .slice at_ len cap]] w fun e w' => e = .returned (.int .i64 (0)) ∧ Below w.heap.size w w' := by
 go_enter Tryd.func36, Tryd.ntmps36
 have h4 : ((len : Int) != 2) = true := by simp; omega
 have h5 : ((len : Int) == 3) = false := by simp; omega
 go_wp2
 all_goals
  go_ret
  exact ⟨rfl, below_alloc (below_alloc (Below.refl _ _) _) _⟩
theorem more_32 {len : Nat} (h2 : 2 < len) (h3 : len % 2 = 1) :
  Calls Tryd.prog 36 #[.agg #[.int .i64 rw, .int .i64 rc, .int .i64 rl], .agg #[.int .i64 32, .int .i64 0, .int .i64 0, .slice at_ len cap]] w fun e w' => e = .returned (.int .i64 (0)) ∧ Below w.heap.size w w' := by
 go_enter Tryd.func36, Tryd.ntmps36
 have h4 : ((len : Int) != 2) = true := by simp; omega
 have h5 : (2 ≤ (len : Int)) = True := eq_true (by omega)
 have h6 : (2 ≤ len) = True := eq_true (by omega)
 have h7 : (len : Int).tmod 2 = 1 := by rw [Int.tmod_eq_emod_of_nonneg (by omega)]; omega
 go_wp2
 all_goals
  go_ret
  exact ⟨rfl, below_alloc (below_alloc (Below.refl _ _) _) _⟩
theorem more_len {len : Nat} (h2 : ¬ len = 2) (q1 : ¬ op = 28) (q2 : ¬ op = 32) :
  Calls Tryd.prog 36 #[.agg #[.int .i64 rw, .int .i64 rc, .int .i64 rl], .agg #[.int .i64 op, .int .i64 0, .int .i64 0, .slice at_ len cap]] w fun e w' => e = .returned (.int .i64 (0)) ∧ Below w.heap.size w w' := by
 go_enter Tryd.func36, Tryd.ntmps36
 have h4 : ((len : Int) != 2) = true := by simp; omega
 have h5 : (op == 28) = false := by simp [q1]
 have h6 : (op == 32) = false := by simp [q2]
 go_wp2
 all_goals
  go_ret
  exact ⟨rfl, below_alloc (below_alloc (Below.refl _ _) _) _⟩
theorem more_low {len : Nat} (h2 : op < 14) :
  Calls Tryd.prog 36 #[.agg #[.int .i64 rw, .int .i64 rc, .int .i64 rl], .agg #[.int .i64 op, .int .i64 0, .int .i64 0, .slice at_ 2 cap]] w fun e w' => e = .returned (.int .i64 (0)) ∧ Below w.heap.size w w' := by
 go_enter Tryd.func36, Tryd.ntmps36
 have h23 : (op == 23) = false := by simp; omega
 have h24 : (op == 24) = false := by simp; omega
 have h25 : (op == 25) = false := by simp; omega
 have h26 : (op == 26) = false := by simp; omega
 have h27 : (op == 27) = false := by simp; omega
 have h28 : (op == 28) = false := by simp; omega
 have h32 : (op == 32) = false := by simp; omega
 have g1 : (14 ≤ op) = False := eq_false (by omega)
 have g2 : (18 ≤ op) = False := eq_false (by omega)
 go_wp2
 all_goals
  go_ret
  exact ⟨rfl, below_alloc (below_alloc (Below.refl _ _) _) _⟩
theorem more_high {len : Nat} (h2 : 27 < op) (q2 : ¬ op = 32) :
  Calls Tryd.prog 36 #[.agg #[.int .i64 rw, .int .i64 rc, .int .i64 rl], .agg #[.int .i64 op, .int .i64 0, .int .i64 0, .slice at_ 2 cap]] w fun e w' => e = .returned (.int .i64 (0)) ∧ Below w.heap.size w w' := by
 go_enter Tryd.func36, Tryd.ntmps36
 have h23 : (op == 23) = false := by simp; omega
 have h24 : (op == 24) = false := by simp; omega
 have h25 : (op == 25) = false := by simp; omega
 have h26 : (op == 26) = false := by simp; omega
 have h27 : (op == 27) = false := by simp; omega
 have h32 : (op == 32) = false := by simp; omega
 have g1 : (op ≤ 17) = False := eq_false (by omega)
 have g2 : (op ≤ 22) = False := eq_false (by omega)
 go_wp2
 all_goals
  go_ret
  exact ⟨rfl, below_alloc (below_alloc (Below.refl _ _) _) _⟩
theorem more_k14 {s : Cr → Int} {l : List Cr} (h2 : l.length = 2) (hl : LiesL w at_ 0 l) (ih : ∀ k ∈ l, SortC rw rc rl k (s k)) :
  Calls Tryd.prog 36 #[.agg #[.int .i64 rw, .int .i64 rc, .int .i64 rl], .agg #[.int .i64 14, .int .i64 0, .int .i64 0, .slice at_ l.length cap]] w fun e w' => e = .returned (.int .i64 (if l.all (fun k => s k == 1) then 1 else 0)) ∧ Below w.heap.size w w' := by
 obtain ⟨w1, e1, b1, k2, k3, s1⟩ := box2 w (.cells #[.int .i64 rw, .int .i64 rc, .int .i64 rl] 68) (.cells #[.int .i64 14, .int .i64 0, .int .i64 0, .slice at_ 2 cap] 24)
 have HE := Lib.hid e1
 have B1 := Lib.hid b1
 have HL := Lib.hid (hl.below b1)
 have HI := Lib.hid ih
 have H2 := Lib.hid h2
 obtain ⟨c0, c1, c2, c3⟩ := core_cells k3
 obtain ⟨r0, r1, r2⟩ := room_cells k2
 obtain ⟨bd, hbd⟩ : ∃ bd, (l.all fun k => s k == 1) = bd := ⟨_, rfl⟩
 have HBD := Lib.hid hbd
 obtain ⟨rr, hrr⟩ : ∃ rr, (if bd then (1 : Int) else 0) = rr := ⟨_, rfl⟩
 have HRR := Lib.hid hrr
 rw [hbd, h2, hrr]
 clear hl ih h2 k2 k3 e1 b1 hbd s1 hrr
 go_enter Tryd.func36, Tryd.ntmps36
 go_wp2_with fail
 rw [HE.out]
 go_wp2_with fail
 have hcall := all_calls cap HL.out (by rw [H2.out]; decide) s HI.out HBD.out
 rw [H2.out] at hcall
 refine hcall.mono ?_
 clear hcall
 rintro e w2 ⟨rfl, hb2⟩
 go_wp2_with fail
 refine (when_calls bd 1 HRR.out _).mono ?_
 rintro e w3 ⟨rfl, rfl⟩
 go_wp2_with fail
 go_ret
 exact ⟨rfl, B1.out.trans (hb2.mono B1.out.size)⟩
theorem more_k15 {s : Cr → Int} {l : List Cr} (h2 : l.length = 2) (hl : LiesL w at_ 0 l) (ih : ∀ k ∈ l, SortC rw rc rl k (s k)) :
  Calls Tryd.prog 36 #[.agg #[.int .i64 rw, .int .i64 rc, .int .i64 rl], .agg #[.int .i64 15, .int .i64 0, .int .i64 0, .slice at_ l.length cap]] w fun e w' => e = .returned (.int .i64 (if l.all (fun k => s k == 1) then 1 else 0)) ∧ Below w.heap.size w w' := by
 obtain ⟨w1, e1, b1, k2, k3, s1⟩ := box2 w (.cells #[.int .i64 rw, .int .i64 rc, .int .i64 rl] 68) (.cells #[.int .i64 15, .int .i64 0, .int .i64 0, .slice at_ 2 cap] 24)
 have HE := Lib.hid e1
 have B1 := Lib.hid b1
 have HL := Lib.hid (hl.below b1)
 have HI := Lib.hid ih
 have H2 := Lib.hid h2
 obtain ⟨c0, c1, c2, c3⟩ := core_cells k3
 obtain ⟨r0, r1, r2⟩ := room_cells k2
 obtain ⟨bd, hbd⟩ : ∃ bd, (l.all fun k => s k == 1) = bd := ⟨_, rfl⟩
 have HBD := Lib.hid hbd
 obtain ⟨rr, hrr⟩ : ∃ rr, (if bd then (1 : Int) else 0) = rr := ⟨_, rfl⟩
 have HRR := Lib.hid hrr
 rw [hbd, h2, hrr]
 clear hl ih h2 k2 k3 e1 b1 hbd s1 hrr
 go_enter Tryd.func36, Tryd.ntmps36
 go_wp2_with fail
 rw [HE.out]
 go_wp2_with fail
 have hcall := all_calls cap HL.out (by rw [H2.out]; decide) s HI.out HBD.out
 rw [H2.out] at hcall
 refine hcall.mono ?_
 clear hcall
 rintro e w2 ⟨rfl, hb2⟩
 go_wp2_with fail
 refine (when_calls bd 1 HRR.out _).mono ?_
 rintro e w3 ⟨rfl, rfl⟩
 go_wp2_with fail
 go_ret
 exact ⟨rfl, B1.out.trans (hb2.mono B1.out.size)⟩
theorem more_k16 {s : Cr → Int} {l : List Cr} (h2 : l.length = 2) (hl : LiesL w at_ 0 l) (ih : ∀ k ∈ l, SortC rw rc rl k (s k)) :
  Calls Tryd.prog 36 #[.agg #[.int .i64 rw, .int .i64 rc, .int .i64 rl], .agg #[.int .i64 16, .int .i64 0, .int .i64 0, .slice at_ l.length cap]] w fun e w' => e = .returned (.int .i64 (if l.all (fun k => s k == 1) then 1 else 0)) ∧ Below w.heap.size w w' := by
 obtain ⟨w1, e1, b1, k2, k3, s1⟩ := box2 w (.cells #[.int .i64 rw, .int .i64 rc, .int .i64 rl] 68) (.cells #[.int .i64 16, .int .i64 0, .int .i64 0, .slice at_ 2 cap] 24)
 have HE := Lib.hid e1
 have B1 := Lib.hid b1
 have HL := Lib.hid (hl.below b1)
 have HI := Lib.hid ih
 have H2 := Lib.hid h2
 obtain ⟨c0, c1, c2, c3⟩ := core_cells k3
 obtain ⟨r0, r1, r2⟩ := room_cells k2
 obtain ⟨bd, hbd⟩ : ∃ bd, (l.all fun k => s k == 1) = bd := ⟨_, rfl⟩
 have HBD := Lib.hid hbd
 obtain ⟨rr, hrr⟩ : ∃ rr, (if bd then (1 : Int) else 0) = rr := ⟨_, rfl⟩
 have HRR := Lib.hid hrr
 rw [hbd, h2, hrr]
 clear hl ih h2 k2 k3 e1 b1 hbd s1 hrr
 go_enter Tryd.func36, Tryd.ntmps36
 go_wp2_with fail
 rw [HE.out]
 go_wp2_with fail
 have hcall := all_calls cap HL.out (by rw [H2.out]; decide) s HI.out HBD.out
 rw [H2.out] at hcall
 refine hcall.mono ?_
 clear hcall
 rintro e w2 ⟨rfl, hb2⟩
 go_wp2_with fail
 refine (when_calls bd 1 HRR.out _).mono ?_
 rintro e w3 ⟨rfl, rfl⟩
 go_wp2_with fail
 go_ret
 exact ⟨rfl, B1.out.trans (hb2.mono B1.out.size)⟩
theorem more_k17 {s : Cr → Int} {l : List Cr} (h2 : l.length = 2) (hl : LiesL w at_ 0 l) (ih : ∀ k ∈ l, SortC rw rc rl k (s k)) :
  Calls Tryd.prog 36 #[.agg #[.int .i64 rw, .int .i64 rc, .int .i64 rl], .agg #[.int .i64 17, .int .i64 0, .int .i64 0, .slice at_ l.length cap]] w fun e w' => e = .returned (.int .i64 (if l.all (fun k => s k == 1) then 1 else 0)) ∧ Below w.heap.size w w' := by
 obtain ⟨w1, e1, b1, k2, k3, s1⟩ := box2 w (.cells #[.int .i64 rw, .int .i64 rc, .int .i64 rl] 68) (.cells #[.int .i64 17, .int .i64 0, .int .i64 0, .slice at_ 2 cap] 24)
 have HE := Lib.hid e1
 have B1 := Lib.hid b1
 have HL := Lib.hid (hl.below b1)
 have HI := Lib.hid ih
 have H2 := Lib.hid h2
 obtain ⟨c0, c1, c2, c3⟩ := core_cells k3
 obtain ⟨r0, r1, r2⟩ := room_cells k2
 obtain ⟨bd, hbd⟩ : ∃ bd, (l.all fun k => s k == 1) = bd := ⟨_, rfl⟩
 have HBD := Lib.hid hbd
 obtain ⟨rr, hrr⟩ : ∃ rr, (if bd then (1 : Int) else 0) = rr := ⟨_, rfl⟩
 have HRR := Lib.hid hrr
 rw [hbd, h2, hrr]
 clear hl ih h2 k2 k3 e1 b1 hbd s1 hrr
 go_enter Tryd.func36, Tryd.ntmps36
 go_wp2_with fail
 rw [HE.out]
 go_wp2_with fail
 have hcall := all_calls cap HL.out (by rw [H2.out]; decide) s HI.out HBD.out
 rw [H2.out] at hcall
 refine hcall.mono ?_
 clear hcall
 rintro e w2 ⟨rfl, hb2⟩
 go_wp2_with fail
 refine (when_calls bd 1 HRR.out _).mono ?_
 rintro e w3 ⟨rfl, rfl⟩
 go_wp2_with fail
 go_ret
 exact ⟨rfl, B1.out.trans (hb2.mono B1.out.size)⟩
theorem more_k23 {s : Cr → Int} {l : List Cr} (h2 : l.length = 2) (hl : LiesL w at_ 0 l) (ih : ∀ k ∈ l, SortC rw rc rl k (s k)) :
  Calls Tryd.prog 36 #[.agg #[.int .i64 rw, .int .i64 rc, .int .i64 rl], .agg #[.int .i64 23, .int .i64 0, .int .i64 0, .slice at_ l.length cap]] w fun e w' => e = .returned (.int .i64 (if l.all (fun k => s k == 1) then 1 else 0)) ∧ Below w.heap.size w w' := by
 obtain ⟨w1, e1, b1, k2, k3, s1⟩ := box2 w (.cells #[.int .i64 rw, .int .i64 rc, .int .i64 rl] 68) (.cells #[.int .i64 23, .int .i64 0, .int .i64 0, .slice at_ 2 cap] 24)
 have HE := Lib.hid e1
 have B1 := Lib.hid b1
 have HL := Lib.hid (hl.below b1)
 have HI := Lib.hid ih
 have H2 := Lib.hid h2
 obtain ⟨c0, c1, c2, c3⟩ := core_cells k3
 obtain ⟨r0, r1, r2⟩ := room_cells k2
 obtain ⟨bd, hbd⟩ : ∃ bd, (l.all fun k => s k == 1) = bd := ⟨_, rfl⟩
 have HBD := Lib.hid hbd
 obtain ⟨rr, hrr⟩ : ∃ rr, (if bd then (1 : Int) else 0) = rr := ⟨_, rfl⟩
 have HRR := Lib.hid hrr
 rw [hbd, h2, hrr]
 clear hl ih h2 k2 k3 e1 b1 hbd s1 hrr
 go_enter Tryd.func36, Tryd.ntmps36
 go_wp2_with fail
 rw [HE.out]
 go_wp2_with fail
 have hcall := all_calls cap HL.out (by rw [H2.out]; decide) s HI.out HBD.out
 rw [H2.out] at hcall
 refine hcall.mono ?_
 clear hcall
 rintro e w2 ⟨rfl, hb2⟩
 go_wp2_with fail
 refine (when_calls bd 1 HRR.out _).mono ?_
 rintro e w3 ⟨rfl, rfl⟩
 go_wp2_with fail
 go_ret
 exact ⟨rfl, B1.out.trans (hb2.mono B1.out.size)⟩
theorem more_k24 {s : Cr → Int} {l : List Cr} (h2 : l.length = 2) (hl : LiesL w at_ 0 l) (ih : ∀ k ∈ l, SortC rw rc rl k (s k)) :
  Calls Tryd.prog 36 #[.agg #[.int .i64 rw, .int .i64 rc, .int .i64 rl], .agg #[.int .i64 24, .int .i64 0, .int .i64 0, .slice at_ l.length cap]] w fun e w' => e = .returned (.int .i64 (if l.all (fun k => s k == 1) then 1 else 0)) ∧ Below w.heap.size w w' := by
 obtain ⟨w1, e1, b1, k2, k3, s1⟩ := box2 w (.cells #[.int .i64 rw, .int .i64 rc, .int .i64 rl] 68) (.cells #[.int .i64 24, .int .i64 0, .int .i64 0, .slice at_ 2 cap] 24)
 have HE := Lib.hid e1
 have B1 := Lib.hid b1
 have HL := Lib.hid (hl.below b1)
 have HI := Lib.hid ih
 have H2 := Lib.hid h2
 obtain ⟨c0, c1, c2, c3⟩ := core_cells k3
 obtain ⟨r0, r1, r2⟩ := room_cells k2
 obtain ⟨bd, hbd⟩ : ∃ bd, (l.all fun k => s k == 1) = bd := ⟨_, rfl⟩
 have HBD := Lib.hid hbd
 obtain ⟨rr, hrr⟩ : ∃ rr, (if bd then (1 : Int) else 0) = rr := ⟨_, rfl⟩
 have HRR := Lib.hid hrr
 rw [hbd, h2, hrr]
 clear hl ih h2 k2 k3 e1 b1 hbd s1 hrr
 go_enter Tryd.func36, Tryd.ntmps36
 go_wp2_with fail
 rw [HE.out]
 go_wp2_with fail
 have hcall := all_calls cap HL.out (by rw [H2.out]; decide) s HI.out HBD.out
 rw [H2.out] at hcall
 refine hcall.mono ?_
 clear hcall
 rintro e w2 ⟨rfl, hb2⟩
 go_wp2_with fail
 refine (when_calls bd 1 HRR.out _).mono ?_
 rintro e w3 ⟨rfl, rfl⟩
 go_wp2_with fail
 go_ret
 exact ⟨rfl, B1.out.trans (hb2.mono B1.out.size)⟩
theorem more_k18 {s : Cr → Int} {l : List Cr} (h2 : l.length = 2) (hl : LiesL w at_ 0 l) (ih : ∀ k ∈ l, SortC rw rc rl k (s k)) :
  Calls Tryd.prog 36 #[.agg #[.int .i64 rw, .int .i64 rc, .int .i64 rl], .agg #[.int .i64 18, .int .i64 0, .int .i64 0, .slice at_ l.length cap]] w fun e w' => e = .returned (.int .i64 (if l.all (fun k => s k == 1) then 2 else 0)) ∧ Below w.heap.size w w' := by
 obtain ⟨w1, e1, b1, k2, k3, s1⟩ := box2 w (.cells #[.int .i64 rw, .int .i64 rc, .int .i64 rl] 68) (.cells #[.int .i64 18, .int .i64 0, .int .i64 0, .slice at_ 2 cap] 24)
 have HE := Lib.hid e1
 have B1 := Lib.hid b1
 have HL := Lib.hid (hl.below b1)
 have HI := Lib.hid ih
 have H2 := Lib.hid h2
 obtain ⟨c0, c1, c2, c3⟩ := core_cells k3
 obtain ⟨r0, r1, r2⟩ := room_cells k2
 obtain ⟨bd, hbd⟩ : ∃ bd, (l.all fun k => s k == 1) = bd := ⟨_, rfl⟩
 have HBD := Lib.hid hbd
 obtain ⟨rr, hrr⟩ : ∃ rr, (if bd then (2 : Int) else 0) = rr := ⟨_, rfl⟩
 have HRR := Lib.hid hrr
 rw [hbd, h2, hrr]
 clear hl ih h2 k2 k3 e1 b1 hbd s1 hrr
 go_enter Tryd.func36, Tryd.ntmps36
 go_wp2_with fail
 rw [HE.out]
 go_wp2_with fail
 have hcall := all_calls cap HL.out (by rw [H2.out]; decide) s HI.out HBD.out
 rw [H2.out] at hcall
 refine hcall.mono ?_
 clear hcall
 rintro e w2 ⟨rfl, hb2⟩
 go_wp2_with fail
 refine (when_calls bd 2 HRR.out _).mono ?_
 rintro e w3 ⟨rfl, rfl⟩
 go_wp2_with fail
 go_ret
 exact ⟨rfl, B1.out.trans (hb2.mono B1.out.size)⟩
theorem more_k19 {s : Cr → Int} {l : List Cr} (h2 : l.length = 2) (hl : LiesL w at_ 0 l) (ih : ∀ k ∈ l, SortC rw rc rl k (s k)) :
  Calls Tryd.prog 36 #[.agg #[.int .i64 rw, .int .i64 rc, .int .i64 rl], .agg #[.int .i64 19, .int .i64 0, .int .i64 0, .slice at_ l.length cap]] w fun e w' => e = .returned (.int .i64 (if l.all (fun k => s k == 1) then 2 else 0)) ∧ Below w.heap.size w w' := by
 obtain ⟨w1, e1, b1, k2, k3, s1⟩ := box2 w (.cells #[.int .i64 rw, .int .i64 rc, .int .i64 rl] 68) (.cells #[.int .i64 19, .int .i64 0, .int .i64 0, .slice at_ 2 cap] 24)
 have HE := Lib.hid e1
 have B1 := Lib.hid b1
 have HL := Lib.hid (hl.below b1)
 have HI := Lib.hid ih
 have H2 := Lib.hid h2
 obtain ⟨c0, c1, c2, c3⟩ := core_cells k3
 obtain ⟨r0, r1, r2⟩ := room_cells k2
 obtain ⟨bd, hbd⟩ : ∃ bd, (l.all fun k => s k == 1) = bd := ⟨_, rfl⟩
 have HBD := Lib.hid hbd
 obtain ⟨rr, hrr⟩ : ∃ rr, (if bd then (2 : Int) else 0) = rr := ⟨_, rfl⟩
 have HRR := Lib.hid hrr
 rw [hbd, h2, hrr]
 clear hl ih h2 k2 k3 e1 b1 hbd s1 hrr
 go_enter Tryd.func36, Tryd.ntmps36
 go_wp2_with fail
 rw [HE.out]
 go_wp2_with fail
 have hcall := all_calls cap HL.out (by rw [H2.out]; decide) s HI.out HBD.out
 rw [H2.out] at hcall
 refine hcall.mono ?_
 clear hcall
 rintro e w2 ⟨rfl, hb2⟩
 go_wp2_with fail
 refine (when_calls bd 2 HRR.out _).mono ?_
 rintro e w3 ⟨rfl, rfl⟩
 go_wp2_with fail
 go_ret
 exact ⟨rfl, B1.out.trans (hb2.mono B1.out.size)⟩
theorem more_k20 {s : Cr → Int} {l : List Cr} (h2 : l.length = 2) (hl : LiesL w at_ 0 l) (ih : ∀ k ∈ l, SortC rw rc rl k (s k)) :
  Calls Tryd.prog 36 #[.agg #[.int .i64 rw, .int .i64 rc, .int .i64 rl], .agg #[.int .i64 20, .int .i64 0, .int .i64 0, .slice at_ l.length cap]] w fun e w' => e = .returned (.int .i64 (if l.all (fun k => s k == 1) then 2 else 0)) ∧ Below w.heap.size w w' := by
 obtain ⟨w1, e1, b1, k2, k3, s1⟩ := box2 w (.cells #[.int .i64 rw, .int .i64 rc, .int .i64 rl] 68) (.cells #[.int .i64 20, .int .i64 0, .int .i64 0, .slice at_ 2 cap] 24)
 have HE := Lib.hid e1
 have B1 := Lib.hid b1
 have HL := Lib.hid (hl.below b1)
 have HI := Lib.hid ih
 have H2 := Lib.hid h2
 obtain ⟨c0, c1, c2, c3⟩ := core_cells k3
 obtain ⟨r0, r1, r2⟩ := room_cells k2
 obtain ⟨bd, hbd⟩ : ∃ bd, (l.all fun k => s k == 1) = bd := ⟨_, rfl⟩
 have HBD := Lib.hid hbd
 obtain ⟨rr, hrr⟩ : ∃ rr, (if bd then (2 : Int) else 0) = rr := ⟨_, rfl⟩
 have HRR := Lib.hid hrr
 rw [hbd, h2, hrr]
 clear hl ih h2 k2 k3 e1 b1 hbd s1 hrr
 go_enter Tryd.func36, Tryd.ntmps36
 go_wp2_with fail
 rw [HE.out]
 go_wp2_with fail
 have hcall := all_calls cap HL.out (by rw [H2.out]; decide) s HI.out HBD.out
 rw [H2.out] at hcall
 refine hcall.mono ?_
 clear hcall
 rintro e w2 ⟨rfl, hb2⟩
 go_wp2_with fail
 refine (when_calls bd 2 HRR.out _).mono ?_
 rintro e w3 ⟨rfl, rfl⟩
 go_wp2_with fail
 go_ret
 exact ⟨rfl, B1.out.trans (hb2.mono B1.out.size)⟩
theorem more_k21 {s : Cr → Int} {l : List Cr} (h2 : l.length = 2) (hl : LiesL w at_ 0 l) (ih : ∀ k ∈ l, SortC rw rc rl k (s k)) :
  Calls Tryd.prog 36 #[.agg #[.int .i64 rw, .int .i64 rc, .int .i64 rl], .agg #[.int .i64 21, .int .i64 0, .int .i64 0, .slice at_ l.length cap]] w fun e w' => e = .returned (.int .i64 (if l.all (fun k => s k == 1) then 2 else 0)) ∧ Below w.heap.size w w' := by
 obtain ⟨w1, e1, b1, k2, k3, s1⟩ := box2 w (.cells #[.int .i64 rw, .int .i64 rc, .int .i64 rl] 68) (.cells #[.int .i64 21, .int .i64 0, .int .i64 0, .slice at_ 2 cap] 24)
 have HE := Lib.hid e1
 have B1 := Lib.hid b1
 have HL := Lib.hid (hl.below b1)
 have HI := Lib.hid ih
 have H2 := Lib.hid h2
 obtain ⟨c0, c1, c2, c3⟩ := core_cells k3
 obtain ⟨r0, r1, r2⟩ := room_cells k2
 obtain ⟨bd, hbd⟩ : ∃ bd, (l.all fun k => s k == 1) = bd := ⟨_, rfl⟩
 have HBD := Lib.hid hbd
 obtain ⟨rr, hrr⟩ : ∃ rr, (if bd then (2 : Int) else 0) = rr := ⟨_, rfl⟩
 have HRR := Lib.hid hrr
 rw [hbd, h2, hrr]
 clear hl ih h2 k2 k3 e1 b1 hbd s1 hrr
 go_enter Tryd.func36, Tryd.ntmps36
 go_wp2_with fail
 rw [HE.out]
 go_wp2_with fail
 have hcall := all_calls cap HL.out (by rw [H2.out]; decide) s HI.out HBD.out
 rw [H2.out] at hcall
 refine hcall.mono ?_
 clear hcall
 rintro e w2 ⟨rfl, hb2⟩
 go_wp2_with fail
 refine (when_calls bd 2 HRR.out _).mono ?_
 rintro e w3 ⟨rfl, rfl⟩
 go_wp2_with fail
 go_ret
 exact ⟨rfl, B1.out.trans (hb2.mono B1.out.size)⟩
theorem more_k22 {s : Cr → Int} {l : List Cr} (h2 : l.length = 2) (hl : LiesL w at_ 0 l) (ih : ∀ k ∈ l, SortC rw rc rl k (s k)) :
  Calls Tryd.prog 36 #[.agg #[.int .i64 rw, .int .i64 rc, .int .i64 rl], .agg #[.int .i64 22, .int .i64 0, .int .i64 0, .slice at_ l.length cap]] w fun e w' => e = .returned (.int .i64 (if l.all (fun k => s k == 1) then 2 else 0)) ∧ Below w.heap.size w w' := by
 obtain ⟨w1, e1, b1, k2, k3, s1⟩ := box2 w (.cells #[.int .i64 rw, .int .i64 rc, .int .i64 rl] 68) (.cells #[.int .i64 22, .int .i64 0, .int .i64 0, .slice at_ 2 cap] 24)
 have HE := Lib.hid e1
 have B1 := Lib.hid b1
 have HL := Lib.hid (hl.below b1)
 have HI := Lib.hid ih
 have H2 := Lib.hid h2
 obtain ⟨c0, c1, c2, c3⟩ := core_cells k3
 obtain ⟨r0, r1, r2⟩ := room_cells k2
 obtain ⟨bd, hbd⟩ : ∃ bd, (l.all fun k => s k == 1) = bd := ⟨_, rfl⟩
 have HBD := Lib.hid hbd
 obtain ⟨rr, hrr⟩ : ∃ rr, (if bd then (2 : Int) else 0) = rr := ⟨_, rfl⟩
 have HRR := Lib.hid hrr
 rw [hbd, h2, hrr]
 clear hl ih h2 k2 k3 e1 b1 hbd s1 hrr
 go_enter Tryd.func36, Tryd.ntmps36
 go_wp2_with fail
 rw [HE.out]
 go_wp2_with fail
 have hcall := all_calls cap HL.out (by rw [H2.out]; decide) s HI.out HBD.out
 rw [H2.out] at hcall
 refine hcall.mono ?_
 clear hcall
 rintro e w2 ⟨rfl, hb2⟩
 go_wp2_with fail
 refine (when_calls bd 2 HRR.out _).mono ?_
 rintro e w3 ⟨rfl, rfl⟩
 go_wp2_with fail
 go_ret
 exact ⟨rfl, B1.out.trans (hb2.mono B1.out.size)⟩
theorem more_k25 {s : Cr → Int} {l : List Cr} (h2 : l.length = 2) (hl : LiesL w at_ 0 l) (ih : ∀ k ∈ l, SortC rw rc rl k (s k)) :
  Calls Tryd.prog 36 #[.agg #[.int .i64 rw, .int .i64 rc, .int .i64 rl], .agg #[.int .i64 25, .int .i64 0, .int .i64 0, .slice at_ l.length cap]] w fun e w' => e = .returned (.int .i64 (if l.all (fun k => s k == 2) then 2 else 0)) ∧ Below w.heap.size w w' := by
 obtain ⟨w1, e1, b1, k2, k3, s1⟩ := box2 w (.cells #[.int .i64 rw, .int .i64 rc, .int .i64 rl] 68) (.cells #[.int .i64 25, .int .i64 0, .int .i64 0, .slice at_ 2 cap] 24)
 have HE := Lib.hid e1
 have B1 := Lib.hid b1
 have HL := Lib.hid (hl.below b1)
 have HI := Lib.hid ih
 have H2 := Lib.hid h2
 obtain ⟨c0, c1, c2, c3⟩ := core_cells k3
 obtain ⟨r0, r1, r2⟩ := room_cells k2
 obtain ⟨bd, hbd⟩ : ∃ bd, (l.all fun k => s k == 2) = bd := ⟨_, rfl⟩
 have HBD := Lib.hid hbd
 obtain ⟨rr, hrr⟩ : ∃ rr, (if bd then (2 : Int) else 0) = rr := ⟨_, rfl⟩
 have HRR := Lib.hid hrr
 rw [hbd, h2, hrr]
 clear hl ih h2 k2 k3 e1 b1 hbd s1 hrr
 go_enter Tryd.func36, Tryd.ntmps36
 go_wp2_with fail
 rw [HE.out]
 go_wp2_with fail
 have hcall := all_calls cap HL.out (by rw [H2.out]; decide) s HI.out HBD.out
 rw [H2.out] at hcall
 refine hcall.mono ?_
 clear hcall
 rintro e w2 ⟨rfl, hb2⟩
 go_wp2_with fail
 refine (when_calls bd 2 HRR.out _).mono ?_
 rintro e w3 ⟨rfl, rfl⟩
 go_wp2_with fail
 go_ret
 exact ⟨rfl, B1.out.trans (hb2.mono B1.out.size)⟩
theorem more_k26 {s : Cr → Int} {l : List Cr} (h2 : l.length = 2) (hl : LiesL w at_ 0 l) (ih : ∀ k ∈ l, SortC rw rc rl k (s k)) :
  Calls Tryd.prog 36 #[.agg #[.int .i64 rw, .int .i64 rc, .int .i64 rl], .agg #[.int .i64 26, .int .i64 0, .int .i64 0, .slice at_ l.length cap]] w fun e w' => e = .returned (.int .i64 (if l.all (fun k => s k == 2) then 2 else 0)) ∧ Below w.heap.size w w' := by
 obtain ⟨w1, e1, b1, k2, k3, s1⟩ := box2 w (.cells #[.int .i64 rw, .int .i64 rc, .int .i64 rl] 68) (.cells #[.int .i64 26, .int .i64 0, .int .i64 0, .slice at_ 2 cap] 24)
 have HE := Lib.hid e1
 have B1 := Lib.hid b1
 have HL := Lib.hid (hl.below b1)
 have HI := Lib.hid ih
 have H2 := Lib.hid h2
 obtain ⟨c0, c1, c2, c3⟩ := core_cells k3
 obtain ⟨r0, r1, r2⟩ := room_cells k2
 obtain ⟨bd, hbd⟩ : ∃ bd, (l.all fun k => s k == 2) = bd := ⟨_, rfl⟩
 have HBD := Lib.hid hbd
 obtain ⟨rr, hrr⟩ : ∃ rr, (if bd then (2 : Int) else 0) = rr := ⟨_, rfl⟩
 have HRR := Lib.hid hrr
 rw [hbd, h2, hrr]
 clear hl ih h2 k2 k3 e1 b1 hbd s1 hrr
 go_enter Tryd.func36, Tryd.ntmps36
 go_wp2_with fail
 rw [HE.out]
 go_wp2_with fail
 have hcall := all_calls cap HL.out (by rw [H2.out]; decide) s HI.out HBD.out
 rw [H2.out] at hcall
 refine hcall.mono ?_
 clear hcall
 rintro e w2 ⟨rfl, hb2⟩
 go_wp2_with fail
 refine (when_calls bd 2 HRR.out _).mono ?_
 rintro e w3 ⟨rfl, rfl⟩
 go_wp2_with fail
 go_ret
 exact ⟨rfl, B1.out.trans (hb2.mono B1.out.size)⟩
end
end Go.Proofs.YtpljkcakijkklaaDoor

end
section
namespace Go.Proofs.YtpljkcakijkklaaDoor
set_option linter.unusedVariables false
set_option linter.unusedSimpArgs false
open Go.RowKit Go.Proofs.YtpljkcakijkklaaDoorW.PrintWords Go.Proofs.YtpljkcakijkklaaDoorW.PrintLast Go.Proofs.YtpljkcakijkklaaDoorW.PrintMore

section
variable {rw rc rl : Int} {p : Addr} {cap : Nat} {w : World}
theorem all_one {sort v : Int} {A : Option Addr} {k : Cr} (c : Nat) (hl : LiesL w A 0 [k]) (hk : SortC rw rc rl k v) {b : Bool} (hb : (v == sort) = b) :
  Calls Tryd.prog 43 #[.agg #[.int .i64 rw, .int .i64 rc, .int .i64 rl], .int .i64 sort, .slice A 1 c] w fun e w' => e = .returned (.bool b) ∧ Below w.heap.size w w' :=
 all_calls c hl (by simp) (fun _ => v) (fun k' hk' => by rw [List.mem_singleton.1 hk']; exact hk) (by simpa using hb)
theorem more_if_f {va vb vc : Int} {ka kb kc : Cr} (hl : LiesL w (some p) 0 [ka, kb, kc]) (ihka : SortC rw rc rl ka va) (ihkb : SortC rw rc rl kb vb) (ihkc : SortC rw rc rl kc vc) (h1 : ¬ va = 2) :
  Calls Tryd.prog 36 #[.agg #[.int .i64 rw, .int .i64 rc, .int .i64 rl], .agg #[.int .i64 28, .int .i64 0, .int .i64 0, .slice (some p) 3 cap]] w fun e w' => e = .returned (.int .i64 (0)) ∧ Below w.heap.size w w' := by
 obtain ⟨w1, e1, b1, k2, k3, s1⟩ := box2 w (.cells #[.int .i64 rw, .int .i64 rc, .int .i64 rl] 68) (.cells #[.int .i64 28, .int .i64 0, .int .i64 0, .slice (some p) 3 cap] 24)
 have hl1 := hl.below b1
 have HC := Lib.hid fun (w' : World) (hb : Below w1.heap.size w1 w') => (show ((w'.cell? ⟨w.heap.size, 0, none⟩ = some (.int .i64 rw) ∧ w'.cell? ⟨w.heap.size, 1, none⟩ = some (.int .i64 rc) ∧ w'.cell? ⟨w.heap.size, 2, none⟩ = some (.int .i64 rl)) ∧
   (w'.cell? ⟨w.heap.size + 1, 0, none⟩ = some (.int .i64 28) ∧ w'.cell? ⟨w.heap.size + 1, 1, none⟩ = some (.int .i64 0) ∧ w'.cell? ⟨w.heap.size + 1, 2, none⟩ = some (.int .i64 0) ∧ w'.cell? ⟨w.heap.size + 1, 3, none⟩ = some (.slice (some p) 3 cap)) ∧
   (w'.cell? p = some (.int .i64 ka.op) ∧ w'.cell? ⟨p.block, p.off + 1, none⟩ = some (.int .i64 ka.n) ∧ w'.cell? ⟨p.block, p.off + 2, none⟩ = some (.int .i64 ka.m) ∧ w'.cell? ⟨p.block, p.off + 3, none⟩ = some (.slice ka.at_ ka.kids.length ka.cap)) ∧ (w'.cell? ⟨p.block, p.off + 4, none⟩ = some (.int .i64 kb.op) ∧ w'.cell? ⟨p.block, p.off + 4 + 1, none⟩ = some (.int .i64 kb.n) ∧ w'.cell? ⟨p.block, p.off + 4 + 2, none⟩ = some (.int .i64 kb.m) ∧ w'.cell? ⟨p.block, p.off + 4 + 3, none⟩ = some (.slice kb.at_ kb.kids.length kb.cap)) ∧ (w'.cell? ⟨p.block, p.off + 8, none⟩ = some (.int .i64 kc.op) ∧ w'.cell? ⟨p.block, p.off + 8 + 1, none⟩ = some (.int .i64 kc.n) ∧ w'.cell? ⟨p.block, p.off + 8 + 2, none⟩ = some (.int .i64 kc.m) ∧ w'.cell? ⟨p.block, p.off + 8 + 3, none⟩ = some (.slice kc.at_ kc.kids.length kc.cap))) from
  ⟨room_cells (blk_below k2 hb), core_cells (blk_below k3 hb), hl1.lit0 hb rfl, hl1.lit hb 0 rfl, hl1.lit hb 1 rfl⟩)
 have Lka := Lib.hid (LiesL.lies hl1 (k := ka) (by simp))
 have Kka := Lib.hid ihka
 have Lkb := Lib.hid (LiesL.lies hl1 (k := kb) (by simp))
 have Kkb := Lib.hid ihkb
 have Lkc := Lib.hid (LiesL.lies hl1 (k := kc) (by simp))
 have Kkc := Lib.hid ihkc
 have HE := Lib.hid e1
 have B1 := Lib.hid b1
 have HL := Lib.hid hl1
 obtain ⟨⟨y0, y1, y2⟩, ⟨x0, x1, x2, x3⟩, -⟩ := HC.out w1 (Below.refl _ _)
 clear hl hl1 k2 k3 e1 b1 s1 ihka ihkb ihkc
 have HA := Lib.hid (show (va == 2) = false by simp [h1])
 have HRR := Lib.hid (show (if false then vb else 0) = 0 from rfl)
 clear h1
 go_enter Tryd.func36, Tryd.ntmps36
 go_wp2_with fail
 rw [HE.out]
 go_wp2_with fail
 clear y0 y1 y2 x0 x1 x2 x3
 refine wp_region_held_drew (S := fun w' => Aside0 (Below w1.heap.size w1 w')) (by kernel_rfl) ?_ (fun hHeld => ?_)
 ·exact ⟨(Below.refl _ _).drew⟩
 generalize World.drew _ = wDa at hHeld ⊢
 have HCr := HC
 refine' tk 0 ?_
 try simp only [pt]
 refine' tk 1 ?_
 try simp only [pt]
 refine' tk 2 ?_
 try simp only [pt]
 refine' tk 3 ?_
 try simp only [pt]
 refine' tk 4 ?_
 try simp only [pt]
 refine' cm 5 (fun K hK => ?_)
 go_simp
 refine (Kkb.out _ (Lkb.out.below hHeld.out)).mono ?_
 rintro e w7 ⟨rfl, hb2⟩
 refine hK.out _ _ ⟨hHeld.out.trans (hb2.mono hHeld.out.size)⟩ (fun hHeld => ?_)
 clear hK K
 try simp only [pt]
 refine' tk 6 ?_
 try simp only [pt]
 refine wpAnyH_done (by kernel_rfl) ?_ _
 obtain ⟨⟨y0, y1, y2⟩, ⟨x0, x1, x2, x3⟩, -⟩ := HC.out _ hHeld.out
 go_wp2_with fail
 clear y0 y1 y2 x0 x1 x2 x3
 refine wp_region_held_drew (S := fun w' => Aside0 (Below w1.heap.size w1 w')) (by kernel_rfl) ?_ (fun hHeld => ?_)
 ·exact ⟨hHeld.out.drew⟩
 generalize World.drew _ = wDb at hHeld ⊢
 have HCr := HC
 refine' tk 0 ?_
 try simp only [pt]
 refine' tk 1 ?_
 try simp only [pt]
 refine' tk 2 ?_
 try simp only [pt]
 refine' tk 3 ?_
 try simp only [pt]
 refine' tk 4 ?_
 try simp only [pt]
 refine' tk 25 ?_
 try simp only [pt]
 refine' cm 5 (fun K hK => ?_)
 go_simp
 have hHeld0 := hHeld
 refine hK.out _ _ ⟨hHeld.out.alloc hHeld.out.size _⟩ (fun hHeld => ?_)
 clear hK K
 try simp only [pt]
 refine' cm 6 (fun K hK => ?_)
 go_simp
 refine (all_one _ (liesL_new (Lka.out.below hHeld0.out)) Kka.out HA.out).mono ?_
 rintro e w7 ⟨rfl, hb2⟩
 refine hK.out _ _ ⟨hHeld.out.trans (hb2.mono hHeld.out.size)⟩ (fun hHeld => ?_)
 clear hK K
 try simp only [pt]
 refine' tk 7 ?_
 try simp only [pt]
 refine' tn 8 ?_
 try simp only [pt]
 refine' tn 9 ?_
 try simp only [pt]
 refine' tn 10 ?_
 try simp only [pt]
 refine' tn 11 ?_
 try simp only [pt]
 refine' tn 12 ?_
 try simp only [pt]
 refine' tn 13 ?_
 try simp only [pt]
 refine' tk 14 ?_
 try simp only [pt]
 refine' tk 15 ?_
 try simp only [pt]
 refine' tn 16 ?_
 try simp only [pt]
 refine' tn 17 ?_
 try simp only [pt]
 refine' tn 18 ?_
 try simp only [pt]
 refine' tn 19 ?_
 try simp only [pt]
 refine' tn 20 ?_
 try simp only [pt]
 refine' tn 21 ?_
 try simp only [pt]
 refine' tn 22 ?_
 try simp only [pt]
 refine' tn 23 ?_
 try simp only [pt]
 refine' tk 24 ?_
 try simp only [pt]
 refine' cm 26 (fun K hK => ?_)
 go_simp
 refine (when_calls false _ HRR.out _).mono ?_
 rintro e w8 ⟨rfl, rfl⟩
 refine hK.out _ _ ⟨hHeld.out⟩ (fun hHeld => ?_)
 clear hK K
 try simp only [pt]
 refine' tk 27 ?_
 try simp only [pt]
 refine wpAnyH_done (by kernel_rfl) ?_ _
 go_wp2_with fail
 go_ret
 exact ⟨by first | rfl | simp, B1.out.trans (hHeld.out.mono B1.out.size)⟩
theorem more_if_1 {va vb vc : Int} {ka kb kc : Cr} (hl : LiesL w (some p) 0 [ka, kb, kc]) (ihka : SortC rw rc rl ka va) (ihkb : SortC rw rc rl kb vb) (ihkc : SortC rw rc rl kc vc) (h1 : va = 2) (h2 : vb = 1) {bc : Bool} (h3 : (vc == 1) = bc) {r : Int} (h4 : (if bc then (1 : Int) else 0) = r) :
  Calls Tryd.prog 36 #[.agg #[.int .i64 rw, .int .i64 rc, .int .i64 rl], .agg #[.int .i64 28, .int .i64 0, .int .i64 0, .slice (some p) 3 cap]] w fun e w' => e = .returned (.int .i64 (r)) ∧ Below w.heap.size w w' := by
 obtain ⟨w1, e1, b1, k2, k3, s1⟩ := box2 w (.cells #[.int .i64 rw, .int .i64 rc, .int .i64 rl] 68) (.cells #[.int .i64 28, .int .i64 0, .int .i64 0, .slice (some p) 3 cap] 24)
 have hl1 := hl.below b1
 have HC := Lib.hid fun (w' : World) (hb : Below w1.heap.size w1 w') => (show ((w'.cell? ⟨w.heap.size, 0, none⟩ = some (.int .i64 rw) ∧ w'.cell? ⟨w.heap.size, 1, none⟩ = some (.int .i64 rc) ∧ w'.cell? ⟨w.heap.size, 2, none⟩ = some (.int .i64 rl)) ∧
   (w'.cell? ⟨w.heap.size + 1, 0, none⟩ = some (.int .i64 28) ∧ w'.cell? ⟨w.heap.size + 1, 1, none⟩ = some (.int .i64 0) ∧ w'.cell? ⟨w.heap.size + 1, 2, none⟩ = some (.int .i64 0) ∧ w'.cell? ⟨w.heap.size + 1, 3, none⟩ = some (.slice (some p) 3 cap)) ∧
   (w'.cell? p = some (.int .i64 ka.op) ∧ w'.cell? ⟨p.block, p.off + 1, none⟩ = some (.int .i64 ka.n) ∧ w'.cell? ⟨p.block, p.off + 2, none⟩ = some (.int .i64 ka.m) ∧ w'.cell? ⟨p.block, p.off + 3, none⟩ = some (.slice ka.at_ ka.kids.length ka.cap)) ∧ (w'.cell? ⟨p.block, p.off + 4, none⟩ = some (.int .i64 kb.op) ∧ w'.cell? ⟨p.block, p.off + 4 + 1, none⟩ = some (.int .i64 kb.n) ∧ w'.cell? ⟨p.block, p.off + 4 + 2, none⟩ = some (.int .i64 kb.m) ∧ w'.cell? ⟨p.block, p.off + 4 + 3, none⟩ = some (.slice kb.at_ kb.kids.length kb.cap)) ∧ (w'.cell? ⟨p.block, p.off + 8, none⟩ = some (.int .i64 kc.op) ∧ w'.cell? ⟨p.block, p.off + 8 + 1, none⟩ = some (.int .i64 kc.n) ∧ w'.cell? ⟨p.block, p.off + 8 + 2, none⟩ = some (.int .i64 kc.m) ∧ w'.cell? ⟨p.block, p.off + 8 + 3, none⟩ = some (.slice kc.at_ kc.kids.length kc.cap))) from
  ⟨room_cells (blk_below k2 hb), core_cells (blk_below k3 hb), hl1.lit0 hb rfl, hl1.lit hb 0 rfl, hl1.lit hb 1 rfl⟩)
 have Lka := Lib.hid (LiesL.lies hl1 (k := ka) (by simp))
 have Kka := Lib.hid ihka
 have Lkb := Lib.hid (LiesL.lies hl1 (k := kb) (by simp))
 have Kkb := Lib.hid ihkb
 have Lkc := Lib.hid (LiesL.lies hl1 (k := kc) (by simp))
 have Kkc := Lib.hid ihkc
 have HE := Lib.hid e1
 have B1 := Lib.hid b1
 have HL := Lib.hid hl1
 obtain ⟨⟨y0, y1, y2⟩, ⟨x0, x1, x2, x3⟩, -⟩ := HC.out w1 (Below.refl _ _)
 clear hl hl1 k2 k3 e1 b1 s1 ihka ihkb ihkc
 have HA := Lib.hid (show (va == 2) = true by simp [h1])
 subst h2
 have HBC := Lib.hid h3
 have HRR := Lib.hid h4
 clear h1 h3 h4
 go_enter Tryd.func36, Tryd.ntmps36
 go_wp2_with fail
 rw [HE.out]
 go_wp2_with fail
 clear y0 y1 y2 x0 x1 x2 x3
 refine wp_region_held_drew (S := fun w' => Aside0 (Below w1.heap.size w1 w')) (by kernel_rfl) ?_ (fun hHeld => ?_)
 ·exact ⟨(Below.refl _ _).drew⟩
 generalize World.drew _ = wDa at hHeld ⊢
 have HCr := HC
 refine' tk 0 ?_
 try simp only [pt]
 refine' tk 1 ?_
 try simp only [pt]
 refine' tk 2 ?_
 try simp only [pt]
 refine' tk 3 ?_
 try simp only [pt]
 refine' tk 4 ?_
 try simp only [pt]
 refine' cm 5 (fun K hK => ?_)
 go_simp
 refine (Kkb.out _ (Lkb.out.below hHeld.out)).mono ?_
 rintro e w7 ⟨rfl, hb2⟩
 refine hK.out _ _ ⟨hHeld.out.trans (hb2.mono hHeld.out.size)⟩ (fun hHeld => ?_)
 clear hK K
 try simp only [pt]
 refine' tk 6 ?_
 try simp only [pt]
 refine wpAnyH_done (by kernel_rfl) ?_ _
 obtain ⟨⟨y0, y1, y2⟩, ⟨x0, x1, x2, x3⟩, -⟩ := HC.out _ hHeld.out
 go_wp2_with fail
 clear y0 y1 y2 x0 x1 x2 x3
 refine wp_region_held_drew (S := fun w' => Aside0 (Below w1.heap.size w1 w')) (by kernel_rfl) ?_ (fun hHeld => ?_)
 ·exact ⟨hHeld.out.drew⟩
 generalize World.drew _ = wDb at hHeld ⊢
 have HCr := HC
 refine' tk 0 ?_
 try simp only [pt]
 refine' tk 1 ?_
 try simp only [pt]
 refine' tk 2 ?_
 try simp only [pt]
 refine' tk 3 ?_
 try simp only [pt]
 refine' tk 4 ?_
 try simp only [pt]
 refine' tk 25 ?_
 try simp only [pt]
 refine' cm 5 (fun K hK => ?_)
 go_simp
 have hHeld0 := hHeld
 refine hK.out _ _ ⟨hHeld.out.alloc hHeld.out.size _⟩ (fun hHeld => ?_)
 clear hK K
 try simp only [pt]
 refine' cm 6 (fun K hK => ?_)
 go_simp
 refine (all_one _ (liesL_new (Lka.out.below hHeld0.out)) Kka.out HA.out).mono ?_
 rintro e w7 ⟨rfl, hb2⟩
 refine hK.out _ _ ⟨hHeld.out.trans (hb2.mono hHeld.out.size)⟩ (fun hHeld => ?_)
 clear hK K
 try simp only [pt]
 refine' tk 7 ?_
 try simp only [pt]
 refine' tk 8 ?_
 try simp only [pt]
 refine' tk 9 ?_
 try simp only [pt]
 refine' tk 10 ?_
 try simp only [pt]
 refine' tn 11 ?_
 try simp only [pt]
 refine' tn 12 ?_
 try simp only [pt]
 refine' tk 13 ?_
 try simp only [pt]
 refine' tk 14 ?_
 try simp only [pt]
 refine' tk 15 ?_
 try simp only [pt]
 refine' tk 16 ?_
 try simp only [pt]
 refine' tk 17 ?_
 try simp only [pt]
 refine' tk 18 ?_
 try simp only [pt]
 refine' tk 19 ?_
 try simp only [pt]
 refine' tk 20 ?_
 try simp only [pt]
 refine' tk 21 ?_
 try simp only [pt]
 refine' cm 22 (fun K hK => ?_)
 go_simp
 have hHeld0 := hHeld
 refine hK.out _ _ ⟨hHeld.out.alloc hHeld.out.size _⟩ (fun hHeld => ?_)
 clear hK K
 try simp only [pt]
 refine' cm 23 (fun K hK => ?_)
 go_simp
 refine (all_one _ (liesL_new (Lkc.out.below hHeld0.out)) Kkc.out HBC.out).mono ?_
 rintro e w7 ⟨rfl, hb2⟩
 refine hK.out _ _ ⟨hHeld.out.trans (hb2.mono hHeld.out.size)⟩ (fun hHeld => ?_)
 clear hK K
 try simp only [pt]
 refine' tk 24 ?_
 try simp only [pt]
 refine' cm 26 (fun K hK => ?_)
 go_simp
 refine (when_calls bc _ HRR.out _).mono ?_
 rintro e w8 ⟨rfl, rfl⟩
 refine hK.out _ _ ⟨hHeld.out⟩ (fun hHeld => ?_)
 clear hK K
 try simp only [pt]
 refine' tk 27 ?_
 try simp only [pt]
 refine wpAnyH_done (by kernel_rfl) ?_ _
 go_wp2_with fail
 go_ret
 exact ⟨by first | rfl | simp, B1.out.trans (hHeld.out.mono B1.out.size)⟩
theorem more_if_2 {va vb vc : Int} {ka kb kc : Cr} (hl : LiesL w (some p) 0 [ka, kb, kc]) (ihka : SortC rw rc rl ka va) (ihkb : SortC rw rc rl kb vb) (ihkc : SortC rw rc rl kc vc) (h1 : va = 2) (h2 : vb = 2) {bc : Bool} (h3 : (vc == 2) = bc) {r : Int} (h4 : (if bc then (2 : Int) else 0) = r) :
  Calls Tryd.prog 36 #[.agg #[.int .i64 rw, .int .i64 rc, .int .i64 rl], .agg #[.int .i64 28, .int .i64 0, .int .i64 0, .slice (some p) 3 cap]] w fun e w' => e = .returned (.int .i64 (r)) ∧ Below w.heap.size w w' := by
 obtain ⟨w1, e1, b1, k2, k3, s1⟩ := box2 w (.cells #[.int .i64 rw, .int .i64 rc, .int .i64 rl] 68) (.cells #[.int .i64 28, .int .i64 0, .int .i64 0, .slice (some p) 3 cap] 24)
 have hl1 := hl.below b1
 have HC := Lib.hid fun (w' : World) (hb : Below w1.heap.size w1 w') => (show ((w'.cell? ⟨w.heap.size, 0, none⟩ = some (.int .i64 rw) ∧ w'.cell? ⟨w.heap.size, 1, none⟩ = some (.int .i64 rc) ∧ w'.cell? ⟨w.heap.size, 2, none⟩ = some (.int .i64 rl)) ∧
   (w'.cell? ⟨w.heap.size + 1, 0, none⟩ = some (.int .i64 28) ∧ w'.cell? ⟨w.heap.size + 1, 1, none⟩ = some (.int .i64 0) ∧ w'.cell? ⟨w.heap.size + 1, 2, none⟩ = some (.int .i64 0) ∧ w'.cell? ⟨w.heap.size + 1, 3, none⟩ = some (.slice (some p) 3 cap)) ∧
   (w'.cell? p = some (.int .i64 ka.op) ∧ w'.cell? ⟨p.block, p.off + 1, none⟩ = some (.int .i64 ka.n) ∧ w'.cell? ⟨p.block, p.off + 2, none⟩ = some (.int .i64 ka.m) ∧ w'.cell? ⟨p.block, p.off + 3, none⟩ = some (.slice ka.at_ ka.kids.length ka.cap)) ∧ (w'.cell? ⟨p.block, p.off + 4, none⟩ = some (.int .i64 kb.op) ∧ w'.cell? ⟨p.block, p.off + 4 + 1, none⟩ = some (.int .i64 kb.n) ∧ w'.cell? ⟨p.block, p.off + 4 + 2, none⟩ = some (.int .i64 kb.m) ∧ w'.cell? ⟨p.block, p.off + 4 + 3, none⟩ = some (.slice kb.at_ kb.kids.length kb.cap)) ∧ (w'.cell? ⟨p.block, p.off + 8, none⟩ = some (.int .i64 kc.op) ∧ w'.cell? ⟨p.block, p.off + 8 + 1, none⟩ = some (.int .i64 kc.n) ∧ w'.cell? ⟨p.block, p.off + 8 + 2, none⟩ = some (.int .i64 kc.m) ∧ w'.cell? ⟨p.block, p.off + 8 + 3, none⟩ = some (.slice kc.at_ kc.kids.length kc.cap))) from
  ⟨room_cells (blk_below k2 hb), core_cells (blk_below k3 hb), hl1.lit0 hb rfl, hl1.lit hb 0 rfl, hl1.lit hb 1 rfl⟩)
 have Lka := Lib.hid (LiesL.lies hl1 (k := ka) (by simp))
 have Kka := Lib.hid ihka
 have Lkb := Lib.hid (LiesL.lies hl1 (k := kb) (by simp))
 have Kkb := Lib.hid ihkb
 have Lkc := Lib.hid (LiesL.lies hl1 (k := kc) (by simp))
 have Kkc := Lib.hid ihkc
 have HE := Lib.hid e1
 have B1 := Lib.hid b1
 have HL := Lib.hid hl1
 obtain ⟨⟨y0, y1, y2⟩, ⟨x0, x1, x2, x3⟩, -⟩ := HC.out w1 (Below.refl _ _)
 clear hl hl1 k2 k3 e1 b1 s1 ihka ihkb ihkc
 have HA := Lib.hid (show (va == 2) = true by simp [h1])
 subst h2
 have HBC := Lib.hid h3
 have HRR := Lib.hid h4
 clear h1 h3 h4
 go_enter Tryd.func36, Tryd.ntmps36
 go_wp2_with fail
 rw [HE.out]
 go_wp2_with fail
 clear y0 y1 y2 x0 x1 x2 x3
 refine wp_region_held_drew (S := fun w' => Aside0 (Below w1.heap.size w1 w')) (by kernel_rfl) ?_ (fun hHeld => ?_)
 ·exact ⟨(Below.refl _ _).drew⟩
 generalize World.drew _ = wDa at hHeld ⊢
 have HCr := HC
 refine' tk 0 ?_
 try simp only [pt]
 refine' tk 1 ?_
 try simp only [pt]
 refine' tk 2 ?_
 try simp only [pt]
 refine' tk 3 ?_
 try simp only [pt]
 refine' tk 4 ?_
 try simp only [pt]
 refine' cm 5 (fun K hK => ?_)
 go_simp
 refine (Kkb.out _ (Lkb.out.below hHeld.out)).mono ?_
 rintro e w7 ⟨rfl, hb2⟩
 refine hK.out _ _ ⟨hHeld.out.trans (hb2.mono hHeld.out.size)⟩ (fun hHeld => ?_)
 clear hK K
 try simp only [pt]
 refine' tk 6 ?_
 try simp only [pt]
 refine wpAnyH_done (by kernel_rfl) ?_ _
 obtain ⟨⟨y0, y1, y2⟩, ⟨x0, x1, x2, x3⟩, -⟩ := HC.out _ hHeld.out
 go_wp2_with fail
 clear y0 y1 y2 x0 x1 x2 x3
 refine wp_region_held_drew (S := fun w' => Aside0 (Below w1.heap.size w1 w')) (by kernel_rfl) ?_ (fun hHeld => ?_)
 ·exact ⟨hHeld.out.drew⟩
 generalize World.drew _ = wDb at hHeld ⊢
 have HCr := HC
 refine' tk 0 ?_
 try simp only [pt]
 refine' tk 1 ?_
 try simp only [pt]
 refine' tk 2 ?_
 try simp only [pt]
 refine' tk 3 ?_
 try simp only [pt]
 refine' tk 4 ?_
 try simp only [pt]
 refine' tk 25 ?_
 try simp only [pt]
 refine' cm 5 (fun K hK => ?_)
 go_simp
 have hHeld0 := hHeld
 refine hK.out _ _ ⟨hHeld.out.alloc hHeld.out.size _⟩ (fun hHeld => ?_)
 clear hK K
 try simp only [pt]
 refine' cm 6 (fun K hK => ?_)
 go_simp
 refine (all_one _ (liesL_new (Lka.out.below hHeld0.out)) Kka.out HA.out).mono ?_
 rintro e w7 ⟨rfl, hb2⟩
 refine hK.out _ _ ⟨hHeld.out.trans (hb2.mono hHeld.out.size)⟩ (fun hHeld => ?_)
 clear hK K
 try simp only [pt]
 refine' tk 7 ?_
 try simp only [pt]
 refine' tk 8 ?_
 try simp only [pt]
 refine' tk 9 ?_
 try simp only [pt]
 refine' tk 10 ?_
 try simp only [pt]
 refine' tk 11 ?_
 try simp only [pt]
 refine' tk 12 ?_
 try simp only [pt]
 refine' tk 13 ?_
 try simp only [pt]
 refine' tk 14 ?_
 try simp only [pt]
 refine' tk 15 ?_
 try simp only [pt]
 refine' tk 16 ?_
 try simp only [pt]
 refine' tk 17 ?_
 try simp only [pt]
 refine' tk 18 ?_
 try simp only [pt]
 refine' tk 19 ?_
 try simp only [pt]
 refine' tk 20 ?_
 try simp only [pt]
 refine' tk 21 ?_
 try simp only [pt]
 refine' cm 22 (fun K hK => ?_)
 go_simp
 have hHeld0 := hHeld
 refine hK.out _ _ ⟨hHeld.out.alloc hHeld.out.size _⟩ (fun hHeld => ?_)
 clear hK K
 try simp only [pt]
 refine' cm 23 (fun K hK => ?_)
 go_simp
 refine (all_one _ (liesL_new (Lkc.out.below hHeld0.out)) Kkc.out HBC.out).mono ?_
 rintro e w7 ⟨rfl, hb2⟩
 refine hK.out _ _ ⟨hHeld.out.trans (hb2.mono hHeld.out.size)⟩ (fun hHeld => ?_)
 clear hK K
 try simp only [pt]
 refine' tk 24 ?_
 try simp only [pt]
 refine' cm 26 (fun K hK => ?_)
 go_simp
 refine (when_calls bc _ HRR.out _).mono ?_
 rintro e w8 ⟨rfl, rfl⟩
 refine hK.out _ _ ⟨hHeld.out⟩ (fun hHeld => ?_)
 clear hK K
 try simp only [pt]
 refine' tk 27 ?_
 try simp only [pt]
 refine wpAnyH_done (by kernel_rfl) ?_ _
 go_wp2_with fail
 go_ret
 exact ⟨by first | rfl | simp, B1.out.trans (hHeld.out.mono B1.out.size)⟩
theorem more_if_o {va vb vc : Int} {ka kb kc : Cr} (hl : LiesL w (some p) 0 [ka, kb, kc]) (ihka : SortC rw rc rl ka va) (ihkb : SortC rw rc rl kb vb) (ihkc : SortC rw rc rl kc vc) (h1 : va = 2) (h2 : ¬ vb = 1) (h3 : ¬ vb = 2) :
  Calls Tryd.prog 36 #[.agg #[.int .i64 rw, .int .i64 rc, .int .i64 rl], .agg #[.int .i64 28, .int .i64 0, .int .i64 0, .slice (some p) 3 cap]] w fun e w' => e = .returned (.int .i64 (0)) ∧ Below w.heap.size w w' := by
 obtain ⟨w1, e1, b1, k2, k3, s1⟩ := box2 w (.cells #[.int .i64 rw, .int .i64 rc, .int .i64 rl] 68) (.cells #[.int .i64 28, .int .i64 0, .int .i64 0, .slice (some p) 3 cap] 24)
 have hl1 := hl.below b1
 have HC := Lib.hid fun (w' : World) (hb : Below w1.heap.size w1 w') => (show ((w'.cell? ⟨w.heap.size, 0, none⟩ = some (.int .i64 rw) ∧ w'.cell? ⟨w.heap.size, 1, none⟩ = some (.int .i64 rc) ∧ w'.cell? ⟨w.heap.size, 2, none⟩ = some (.int .i64 rl)) ∧
   (w'.cell? ⟨w.heap.size + 1, 0, none⟩ = some (.int .i64 28) ∧ w'.cell? ⟨w.heap.size + 1, 1, none⟩ = some (.int .i64 0) ∧ w'.cell? ⟨w.heap.size + 1, 2, none⟩ = some (.int .i64 0) ∧ w'.cell? ⟨w.heap.size + 1, 3, none⟩ = some (.slice (some p) 3 cap)) ∧
   (w'.cell? p = some (.int .i64 ka.op) ∧ w'.cell? ⟨p.block, p.off + 1, none⟩ = some (.int .i64 ka.n) ∧ w'.cell? ⟨p.block, p.off + 2, none⟩ = some (.int .i64 ka.m) ∧ w'.cell? ⟨p.block, p.off + 3, none⟩ = some (.slice ka.at_ ka.kids.length ka.cap)) ∧ (w'.cell? ⟨p.block, p.off + 4, none⟩ = some (.int .i64 kb.op) ∧ w'.cell? ⟨p.block, p.off + 4 + 1, none⟩ = some (.int .i64 kb.n) ∧ w'.cell? ⟨p.block, p.off + 4 + 2, none⟩ = some (.int .i64 kb.m) ∧ w'.cell? ⟨p.block, p.off + 4 + 3, none⟩ = some (.slice kb.at_ kb.kids.length kb.cap)) ∧ (w'.cell? ⟨p.block, p.off + 8, none⟩ = some (.int .i64 kc.op) ∧ w'.cell? ⟨p.block, p.off + 8 + 1, none⟩ = some (.int .i64 kc.n) ∧ w'.cell? ⟨p.block, p.off + 8 + 2, none⟩ = some (.int .i64 kc.m) ∧ w'.cell? ⟨p.block, p.off + 8 + 3, none⟩ = some (.slice kc.at_ kc.kids.length kc.cap))) from
  ⟨room_cells (blk_below k2 hb), core_cells (blk_below k3 hb), hl1.lit0 hb rfl, hl1.lit hb 0 rfl, hl1.lit hb 1 rfl⟩)
 have Lka := Lib.hid (LiesL.lies hl1 (k := ka) (by simp))
 have Kka := Lib.hid ihka
 have Lkb := Lib.hid (LiesL.lies hl1 (k := kb) (by simp))
 have Kkb := Lib.hid ihkb
 have Lkc := Lib.hid (LiesL.lies hl1 (k := kc) (by simp))
 have Kkc := Lib.hid ihkc
 have HE := Lib.hid e1
 have B1 := Lib.hid b1
 have HL := Lib.hid hl1
 obtain ⟨⟨y0, y1, y2⟩, ⟨x0, x1, x2, x3⟩, -⟩ := HC.out w1 (Below.refl _ _)
 clear hl hl1 k2 k3 e1 b1 s1 ihka ihkb ihkc
 have HA := Lib.hid (show (va == 2) = true by simp [h1])
 have g1 : (vb == 1) = false := by simp [h2]
 have g2 : (vb == 2) = false := by simp [h3]
 have HRR := Lib.hid (show (if false then vb else 0) = 0 from rfl)
 clear h1 h2 h3
 go_enter Tryd.func36, Tryd.ntmps36
 go_wp2_with fail
 rw [HE.out]
 go_wp2_with fail
 clear y0 y1 y2 x0 x1 x2 x3
 refine wp_region_held_drew (S := fun w' => Aside0 (Below w1.heap.size w1 w')) (by kernel_rfl) ?_ (fun hHeld => ?_)
 ·exact ⟨(Below.refl _ _).drew⟩
 generalize World.drew _ = wDa at hHeld ⊢
 have HCr := HC
 refine' tk 0 ?_
 try simp only [pt]
 refine' tk 1 ?_
 try simp only [pt]
 refine' tk 2 ?_
 try simp only [pt]
 refine' tk 3 ?_
 try simp only [pt]
 refine' tk 4 ?_
 try simp only [pt]
 refine' cm 5 (fun K hK => ?_)
 go_simp
 refine (Kkb.out _ (Lkb.out.below hHeld.out)).mono ?_
 rintro e w7 ⟨rfl, hb2⟩
 refine hK.out _ _ ⟨hHeld.out.trans (hb2.mono hHeld.out.size)⟩ (fun hHeld => ?_)
 clear hK K
 try simp only [pt]
 refine' tk 6 ?_
 try simp only [pt]
 refine wpAnyH_done (by kernel_rfl) ?_ _
 obtain ⟨⟨y0, y1, y2⟩, ⟨x0, x1, x2, x3⟩, -⟩ := HC.out _ hHeld.out
 go_wp2_with fail
 clear y0 y1 y2 x0 x1 x2 x3
 refine wp_region_held_drew (S := fun w' => Aside0 (Below w1.heap.size w1 w')) (by kernel_rfl) ?_ (fun hHeld => ?_)
 ·exact ⟨hHeld.out.drew⟩
 generalize World.drew _ = wDb at hHeld ⊢
 have HCr := HC
 refine' tk 0 ?_
 try simp only [pt]
 refine' tk 1 ?_
 try simp only [pt]
 refine' tk 2 ?_
 try simp only [pt]
 refine' tk 3 ?_
 try simp only [pt]
 refine' tk 4 ?_
 try simp only [pt]
 refine' tk 25 ?_
 try simp only [pt]
 refine' cm 5 (fun K hK => ?_)
 go_simp
 have hHeld0 := hHeld
 refine hK.out _ _ ⟨hHeld.out.alloc hHeld.out.size _⟩ (fun hHeld => ?_)
 clear hK K
 try simp only [pt]
 refine' cm 6 (fun K hK => ?_)
 go_simp
 refine (all_one _ (liesL_new (Lka.out.below hHeld0.out)) Kka.out HA.out).mono ?_
 rintro e w7 ⟨rfl, hb2⟩
 refine hK.out _ _ ⟨hHeld.out.trans (hb2.mono hHeld.out.size)⟩ (fun hHeld => ?_)
 clear hK K
 try simp only [pt]
 refine' tk 7 ?_
 try simp only [pt]
 refine' tk 8 ?_
 try simp only [pt]
 refine' tk 9 ?_
 try simp only [pt]
 refine' tk 10 ?_
 try simp only [pt]
 refine' tk 11 ?_
 try simp only [pt]
 refine' tk 12 ?_
 try simp only [pt]
 refine' tk 13 ?_
 try simp only [pt]
 refine' tk 14 ?_
 try simp only [pt]
 refine' tk 15 ?_
 try simp only [pt]
 refine' tn 16 ?_
 try simp only [pt]
 refine' tn 17 ?_
 try simp only [pt]
 refine' tn 18 ?_
 try simp only [pt]
 refine' tn 19 ?_
 try simp only [pt]
 refine' tn 20 ?_
 try simp only [pt]
 refine' tn 21 ?_
 try simp only [pt]
 refine' tn 22 ?_
 try simp only [pt]
 refine' tn 23 ?_
 try simp only [pt]
 refine' tk 24 ?_
 try simp only [pt]
 refine' cm 26 (fun K hK => ?_)
 go_simp
 refine (when_calls false _ HRR.out _).mono ?_
 rintro e w8 ⟨rfl, rfl⟩
 refine hK.out _ _ ⟨hHeld.out⟩ (fun hHeld => ?_)
 clear hK K
 try simp only [pt]
 refine' tk 27 ?_
 try simp only [pt]
 refine wpAnyH_done (by kernel_rfl) ?_ _
 go_wp2_with fail
 go_ret
 exact ⟨by first | rfl | simp, B1.out.trans (hHeld.out.mono B1.out.size)⟩
theorem more_ei_3 {va vb : Int} {ka kb : Cr} (hl : LiesL w (some p) 0 [ka, kb]) (ihka : SortC rw rc rl ka va) (ihkb : SortC rw rc rl kb vb) (h1 : va = 3) :
  Calls Tryd.prog 36 #[.agg #[.int .i64 rw, .int .i64 rc, .int .i64 rl], .agg #[.int .i64 27, .int .i64 0, .int .i64 0, .slice (some p) 2 cap]] w fun e w' => e = .returned (.int .i64 (0)) ∧ Below w.heap.size w w' := by
 obtain ⟨w1, e1, b1, k2, k3, s1⟩ := box2 w (.cells #[.int .i64 rw, .int .i64 rc, .int .i64 rl] 68) (.cells #[.int .i64 27, .int .i64 0, .int .i64 0, .slice (some p) 2 cap] 24)
 have hl1 := hl.below b1
 have HC := Lib.hid fun (w' : World) (hb : Below w1.heap.size w1 w') => (show ((w'.cell? ⟨w.heap.size, 0, none⟩ = some (.int .i64 rw) ∧ w'.cell? ⟨w.heap.size, 1, none⟩ = some (.int .i64 rc) ∧ w'.cell? ⟨w.heap.size, 2, none⟩ = some (.int .i64 rl)) ∧
   (w'.cell? ⟨w.heap.size + 1, 0, none⟩ = some (.int .i64 27) ∧ w'.cell? ⟨w.heap.size + 1, 1, none⟩ = some (.int .i64 0) ∧ w'.cell? ⟨w.heap.size + 1, 2, none⟩ = some (.int .i64 0) ∧ w'.cell? ⟨w.heap.size + 1, 3, none⟩ = some (.slice (some p) 2 cap)) ∧
   (w'.cell? p = some (.int .i64 ka.op) ∧ w'.cell? ⟨p.block, p.off + 1, none⟩ = some (.int .i64 ka.n) ∧ w'.cell? ⟨p.block, p.off + 2, none⟩ = some (.int .i64 ka.m) ∧ w'.cell? ⟨p.block, p.off + 3, none⟩ = some (.slice ka.at_ ka.kids.length ka.cap)) ∧ (w'.cell? ⟨p.block, p.off + 4, none⟩ = some (.int .i64 kb.op) ∧ w'.cell? ⟨p.block, p.off + 4 + 1, none⟩ = some (.int .i64 kb.n) ∧ w'.cell? ⟨p.block, p.off + 4 + 2, none⟩ = some (.int .i64 kb.m) ∧ w'.cell? ⟨p.block, p.off + 4 + 3, none⟩ = some (.slice kb.at_ kb.kids.length kb.cap))) from
  ⟨room_cells (blk_below k2 hb), core_cells (blk_below k3 hb), hl1.lit0 hb rfl, hl1.lit hb 0 rfl⟩)
 have Lka := Lib.hid (LiesL.lies hl1 (k := ka) (by simp))
 have Kka := Lib.hid ihka
 have Lkb := Lib.hid (LiesL.lies hl1 (k := kb) (by simp))
 have Kkb := Lib.hid ihkb
 have HE := Lib.hid e1
 have B1 := Lib.hid b1
 have HL := Lib.hid hl1
 obtain ⟨⟨y0, y1, y2⟩, ⟨x0, x1, x2, x3⟩, -⟩ := HC.out w1 (Below.refl _ _)
 clear hl hl1 k2 k3 e1 b1 s1 ihka ihkb
 have HRR := Lib.hid (show (if false then va else 0) = 0 from rfl)
 have g1 : (va != 3) = false := by simp [h1]
 clear h1
 go_enter Tryd.func36, Tryd.ntmps36
 go_wp2_with fail
 rw [HE.out]
 go_wp2_with fail
 clear y0 y1 y2 x0 x1 x2 x3
 refine wp_region_held_drew (S := fun w' => Aside0 (Below w1.heap.size w1 w')) (by kernel_rfl) ?_ (fun hHeld => ?_)
 ·exact ⟨(Below.refl _ _).drew⟩
 generalize World.drew _ = wDa at hHeld ⊢
 have HCr := HC
 refine' tk 0 ?_
 try simp only [pt]
 refine' tk 1 ?_
 try simp only [pt]
 refine' tk 2 ?_
 try simp only [pt]
 refine' tk 3 ?_
 try simp only [pt]
 refine' tk 4 ?_
 try simp only [pt]
 refine' cm 5 (fun K hK => ?_)
 go_simp
 refine (Kka.out _ (Lka.out.below hHeld.out)).mono ?_
 rintro e w7 ⟨rfl, hb2⟩
 refine hK.out _ _ ⟨hHeld.out.trans (hb2.mono hHeld.out.size)⟩ (fun hHeld => ?_)
 clear hK K
 try simp only [pt]
 refine' tk 6 ?_
 try simp only [pt]
 refine wpAnyH_done (by kernel_rfl) ?_ _
 obtain ⟨⟨y0, y1, y2⟩, ⟨x0, x1, x2, x3⟩, -⟩ := HC.out _ hHeld.out
 go_wp2_with fail
 clear y0 y1 y2 x0 x1 x2 x3
 refine wp_region_held_drew (S := fun w' => Aside0 (Below w1.heap.size w1 w')) (by kernel_rfl) ?_ (fun hHeld => ?_)
 ·exact ⟨hHeld.out.drew⟩
 generalize World.drew _ = wDb at hHeld ⊢
 have HCr := HC
 refine' tk 0 ?_
 try simp only [pt]
 refine' tk 1 ?_
 try simp only [pt]
 refine' tk 2 ?_
 try simp only [pt]
 refine' tn 3 ?_
 try simp only [pt]
 refine' tn 4 ?_
 try simp only [pt]
 refine' tk 5 ?_
 try simp only [pt]
 refine' tk 6 ?_
 try simp only [pt]
 refine' tn 7 ?_
 try simp only [pt]
 refine' tn 8 ?_
 try simp only [pt]
 refine' tn 9 ?_
 try simp only [pt]
 refine' tn 10 ?_
 try simp only [pt]
 refine' tn 11 ?_
 try simp only [pt]
 refine' tn 12 ?_
 try simp only [pt]
 refine' tn 13 ?_
 try simp only [pt]
 refine' tn 14 ?_
 try simp only [pt]
 refine' tk 15 ?_
 try simp only [pt]
 refine' tk 16 ?_
 try simp only [pt]
 refine' cm 17 (fun K hK => ?_)
 go_simp
 refine (when_calls false _ HRR.out _).mono ?_
 rintro e w8 ⟨rfl, rfl⟩
 refine hK.out _ _ ⟨hHeld.out⟩ (fun hHeld => ?_)
 clear hK K
 try simp only [pt]
 refine' tk 18 ?_
 try simp only [pt]
 refine wpAnyH_done (by kernel_rfl) ?_ _
 go_wp2_with fail
 go_ret
 exact ⟨by first | rfl | simp, B1.out.trans (hHeld.out.mono B1.out.size)⟩
theorem more_ei_0 {va vb : Int} {ka kb : Cr} (hl : LiesL w (some p) 0 [ka, kb]) (ihka : SortC rw rc rl ka va) (ihkb : SortC rw rc rl kb vb) (h1 : va = 0) :
  Calls Tryd.prog 36 #[.agg #[.int .i64 rw, .int .i64 rc, .int .i64 rl], .agg #[.int .i64 27, .int .i64 0, .int .i64 0, .slice (some p) 2 cap]] w fun e w' => e = .returned (.int .i64 (0)) ∧ Below w.heap.size w w' := by
 obtain ⟨w1, e1, b1, k2, k3, s1⟩ := box2 w (.cells #[.int .i64 rw, .int .i64 rc, .int .i64 rl] 68) (.cells #[.int .i64 27, .int .i64 0, .int .i64 0, .slice (some p) 2 cap] 24)
 have hl1 := hl.below b1
 have HC := Lib.hid fun (w' : World) (hb : Below w1.heap.size w1 w') => (show ((w'.cell? ⟨w.heap.size, 0, none⟩ = some (.int .i64 rw) ∧ w'.cell? ⟨w.heap.size, 1, none⟩ = some (.int .i64 rc) ∧ w'.cell? ⟨w.heap.size, 2, none⟩ = some (.int .i64 rl)) ∧
   (w'.cell? ⟨w.heap.size + 1, 0, none⟩ = some (.int .i64 27) ∧ w'.cell? ⟨w.heap.size + 1, 1, none⟩ = some (.int .i64 0) ∧ w'.cell? ⟨w.heap.size + 1, 2, none⟩ = some (.int .i64 0) ∧ w'.cell? ⟨w.heap.size + 1, 3, none⟩ = some (.slice (some p) 2 cap)) ∧
   (w'.cell? p = some (.int .i64 ka.op) ∧ w'.cell? ⟨p.block, p.off + 1, none⟩ = some (.int .i64 ka.n) ∧ w'.cell? ⟨p.block, p.off + 2, none⟩ = some (.int .i64 ka.m) ∧ w'.cell? ⟨p.block, p.off + 3, none⟩ = some (.slice ka.at_ ka.kids.length ka.cap)) ∧ (w'.cell? ⟨p.block, p.off + 4, none⟩ = some (.int .i64 kb.op) ∧ w'.cell? ⟨p.block, p.off + 4 + 1, none⟩ = some (.int .i64 kb.n) ∧ w'.cell? ⟨p.block, p.off + 4 + 2, none⟩ = some (.int .i64 kb.m) ∧ w'.cell? ⟨p.block, p.off + 4 + 3, none⟩ = some (.slice kb.at_ kb.kids.length kb.cap))) from
  ⟨room_cells (blk_below k2 hb), core_cells (blk_below k3 hb), hl1.lit0 hb rfl, hl1.lit hb 0 rfl⟩)
 have Lka := Lib.hid (LiesL.lies hl1 (k := ka) (by simp))
 have Kka := Lib.hid ihka
 have Lkb := Lib.hid (LiesL.lies hl1 (k := kb) (by simp))
 have Kkb := Lib.hid ihkb
 have HE := Lib.hid e1
 have B1 := Lib.hid b1
 have HL := Lib.hid hl1
 obtain ⟨⟨y0, y1, y2⟩, ⟨x0, x1, x2, x3⟩, -⟩ := HC.out w1 (Below.refl _ _)
 clear hl hl1 k2 k3 e1 b1 s1 ihka ihkb
 have HRR := Lib.hid (show (if false then va else 0) = 0 from rfl)
 have g1 : (va != 3) = true := by simp [h1]
 have g2 : (va != 0) = false := by simp [h1]
 clear h1
 go_enter Tryd.func36, Tryd.ntmps36
 go_wp2_with fail
 rw [HE.out]
 go_wp2_with fail
 clear y0 y1 y2 x0 x1 x2 x3
 refine wp_region_held_drew (S := fun w' => Aside0 (Below w1.heap.size w1 w')) (by kernel_rfl) ?_ (fun hHeld => ?_)
 ·exact ⟨(Below.refl _ _).drew⟩
 generalize World.drew _ = wDa at hHeld ⊢
 have HCr := HC
 refine' tk 0 ?_
 try simp only [pt]
 refine' tk 1 ?_
 try simp only [pt]
 refine' tk 2 ?_
 try simp only [pt]
 refine' tk 3 ?_
 try simp only [pt]
 refine' tk 4 ?_
 try simp only [pt]
 refine' cm 5 (fun K hK => ?_)
 go_simp
 refine (Kka.out _ (Lka.out.below hHeld.out)).mono ?_
 rintro e w7 ⟨rfl, hb2⟩
 refine hK.out _ _ ⟨hHeld.out.trans (hb2.mono hHeld.out.size)⟩ (fun hHeld => ?_)
 clear hK K
 try simp only [pt]
 refine' tk 6 ?_
 try simp only [pt]
 refine wpAnyH_done (by kernel_rfl) ?_ _
 obtain ⟨⟨y0, y1, y2⟩, ⟨x0, x1, x2, x3⟩, -⟩ := HC.out _ hHeld.out
 go_wp2_with fail
 clear y0 y1 y2 x0 x1 x2 x3
 refine wp_region_held_drew (S := fun w' => Aside0 (Below w1.heap.size w1 w')) (by kernel_rfl) ?_ (fun hHeld => ?_)
 ·exact ⟨hHeld.out.drew⟩
 generalize World.drew _ = wDb at hHeld ⊢
 have HCr := HC
 refine' tk 0 ?_
 try simp only [pt]
 refine' tk 1 ?_
 try simp only [pt]
 refine' tk 2 ?_
 try simp only [pt]
 refine' tk 3 ?_
 try simp only [pt]
 refine' tk 4 ?_
 try simp only [pt]
 refine' tk 5 ?_
 try simp only [pt]
 refine' tk 6 ?_
 try simp only [pt]
 refine' tn 7 ?_
 try simp only [pt]
 refine' tn 8 ?_
 try simp only [pt]
 refine' tn 9 ?_
 try simp only [pt]
 refine' tn 10 ?_
 try simp only [pt]
 refine' tn 11 ?_
 try simp only [pt]
 refine' tn 12 ?_
 try simp only [pt]
 refine' tn 13 ?_
 try simp only [pt]
 refine' tn 14 ?_
 try simp only [pt]
 refine' tk 15 ?_
 try simp only [pt]
 refine' tk 16 ?_
 try simp only [pt]
 refine' cm 17 (fun K hK => ?_)
 go_simp
 refine (when_calls false _ HRR.out _).mono ?_
 rintro e w8 ⟨rfl, rfl⟩
 refine hK.out _ _ ⟨hHeld.out⟩ (fun hHeld => ?_)
 clear hK K
 try simp only [pt]
 refine' tk 18 ?_
 try simp only [pt]
 refine wpAnyH_done (by kernel_rfl) ?_ _
 go_wp2_with fail
 go_ret
 exact ⟨by first | rfl | simp, B1.out.trans (hHeld.out.mono B1.out.size)⟩
theorem more_ei_o {va vb : Int} {ka kb : Cr} (hl : LiesL w (some p) 0 [ka, kb]) (ihka : SortC rw rc rl ka va) (ihkb : SortC rw rc rl kb vb) (h1 : ¬ va = 3) (h2 : ¬ va = 0) {bc : Bool} (h3 : (vb == va) = bc) {r : Int} (h4 : (if bc then va else 0) = r) :
  Calls Tryd.prog 36 #[.agg #[.int .i64 rw, .int .i64 rc, .int .i64 rl], .agg #[.int .i64 27, .int .i64 0, .int .i64 0, .slice (some p) 2 cap]] w fun e w' => e = .returned (.int .i64 (r)) ∧ Below w.heap.size w w' := by
 obtain ⟨w1, e1, b1, k2, k3, s1⟩ := box2 w (.cells #[.int .i64 rw, .int .i64 rc, .int .i64 rl] 68) (.cells #[.int .i64 27, .int .i64 0, .int .i64 0, .slice (some p) 2 cap] 24)
 have hl1 := hl.below b1
 have HC := Lib.hid fun (w' : World) (hb : Below w1.heap.size w1 w') => (show ((w'.cell? ⟨w.heap.size, 0, none⟩ = some (.int .i64 rw) ∧ w'.cell? ⟨w.heap.size, 1, none⟩ = some (.int .i64 rc) ∧ w'.cell? ⟨w.heap.size, 2, none⟩ = some (.int .i64 rl)) ∧
   (w'.cell? ⟨w.heap.size + 1, 0, none⟩ = some (.int .i64 27) ∧ w'.cell? ⟨w.heap.size + 1, 1, none⟩ = some (.int .i64 0) ∧ w'.cell? ⟨w.heap.size + 1, 2, none⟩ = some (.int .i64 0) ∧ w'.cell? ⟨w.heap.size + 1, 3, none⟩ = some (.slice (some p) 2 cap)) ∧
   (w'.cell? p = some (.int .i64 ka.op) ∧ w'.cell? ⟨p.block, p.off + 1, none⟩ = some (.int .i64 ka.n) ∧ w'.cell? ⟨p.block, p.off + 2, none⟩ = some (.int .i64 ka.m) ∧ w'.cell? ⟨p.block, p.off + 3, none⟩ = some (.slice ka.at_ ka.kids.length ka.cap)) ∧ (w'.cell? ⟨p.block, p.off + 4, none⟩ = some (.int .i64 kb.op) ∧ w'.cell? ⟨p.block, p.off + 4 + 1, none⟩ = some (.int .i64 kb.n) ∧ w'.cell? ⟨p.block, p.off + 4 + 2, none⟩ = some (.int .i64 kb.m) ∧ w'.cell? ⟨p.block, p.off + 4 + 3, none⟩ = some (.slice kb.at_ kb.kids.length kb.cap))) from
  ⟨room_cells (blk_below k2 hb), core_cells (blk_below k3 hb), hl1.lit0 hb rfl, hl1.lit hb 0 rfl⟩)
 have Lka := Lib.hid (LiesL.lies hl1 (k := ka) (by simp))
 have Kka := Lib.hid ihka
 have Lkb := Lib.hid (LiesL.lies hl1 (k := kb) (by simp))
 have Kkb := Lib.hid ihkb
 have HE := Lib.hid e1
 have B1 := Lib.hid b1
 have HL := Lib.hid hl1
 obtain ⟨⟨y0, y1, y2⟩, ⟨x0, x1, x2, x3⟩, -⟩ := HC.out w1 (Below.refl _ _)
 clear hl hl1 k2 k3 e1 b1 s1 ihka ihkb
 have g1 : (va != 3) = true := by simp [h1]
 have g2 : (va != 0) = true := by simp [h2]
 have HBC := Lib.hid h3
 have HRR := Lib.hid h4
 clear h1 h2 h3 h4
 go_enter Tryd.func36, Tryd.ntmps36
 go_wp2_with fail
 rw [HE.out]
 go_wp2_with fail
 clear y0 y1 y2 x0 x1 x2 x3
 refine wp_region_held_drew (S := fun w' => Aside0 (Below w1.heap.size w1 w')) (by kernel_rfl) ?_ (fun hHeld => ?_)
 ·exact ⟨(Below.refl _ _).drew⟩
 generalize World.drew _ = wDa at hHeld ⊢
 have HCr := HC
 refine' tk 0 ?_
 try simp only [pt]
 refine' tk 1 ?_
 try simp only [pt]
 refine' tk 2 ?_
 try simp only [pt]
 refine' tk 3 ?_
 try simp only [pt]
 refine' tk 4 ?_
 try simp only [pt]
 refine' cm 5 (fun K hK => ?_)
 go_simp
 refine (Kka.out _ (Lka.out.below hHeld.out)).mono ?_
 rintro e w7 ⟨rfl, hb2⟩
 refine hK.out _ _ ⟨hHeld.out.trans (hb2.mono hHeld.out.size)⟩ (fun hHeld => ?_)
 clear hK K
 try simp only [pt]
 refine' tk 6 ?_
 try simp only [pt]
 refine wpAnyH_done (by kernel_rfl) ?_ _
 obtain ⟨⟨y0, y1, y2⟩, ⟨x0, x1, x2, x3⟩, -⟩ := HC.out _ hHeld.out
 go_wp2_with fail
 clear y0 y1 y2 x0 x1 x2 x3
 refine wp_region_held_drew (S := fun w' => Aside0 (Below w1.heap.size w1 w')) (by kernel_rfl) ?_ (fun hHeld => ?_)
 ·exact ⟨hHeld.out.drew⟩
 generalize World.drew _ = wDb at hHeld ⊢
 have HCr := HC
 refine' tk 0 ?_
 try simp only [pt]
 refine' tk 1 ?_
 try simp only [pt]
 refine' tk 2 ?_
 try simp only [pt]
 refine' tk 3 ?_
 try simp only [pt]
 refine' tk 4 ?_
 try simp only [pt]
 refine' tk 5 ?_
 try simp only [pt]
 refine' tk 6 ?_
 try simp only [pt]
 refine' tk 7 ?_
 try simp only [pt]
 refine' tk 8 ?_
 try simp only [pt]
 refine' tk 9 ?_
 try simp only [pt]
 refine' tk 10 ?_
 try simp only [pt]
 refine' tk 11 ?_
 try simp only [pt]
 refine' tk 12 ?_
 try simp only [pt]
 refine' tk 16 ?_
 try simp only [pt]
 refine' cm 13 (fun K hK => ?_)
 go_simp
 have hHeld0 := hHeld
 refine hK.out _ _ ⟨hHeld.out.alloc hHeld.out.size _⟩ (fun hHeld => ?_)
 clear hK K
 try simp only [pt]
 refine' cm 14 (fun K hK => ?_)
 go_simp
 refine (all_one _ (liesL_new (Lkb.out.below hHeld0.out)) Kkb.out HBC.out).mono ?_
 rintro e w7 ⟨rfl, hb2⟩
 refine hK.out _ _ ⟨hHeld.out.trans (hb2.mono hHeld.out.size)⟩ (fun hHeld => ?_)
 clear hK K
 try simp only [pt]
 refine' tk 15 ?_
 try simp only [pt]
 refine' cm 17 (fun K hK => ?_)
 go_simp
 refine (when_calls bc _ HRR.out _).mono ?_
 rintro e w8 ⟨rfl, rfl⟩
 refine hK.out _ _ ⟨hHeld.out⟩ (fun hHeld => ?_)
 clear hK K
 try simp only [pt]
 refine' tk 18 ?_
 try simp only [pt]
 refine wpAnyH_done (by kernel_rfl) ?_ _
 go_wp2_with fail
 go_ret
 exact ⟨by first | rfl | simp, B1.out.trans (hHeld.out.mono B1.out.size)⟩
theorem more_lad_f {va : Int} {s : Cr → Int} {ka : Cr} {t : List Cr} {len : Nat} (hlen : t.length + 1 = len) (h2 : 2 ≤ len) (he : len % 2 = 0) (hc : len ≤ cap) (hbig : len ≤ 4398046511104) (hl : LiesL w (some p) 0 (ka :: t)) (ihka : SortC rw rc rl ka va) (iht : ∀ k ∈ t, SortC rw rc rl k (s k)) (h1 : ¬ va = 1) :
  Calls Tryd.prog 36 #[.agg #[.int .i64 rw, .int .i64 rc, .int .i64 rl], .agg #[.int .i64 32, .int .i64 0, .int .i64 0, .slice (some p) len cap]] w fun e w' => e = .returned (.int .i64 (0)) ∧ Below w.heap.size w w' := by
 have IHT := Lib.hid iht
 have HLN := Lib.hid hlen
 have HBG := Lib.hid hbig
 have HTL := Lib.hid (show t.length ≤ 4398046511104 ∧ t.length % 2 = 1 by omega)
 have HEL := Lib.hid (show len - 1 = t.length by omega)
 clear iht hlen hbig
 obtain ⟨w1, e1, b1, k2, k3, s1⟩ := box2 w (.cells #[.int .i64 rw, .int .i64 rc, .int .i64 rl] 68) (.cells #[.int .i64 32, .int .i64 0, .int .i64 0, .slice (some p) len cap] 24)
 have hl1 := hl.below b1
 have HC := Lib.hid fun (w' : World) (hb : Below w1.heap.size w1 w') => (show ((w'.cell? ⟨w.heap.size, 0, none⟩ = some (.int .i64 rw) ∧ w'.cell? ⟨w.heap.size, 1, none⟩ = some (.int .i64 rc) ∧ w'.cell? ⟨w.heap.size, 2, none⟩ = some (.int .i64 rl)) ∧
   (w'.cell? ⟨w.heap.size + 1, 0, none⟩ = some (.int .i64 32) ∧ w'.cell? ⟨w.heap.size + 1, 1, none⟩ = some (.int .i64 0) ∧ w'.cell? ⟨w.heap.size + 1, 2, none⟩ = some (.int .i64 0) ∧ w'.cell? ⟨w.heap.size + 1, 3, none⟩ = some (.slice (some p) len cap)) ∧
   (w'.cell? p = some (.int .i64 ka.op) ∧ w'.cell? ⟨p.block, p.off + 1, none⟩ = some (.int .i64 ka.n) ∧ w'.cell? ⟨p.block, p.off + 2, none⟩ = some (.int .i64 ka.m) ∧ w'.cell? ⟨p.block, p.off + 3, none⟩ = some (.slice ka.at_ ka.kids.length ka.cap))) from
  ⟨room_cells (blk_below k2 hb), core_cells (blk_below k3 hb), hl1.lit0 hb rfl⟩)
 have Lka := Lib.hid (LiesL.lies hl1 (k := ka) (by simp))
 have Kka := Lib.hid ihka
 have HE := Lib.hid e1
 have B1 := Lib.hid b1
 have HL := Lib.hid hl1
 obtain ⟨⟨y0, y1, y2⟩, ⟨x0, x1, x2, x3⟩, -⟩ := HC.out w1 (Below.refl _ _)
 clear hl hl1 k2 k3 e1 b1 s1 ihka
 have HA := Lib.hid (show (va == 1) = false by simp [h1])
 have HRR := Lib.hid (show (if false then (3 : Int) else 0) = 0 from rfl)
 clear h1
 have q1 : (2 ≤ (len : Int)) = True := eq_true (by omega)
 have q2 : (2 ≤ len) = True := eq_true h2
 have q3 : (len : Int).tmod 2 = 0 := by rw [Int.tmod_eq_emod_of_nonneg (by omega)]; omega
 have q4 : (1 ≤ len) = True := eq_true (by omega)
 have q5 : (1 ≤ (len : Int)) = True := eq_true (by omega)
 have q6 : (len ≤ cap) = True := eq_true hc
 have q7 : ((len : Int) ≤ (cap : Int)) = True := eq_true (by omega)
 have q8 : ((0 : Int) ≤ (len : Int)) = True := eq_true (by omega)
 have q9 : ((len : Int) == 3) = false := by simp; omega
 have q10 : ¬ cap = 1 := by omega
 have q11 : (0 < len) = True := eq_true (by omega)
 have q12 : ((0 : Int) < (len : Int)) = True := eq_true (by omega)
 clear h2 he hc
 go_enter Tryd.func36, Tryd.ntmps36
 go_wp2_with fail
 rw [HE.out]
 go_wp2_with fail
 clear y0 y1 y2 x0 x1 x2 x3
 refine wp_region_held_drew (S := fun w' => Aside0 (Below w1.heap.size w1 w')) (by kernel_rfl) ?_ (fun hHeld => ?_)
 ·exact ⟨(Below.refl _ _).drew⟩
 generalize World.drew _ = wDb at hHeld ⊢
 have HCr := HC
 refine' tk 0 ?_
 try simp only [pt]
 refine' tk 1 ?_
 try simp only [pt]
 refine' tk 2 ?_
 try simp only [pt]
 refine' tk 3 ?_
 try simp only [pt]
 refine' tk 4 ?_
 try simp only [pt]
 refine' cm 5 (fun K hK => ?_)
 go_simp
 have hHeld0 := hHeld
 refine hK.out _ _ ⟨hHeld.out.alloc hHeld.out.size _⟩ (fun hHeld => ?_)
 clear hK K
 try simp only [pt]
 refine' cm 6 (fun K hK => ?_)
 go_simp
 refine (all_one _ (liesL_new (Lka.out.below hHeld0.out)) Kka.out HA.out).mono ?_
 rintro e w7 ⟨rfl, hb2⟩
 refine hK.out _ _ ⟨hHeld.out.trans (hb2.mono hHeld.out.size)⟩ (fun hHeld => ?_)
 clear hK K
 try simp only [pt]
 refine' tk 7 ?_
 try simp only [pt]
 refine' tn 8 ?_
 try simp only [pt]
 refine' tn 9 ?_
 try simp only [pt]
 refine' tn 10 ?_
 try simp only [pt]
 refine' tn 11 ?_
 try simp only [pt]
 refine' tn 12 ?_
 try simp only [pt]
 refine' tk 13 ?_
 try simp only [pt]
 refine' cm 14 (fun K hK => ?_)
 go_simp
 refine (when_calls false _ HRR.out _).mono ?_
 rintro e w8 ⟨rfl, rfl⟩
 refine hK.out _ _ ⟨hHeld.out⟩ (fun hHeld => ?_)
 clear hK K
 try simp only [pt]
 refine' tk 15 ?_
 try simp only [pt]
 refine wpAnyH_done (by kernel_rfl) ?_ _
 go_wp2_with fail
 go_ret
 exact ⟨by first | rfl | simp, B1.out.trans (hHeld.out.mono B1.out.size)⟩
end
end Go.Proofs.YtpljkcakijkklaaDoor

end
section
namespace Go.Proofs.YtpljkcakijkklaaDoor
set_option linter.unusedVariables false
set_option linter.unusedSimpArgs false
open Go.RowKit Go.Proofs.YtpljkcakijkklaaDoorW.PrintWords Go.Proofs.YtpljkcakijkklaaDoorW.PrintLast Go.Proofs.YtpljkcakijkklaaDoorW.PrintMore

section
variable {rw rc rl : Int} {p : Addr} {cap : Nat} {w : World}
theorem more_lad_t {va : Int} {s : Cr → Int} {ka : Cr} {t : List Cr} {len : Nat} (hlen : t.length + 1 = len) (h2 : 2 ≤ len) (he : len % 2 = 0) (hc : len ≤ cap) (hbig : len ≤ 4398046511104) (hl : LiesL w (some p) 0 (ka :: t)) (ihka : SortC rw rc rl ka va) (iht : ∀ k ∈ t, SortC rw rc rl k (s k)) (h1 : va = 1) {bc : Bool} (h3 : rungsP s none t = bc) {r : Int} (h4 : (if bc then (3 : Int) else 0) = r) :
  Calls Tryd.prog 36 #[.agg #[.int .i64 rw, .int .i64 rc, .int .i64 rl], .agg #[.int .i64 32, .int .i64 0, .int .i64 0, .slice (some p) len cap]] w fun e w' => e = .returned (.int .i64 (r)) ∧ Below w.heap.size w w' := by
 have IHT := Lib.hid iht
 have HLN := Lib.hid hlen
 have HBG := Lib.hid hbig
 have HTL := Lib.hid (show t.length ≤ 4398046511104 ∧ t.length % 2 = 1 by omega)
 have HEL := Lib.hid (show len - 1 = t.length by omega)
 clear iht hlen hbig
 obtain ⟨w1, e1, b1, k2, k3, s1⟩ := box2 w (.cells #[.int .i64 rw, .int .i64 rc, .int .i64 rl] 68) (.cells #[.int .i64 32, .int .i64 0, .int .i64 0, .slice (some p) len cap] 24)
 have hl1 := hl.below b1
 have HC := Lib.hid fun (w' : World) (hb : Below w1.heap.size w1 w') => (show ((w'.cell? ⟨w.heap.size, 0, none⟩ = some (.int .i64 rw) ∧ w'.cell? ⟨w.heap.size, 1, none⟩ = some (.int .i64 rc) ∧ w'.cell? ⟨w.heap.size, 2, none⟩ = some (.int .i64 rl)) ∧
   (w'.cell? ⟨w.heap.size + 1, 0, none⟩ = some (.int .i64 32) ∧ w'.cell? ⟨w.heap.size + 1, 1, none⟩ = some (.int .i64 0) ∧ w'.cell? ⟨w.heap.size + 1, 2, none⟩ = some (.int .i64 0) ∧ w'.cell? ⟨w.heap.size + 1, 3, none⟩ = some (.slice (some p) len cap)) ∧
   (w'.cell? p = some (.int .i64 ka.op) ∧ w'.cell? ⟨p.block, p.off + 1, none⟩ = some (.int .i64 ka.n) ∧ w'.cell? ⟨p.block, p.off + 2, none⟩ = some (.int .i64 ka.m) ∧ w'.cell? ⟨p.block, p.off + 3, none⟩ = some (.slice ka.at_ ka.kids.length ka.cap))) from
  ⟨room_cells (blk_below k2 hb), core_cells (blk_below k3 hb), hl1.lit0 hb rfl⟩)
 have Lka := Lib.hid (LiesL.lies hl1 (k := ka) (by simp))
 have Kka := Lib.hid ihka
 have HE := Lib.hid e1
 have B1 := Lib.hid b1
 have HL := Lib.hid hl1
 obtain ⟨⟨y0, y1, y2⟩, ⟨x0, x1, x2, x3⟩, -⟩ := HC.out w1 (Below.refl _ _)
 clear hl hl1 k2 k3 e1 b1 s1 ihka
 have HA := Lib.hid (show (va == 1) = true by simp [h1])
 have HBC := Lib.hid h3
 have HRR := Lib.hid h4
 clear h1 h3 h4
 have q1 : (2 ≤ (len : Int)) = True := eq_true (by omega)
 have q2 : (2 ≤ len) = True := eq_true h2
 have q3 : (len : Int).tmod 2 = 0 := by rw [Int.tmod_eq_emod_of_nonneg (by omega)]; omega
 have q4 : (1 ≤ len) = True := eq_true (by omega)
 have q5 : (1 ≤ (len : Int)) = True := eq_true (by omega)
 have q6 : (len ≤ cap) = True := eq_true hc
 have q7 : ((len : Int) ≤ (cap : Int)) = True := eq_true (by omega)
 have q8 : ((0 : Int) ≤ (len : Int)) = True := eq_true (by omega)
 have q9 : ((len : Int) == 3) = false := by simp; omega
 have q10 : ¬ cap = 1 := by omega
 have q11 : (0 < len) = True := eq_true (by omega)
 have q12 : ((0 : Int) < (len : Int)) = True := eq_true (by omega)
 clear h2 he hc
 go_enter Tryd.func36, Tryd.ntmps36
 go_wp2_with fail
 rw [HE.out]
 go_wp2_with fail
 clear y0 y1 y2 x0 x1 x2 x3
 refine wp_region_held_drew (S := fun w' => Aside0 (Below w1.heap.size w1 w')) (by kernel_rfl) ?_ (fun hHeld => ?_)
 ·exact ⟨(Below.refl _ _).drew⟩
 generalize World.drew _ = wDb at hHeld ⊢
 have HCr := HC
 refine' tk 0 ?_
 try simp only [pt]
 refine' tk 1 ?_
 try simp only [pt]
 refine' tk 2 ?_
 try simp only [pt]
 refine' tk 3 ?_
 try simp only [pt]
 refine' tk 4 ?_
 try simp only [pt]
 refine' cm 5 (fun K hK => ?_)
 go_simp
 have hHeld0 := hHeld
 refine hK.out _ _ ⟨hHeld.out.alloc hHeld.out.size _⟩ (fun hHeld => ?_)
 clear hK K
 try simp only [pt]
 refine' cm 6 (fun K hK => ?_)
 go_simp
 refine (all_one _ (liesL_new (Lka.out.below hHeld0.out)) Kka.out HA.out).mono ?_
 rintro e w7 ⟨rfl, hb2⟩
 refine hK.out _ _ ⟨hHeld.out.trans (hb2.mono hHeld.out.size)⟩ (fun hHeld => ?_)
 clear hK K
 try simp only [pt]
 refine' tk 7 ?_
 try simp only [pt]
 refine' tk 8 ?_
 try simp only [pt]
 refine' tk 9 ?_
 try simp only [pt]
 refine' tk 10 ?_
 try simp only [pt]
 refine' tk 11 ?_
 try simp only [pt]
 refine' cm 12 (fun K hK => ?_)
 go_simp
 rw [HEL.out]
 refine (rungs_calls _ (liesL_tail (HL.out.below hHeld.out)) HTL.out.1 HTL.out.2 s IHT.out HBC.out).mono ?_
 rintro e w7 ⟨rfl, hb2⟩
 refine hK.out _ _ ⟨hHeld.out.trans (hb2.mono hHeld.out.size)⟩ (fun hHeld => ?_)
 clear hK K
 try simp only [pt]
 refine' tk 13 ?_
 try simp only [pt]
 refine' cm 14 (fun K hK => ?_)
 go_simp
 refine (when_calls bc _ HRR.out _).mono ?_
 rintro e w8 ⟨rfl, rfl⟩
 refine hK.out _ _ ⟨hHeld.out⟩ (fun hHeld => ?_)
 clear hK K
 try simp only [pt]
 refine' tk 15 ?_
 try simp only [pt]
 refine wpAnyH_done (by kernel_rfl) ?_ _
 go_wp2_with fail
 go_ret
 exact ⟨by first | rfl | simp, B1.out.trans (hHeld.out.mono B1.out.size)⟩
end
end Go.Proofs.YtpljkcakijkklaaDoor

end
section
namespace Go.Proofs.YtpljkcakijkklaaDoor
set_option linter.unusedVariables false
set_option linter.unusedSimpArgs false
open Go.RowKit Go.Proofs.YtpljkcakijkklaaDoorW.PrintWords Go.Proofs.YtpljkcakijkklaaDoorW.PrintLast Go.Proofs.YtpljkcakijkklaaDoorW.PrintMore

theorem more_calls {rw rc rl op n m : Int} {at_ : Option Addr} {cap : Nat} {l : List Cr} {w : World} (hl : Lies w (.node op n m at_ cap l)) (h2 : 2 ≤ l.length) (s : Cr → Int) (ih : ∀ k ∈ l, SortC rw rc rl k (s k)) :
  Calls Tryd.prog 36 #[.agg #[.int .i64 rw, .int .i64 rc, .int .i64 rl], .agg #[.int .i64 op, .int .i64 n, .int .i64 m, .slice at_ l.length cap]] w fun e w' => e = .returned (.int .i64 (moreS s op n m l)) ∧ Below w.heap.size w w' := by
 have hk := hl.kids
 have hr := hl.room
 simp only [Cr.at_, Cr.kids, Cr.cap] at hk hr
 obtain ⟨p, rfl⟩ : ∃ p, at_ = some p := by
  obtain ⟨b, hb, -⟩ := hk.cells (i := 0) (k := l[0]'(by omega)) (List.getElem?_eq_getElem _)
  exact ⟨b, hb⟩
 unfold moreS
 by_cases hn : n = 0
 ·by_cases hm : m = 0
  ·subst hn hm
   rw [if_pos ⟨rfl, rfl⟩]
   by_cases h28 : op = 28
   ·subst h28
    by_cases h3 : l.length = 3
    ·rw [if_pos ⟨rfl, h3⟩]
     match l, h3, hk, ih with
     | [a, b, c], _, hk, ih =>
      have ia := ih a (by simp)
      have ib := ih b (by simp)
      have ic := ih c (by simp)
      simp only [ifS, List.length_cons, List.length_nil]
      by_cases qa : s a = 2
      ·rw [if_pos qa]
       by_cases qb : s b = 1
       ·rw [if_pos qb]
        refine (more_if_1 hk ia ib ic qa qb rfl rfl).mono fun e w' h => ⟨h.1.trans ?_, h.2⟩
        simp only [beq_iff_eq]
       ·rw [if_neg qb]
        by_cases qb2 : s b = 2
        ·rw [if_pos qb2]
         refine (more_if_2 hk ia ib ic qa qb2 rfl rfl).mono fun e w' h => ⟨h.1.trans ?_, h.2⟩
         simp only [beq_iff_eq]
        ·rw [if_neg qb2]
         exact more_if_o hk ia ib ic qa qb qb2
      ·rw [if_neg qa]
       exact more_if_f hk ia ib ic qa
    ·rw [if_neg (by simp [h3]), if_neg (by simp)]
     by_cases hl2 : l.length = 2
     ·rw [if_pos hl2]
      have e : twoS s 28 l = 0 := by
       match l, hl2 with
       | [a, b], _ => simp [twoS]
      rw [e, hl2]
      exact more_high (len := 0) (by decide) (by decide)
     ·rw [if_neg hl2]
      exact more_28 hl2 h3
   ·rw [if_neg (by simp [h28])]
    by_cases h32 : op = 32
    ·subst h32
     by_cases he : l.length % 2 = 0
     ·rw [if_pos ⟨rfl, h2, he⟩]
      match l, hk, ih, h2, he, hr with
      | a :: t, hk, ih, h2, he, hr =>
       simp only [ladS]
       have hbig : (a :: t).length ≤ 4398046511104 := by omega
       by_cases qa : s a = 1
       ·rw [if_pos qa]
        exact more_lad_t (by simp) h2 he hr.1 hbig hk (ih a (by simp)) (fun k hk => ih k (by simp [hk])) qa rfl rfl
       ·rw [if_neg qa]
        exact more_lad_f (s := s) (by simp) h2 he hr.1 hbig hk (ih a (by simp)) (fun k hk => ih k (by simp [hk])) qa
     ·rw [if_neg (by simp [he]), if_neg (by omega)]
      exact more_32 (by omega) (by omega)
    ·rw [if_neg (by simp [h32])]
     by_cases hl2 : l.length = 2
     ·rw [if_pos hl2]
      match l, hl2, hk, ih with
      | [a, b], _, hk, ih =>
       have tw {sort r : Int} : (if ([a, b].all fun k => s k == sort) then r else 0) = if (s a == sort && s b == sort) then r else 0 := by simp
       by_cases k14 : op = 14 ∨ op = 15 ∨ op = 16 ∨ op = 17 ∨ op = 23 ∨ op = 24
       ·simp only [twoS, if_pos k14]
        rw [← tw]
        rcases k14 with rfl | rfl | rfl | rfl | rfl | rfl
        ·exact more_k14 rfl hk ih
        ·exact more_k15 rfl hk ih
        ·exact more_k16 rfl hk ih
        ·exact more_k17 rfl hk ih
        ·exact more_k23 rfl hk ih
        ·exact more_k24 rfl hk ih
       ·by_cases k18 : op = 18 ∨ op = 19 ∨ op = 20 ∨ op = 21 ∨ op = 22
        ·simp only [twoS, if_neg k14, if_pos k18]
         rw [← tw]
         rcases k18 with rfl | rfl | rfl | rfl | rfl
         ·exact more_k18 rfl hk ih
         ·exact more_k19 rfl hk ih
         ·exact more_k20 rfl hk ih
         ·exact more_k21 rfl hk ih
         ·exact more_k22 rfl hk ih
        ·by_cases k25 : op = 25 ∨ op = 26
         ·simp only [twoS, if_neg k14, if_neg k18, if_pos k25]
          rw [← tw]
          rcases k25 with rfl | rfl
          ·exact more_k25 rfl hk ih
          ·exact more_k26 rfl hk ih
         ·simp only [twoS, if_neg k14, if_neg k18, if_neg k25]
          by_cases k27 : op = 27
          ·subst k27
           rw [if_pos rfl]
           have ia := ih a (by simp)
           have ib := ih b (by simp)
           by_cases q3 : s a = 3
           ·rw [if_pos q3]
            exact more_ei_3 hk ia ib q3
           ·rw [if_neg q3]
            by_cases q0 : s a = 0
            ·rw [if_pos q0]
             exact more_ei_0 hk ia ib q0
            ·rw [if_neg q0]
             refine (more_ei_o hk ia ib q3 q0 rfl rfl).mono fun e w' h => ⟨h.1.trans ?_, h.2⟩
             simp only [beq_iff_eq]
          ·rw [if_neg k27]
           rcases Int.lt_or_le op 14 with hlo | hlo
           ·exact more_low (len := 0) hlo
           ·exact more_high (len := 0) (by omega) h32
     ·rw [if_neg hl2]
      exact more_len hl2 h28 h32
  ·rw [if_neg (by simp [hm])]
   by_cases hn0 : n = 0
   ·subst hn0
    exact more_m hm
   ·exact more_n hn0
 ·rw [if_neg (by simp [hn])]
  exact more_n hn

def nodeS (rw rc rl : Int) (s : Cr → Int) (c : Cr) : Int :=
 match c.kids with
 | [] => leafS rw rc c.op c.n c.m
 | [k] => oneS rl c.op c.n c.m (s k)
 | l => moreS s c.op c.n c.m l
theorem rungsP_congr {s s' : Cr → Int} : ∀ {l : List Cr} {p : Option Int}, (∀ k ∈ l, s k = s' k) → rungsP s p l = rungsP s' p l
 | [], _, _ => rfl
 | [a], _, h => by rw [rungsP, rungsP, h a (by simp)]
 | x :: y :: l, p, h => by
  show (x.op == 1 && (s x == 1 && ((match p with | none => true | some q => decide (q < x.n)) && (s y == 3 && rungsP s (some x.n) l)))) = (x.op == 1 && (s' x == 1 && ((match p with | none => true | some q => decide (q < x.n)) && (s' y == 3 && rungsP s' (some x.n) l))))
  rw [h x (by simp), h y (by simp), rungsP_congr (l := l) (fun k hk => h k (by simp [hk]))]
theorem moreS_congr {s s' : Cr → Int} {op n m : Int} {l : List Cr} (h : ∀ k ∈ l, s k = s' k) : moreS s op n m l = moreS s' op n m l := by
 have e1 : ifS s l = ifS s' l := by
  match l, h with
  | [a, b, c], h => simp only [ifS, h a (by simp), h b (by simp), h c (by simp)]
  | [], _ => rfl
  | [_], _ => rfl
  | [_, _], _ => rfl
  | _ :: _ :: _ :: _ :: _, _ => rfl
 have e2 : ladS s l = ladS s' l := by
  match l, h with
  | [], _ => rfl
  | a :: t, h => simp only [ladS, h a (by simp), rungsP_congr (l := t) (fun k hk => h k (by simp [hk]))]
 have e3 : twoS s op l = twoS s' op l := by
  match l, h with
  | [a, b], h => simp only [twoS, h a (by simp), h b (by simp)]
  | [], _ => rfl
  | [_], _ => rfl
  | _ :: _ :: _ :: _, _ => rfl
 unfold moreS
 rw [e1, e2, e3]
theorem nodeS_congr {rw rc rl : Int} {s s' : Cr → Int} {c : Cr} (h : ∀ k ∈ c.kids, s k = s' k) : nodeS rw rc rl s c = nodeS rw rc rl s' c := by
 unfold nodeS
 split
 ·rfl
 ·rename_i k e
  rw [h k (by rw [e]; simp)]
 ·exact moreS_congr h
theorem Cr.kid_size {c k : Cr} (h : k ∈ c.kids) : SizeOf.sizeOf k < SizeOf.sizeOf c := by
 cases c with
 | node o x y a cap l =>
  have := List.sizeOf_lt_of_mem h
  simp only [Cr.kids] at this
  simp
  omega
open Classical in
noncomputable def sortS (rw rc rl : Int) (c : Cr) : Int := nodeS rw rc rl (fun k => if h : k ∈ c.kids then sortS rw rc rl k else 0) c
termination_by SizeOf.sizeOf c
decreasing_by exact Cr.kid_size h
theorem sortS_eq (rw rc rl : Int) (c : Cr) : sortS rw rc rl c = nodeS rw rc rl (sortS rw rc rl) c := by
 rw [sortS]
 exact nodeS_congr fun k hk => by simp [hk]

theorem sort_calls (rw rc rl : Int) (c : Cr) : SortC rw rc rl c (sortS rw rc rl c) := by
 refine Cr.ind (P := fun c => SortC rw rc rl c (sortS rw rc rl c)) (fun c ih => ?_) c
 intro w hl
 rw [sortS_eq]
 obtain ⟨op, n, m, at_, cap, l⟩ := c
 simp only [Cr.op, Cr.n, Cr.m, Cr.at_, Cr.cap, Cr.kids] at *
 obtain ⟨w1, e1, b1, k2, k3, s1⟩ := box2 w (.cells #[.int .i64 rw, .int .i64 rc, .int .i64 rl] 68) (.cells #[.int .i64 op, .int .i64 n, .int .i64 m, .slice at_ l.length cap] 24)
 obtain ⟨y0, y1, y2⟩ := room_cells k2
 obtain ⟨x0, x1, x2, x3⟩ := core_cells k3
 have HE := Lib.hid e1
 have B1 := Lib.hid b1
 have HL := Lib.hid (hl.below b1)
 have HI := Lib.hid ih
 clear hl ih k2 k3 e1 b1 s1
 match l, HL, HI with
 | [], HL, HI =>
  simp only [List.length_nil] at *
  go_enter Tryd.func22, Tryd.ntmps22
  go_wp2_with fail
  rw [HE.out]
  go_wp2_with fail
  refine (leaf_calls rw rc rl op n m at_ 0 cap _).mono ?_
  rintro e w2 ⟨rfl, hb2⟩
  go_wp2_with fail
  go_ret
  exact ⟨rfl, B1.out.trans (hb2.mono B1.out.size)⟩
 | [k], HL, HI =>
  simp only [List.length_cons, List.length_nil] at *
  go_enter Tryd.func22, Tryd.ntmps22
  go_wp2_with fail
  rw [HE.out]
  go_wp2_with fail
  refine (one_calls HL.out (HI.out k (by simp))).mono ?_
  rintro e w2 ⟨rfl, hb2⟩
  go_wp2_with fail
  go_ret
  exact ⟨rfl, B1.out.trans (hb2.mono B1.out.size)⟩
 | a :: b :: t, HL, HI =>
  have e9 : nodeS rw rc rl (sortS rw rc rl) (.node op n m at_ cap (a :: b :: t)) = moreS (sortS rw rc rl) op n m (a :: b :: t) := rfl
  rw [e9]
  obtain ⟨l, hl⟩ : ∃ l, a :: b :: t = l := ⟨_, rfl⟩
  rw [hl] at HL HI x3 ⊢
  rw [hl] at HE
  have h2 : 2 ≤ l.length := by rw [← hl]; simp
  obtain ⟨r, hr⟩ : ∃ r, moreS (sortS rw rc rl) op n m l = r := ⟨_, rfl⟩
  have hm := more_calls HL.out h2 (sortS rw rc rl) HI.out
  rw [hr] at hm ⊢
  obtain ⟨len, hlen⟩ : ∃ len, l.length = len := ⟨_, rfl⟩
  rw [hlen] at hm h2 x3 ⊢
  rw [hlen] at HE
  have q0 : ((len : Int) == 0) = false := by simp; omega
  have q1 : ((len : Int) == 1) = false := by simp; omega
  have q2 : (len == 0) = false := by simp; omega
  have q3 : ¬ len = 0 := by omega
  have q4 : ¬ len = 1 := by omega
  have HM := Lib.hid hm
  clear hm h2 hl hr hlen
  go_enter Tryd.func22, Tryd.ntmps22
  go_wp2_with fail
  rw [HE.out]
  go_wp2_with fail
  refine HM.out.mono ?_
  rintro e w2 ⟨rfl, hb2⟩
  go_wp2_with fail
  go_ret
  exact ⟨rfl, B1.out.trans (hb2.mono B1.out.size)⟩

theorem Sort_calls {rw rc rl : Int} {c : Cr} {w : World} (hl : Lies w c) : Calls Tryd.prog 8 #[.agg #[.int .i64 c.op, .int .i64 c.n, .int .i64 c.m, .slice c.at_ c.kids.length c.cap], .int .i64 rw, .int .i64 rc, .int .i64 rl] w fun e w' => e = .returned (.int .i64 (sortS rw rc rl c)) ∧ Below w.heap.size w w' := by
 obtain ⟨w1, e1, b1, k2, s1⟩ := box1 w (.cells #[.int .i64 c.op, .int .i64 c.n, .int .i64 c.m, .slice c.at_ c.kids.length c.cap] 24)
 obtain ⟨x0, x1, x2, x3⟩ := core_cells k2
 have HE := Lib.hid e1
 have HS := Lib.hid (sort_calls rw rc rl c _ (hl.below b1))
 have B1 := Lib.hid b1
 clear hl k2 e1 b1 s1
 go_enter Tryd.func8, Tryd.ntmps8
 go_wp2_with fail
 rw [HE.out]
 go_wp2_with fail
 refine HS.out.mono ?_
 rintro e w2 ⟨rfl, hb2⟩
 go_wp2_with fail
 go_ret
 exact ⟨rfl, B1.out.trans (hb2.mono B1.out.size)⟩
end Go.Proofs.YtpljkcakijkklaaDoor

end
section
namespace Go.Proofs.YtpljkcakijkklaaDoor
set_option linter.unusedVariables false
set_option linter.unusedSimpArgs false
open Go.RowKit Go.Proofs.YtpljkcakijkklaaDoorW.PrintWords Go.Proofs.YtpljkcakijkklaaDoorW.PrintLast Go.Proofs.YtpljkcakijkklaaDoorW.PrintMore

mutual
def Cr.total : Cr → Nat
 | .node _ _ _ _ _ l => 1 + totalL l
def totalL : List Cr → Nat
 | [] => 0
 | c :: l => c.total + totalL l
end
theorem Cr.total_eq (c : Cr) : c.total = 1 + totalL c.kids := by cases c; rw [Cr.total]; rfl
theorem totalL_take : ∀ {l : List Cr} {i : Nat} {k : Cr}, l[i]? = some k → totalL (l.take (i + 1)) = totalL (l.take i) + k.total
 | [], _, _, h => by simp at h
 | c :: l, 0, k, h => by
  simp at h
  subst h
  simp [totalL]
 | c :: l, i + 1, k, h => by
  have := totalL_take (l := l) (i := i) (k := k) (by simpa using h)
  rw [List.take_succ_cons, List.take_succ_cons, totalL, totalL, this]
  omega
theorem totalL_take_le : ∀ (l : List Cr) (i : Nat), totalL (l.take i) ≤ totalL l
 | [], i => by simp
 | c :: l, 0 => by simp [totalL]
 | c :: l, i + 1 => by
  rw [List.take_succ_cons, totalL, totalL]
  have := totalL_take_le l i
  omega
theorem calls_at {P : Program} {f : Nat} {args : Array Value} {w1 X : World} {r : Ending} {K : Ending → World → Prop} (hX : Below w1.heap.size w1 X) (h : ∀ W, Below w1.heap.size w1 W → Calls P f args W fun e w' => e = r ∧ Below W.heap.size W w')
  (k : ∀ w', Below w1.heap.size w1 w' → K r w') : Calls P f args X K :=
 (h X hX).mono fun e w' he => by
  obtain ⟨rfl, hb⟩ := he
  exact k w' (hX.trans (hb.mono hX.size))

theorem count_calls (c : Cr) : ∀ (left : Nat), left ≤ 4096 → ∀ w, Lies w c → Calls Tryd.prog 28 #[.agg #[.int .i64 c.op, .int .i64 c.n, .int .i64 c.m, .slice c.at_ c.kids.length c.cap], .int .i64 left] w fun e w' => e = .returned (.int .i64 (min c.total (left + 1) : Nat)) ∧ Below w.heap.size w w' := by
 refine Cr.ind (P := fun c => ∀ (left : Nat), left ≤ 4096 → ∀ w, Lies w c → Calls Tryd.prog 28 #[.agg #[.int .i64 c.op, .int .i64 c.n, .int .i64 c.m, .slice c.at_ c.kids.length c.cap], .int .i64 left] w fun e w' => e = .returned (.int .i64 (min c.total (left + 1) : Nat)) ∧ Below w.heap.size w w') (fun c ih => ?_) c
 intro left hleft w hl
 obtain ⟨w1, e1, b1, k2, s1⟩ := box1 w (.cells #[.int .i64 c.op, .int .i64 c.n, .int .i64 c.m, .slice c.at_ c.kids.length c.cap] 24)
 obtain ⟨x0, x1, x2, x3⟩ := core_cells k2
 have HE := Lib.hid e1
 have B1 := Lib.hid b1
 have HL := Lib.hid (hl.below b1).kids
 have HRM := Lib.hid hl.room
 have HIH := Lib.hid ih
 have HLF := Lib.hid hleft
 obtain ⟨r, hr⟩ : ∃ r, min c.total (left + 1) = r := ⟨_, rfl⟩
 have HR := Lib.hid hr
 rw [hr]
 have HT := Lib.hid (show c.total = 1 + totalL c.kids from c.total_eq)
 obtain ⟨op, n, m, at_, cap, l⟩ := c
 simp only [Cr.op, Cr.n, Cr.m, Cr.at_, Cr.cap, Cr.kids] at *
 obtain ⟨T, hT⟩ : ∃ T, (Cr.node op n m at_ cap l).total = T := ⟨_, rfl⟩
 rw [hT] at HR HT
 obtain ⟨len, hlen⟩ : ∃ n, l.length = n := ⟨_, rfl⟩
 have HN := Lib.hid hlen
 rw [hlen] at x3 HE HRM ⊢
 clear hl ih hleft hr hT hlen k2 e1 b1 s1
 go_enter Tryd.func28, Tryd.ntmps28
 go_wp2_with fail
 rw [HE.out]
 go_wp2_with fail
 clear x0 x1 x2 x3
 go_loopg [5, 11] len (fun gg v5 v11 wr => ∃ (i k : Nat), v5 = .int .i64 k ∧ v11 = .int .i64 i ∧ Aside0 (i + gg = len ∧ k = min (1 + totalL (l.take i)) (left + 1)) ∧ Aside0 (Below w1.heap.size w1 wr))
 case atStart => exact ⟨0, 1, rfl, rfl, ⟨by omega, by rw [List.take_zero, totalL]; omega⟩, ⟨Below.refl _ _⟩⟩
 case round =>
  obtain ⟨i, k, rfl, rfl, hi, BW⟩ := hrel
  have HI := Lib.hid hi.out
  have HB := Lib.hid BW.out
  clear hi BW
  by_cases hlt : i < len
  ·obtain ⟨y, hy⟩ : ∃ y, l[i]? = some y := ⟨_, List.getElem?_eq_getElem (by rw [HN.out]; exact hlt)⟩
   obtain ⟨b, rfl, hblk, c0, c1, c2, c3⟩ := HL.out.cellsB HB.out hy
   have HY := Lib.hid hy
   have HYL := Lib.hid (LiesL.lies HL.out (List.mem_of_getElem? hy))
   have HYC := Lib.hid (HIH.out y (List.mem_of_getElem? hy))
   have q0 := eq_true (show (0 : Int) ≤ (i : Int) by omega)
   have q1 : ((i : Int) < (len : Int)) = True := eq_true (by omega)
   have q2 : (i < len) = True := eq_true hlt
   have HLT := Lib.hid hlt
   clear hy hlt
   by_cases hk : left < k
   ·have q3 : ((left : Int) < (k : Int)) = True := eq_true (by omega)
    have q4 : (left < k) = True := eq_true hk
    have hrk : k = r := by
     have h1 := HI.out.2
     have h2 := HR.out
     have h3 := HT.out
     have h4 := totalL_take_le l i
     omega
    subst hrk
    clear hk
    go_wp2_with fail
    go_ret
    refine ⟨rfl, B1.out.trans (Below.mono ?_ B1.out.size)⟩
    repeat (first | exact HB.out | refine Below.setCell ?_ HB.out.size _ | refine Below.alloc ?_ HB.out.size _)
   ·have q3 : ((left : Int) < (k : Int)) = False := eq_false (by omega)
    have q4 : (left < k) = False := eq_false hk
    obtain ⟨d, hd⟩ : ∃ d, left - k = d := ⟨_, rfl⟩
    have HD := Lib.hid (show k + d = left by omega)
    have w3 : wrap64 ((left : Int) - (k : Int)) = (d : Int) := by have := HLF.out; have := HD.out; unfold wrap64; omega
    obtain ⟨t, ht⟩ : ∃ t, min y.total (d + 1) = t := ⟨_, rfl⟩
    obtain ⟨k2, hk2⟩ : ∃ k2, k + t = k2 := ⟨_, rfl⟩
    have HK2 := Lib.hid (show k2 = min (1 + totalL (l.take (i + 1))) (left + 1) by
     have h1 := HI.out.2
     have h2 := totalL_take HY.out
     have h3 := HD.out
     omega)
    have HTT := Lib.hid ht
    have w4 : wrap64 ((k : Int) + (t : Int)) = (k2 : Int) := by have := HLF.out; have := HD.out; unfold wrap64; omega
    have w5 : wrap64 ((i : Int) + 1) = ((i + 1 : Nat) : Int) := by have := HRM.out; have := HLT.out; unfold wrap64; omega
    clear hk hd ht hk2
    go_wp2_with fail
    refine calls_at (w1 := w1) ?hX (fun W hW => HYC.out d (by have := HD.out; have := HLF.out; omega) W (HYL.out.below hW)) ?_
    case hX => repeat (first | exact HB.out | refine Below.setCell ?_ HB.out.size _ | refine Below.alloc ?_ HB.out.size _)
    intro w7 hb7
    rw [HTT.out]
    go_wp2_with fail
    go_roundg (gk - 1)
    case measure => clear w3 w4 w5; have := HI.out; have := HLT.out; omega
    case rel => exact ⟨i + 1, k2, by first | rfl | simp [w4], by first | rfl | simp [w5], ⟨by clear w3 w4 w5; have := HI.out; have := HLT.out; omega, HK2.out⟩, ⟨hb7⟩⟩
  ·have q1 : ((i : Int) < (len : Int)) = False := eq_false (by omega)
   have q2 : (i < len) = False := eq_false hlt
   have hrk : k = r := by
    have h1 := HI.out
    have h2 := HR.out
    have h3 := HT.out
    rw [List.take_of_length_le (by rw [HN.out]; omega)] at h1
    omega
   subst hrk
   go_wp2_with fail
   go_ret
   exact ⟨rfl, B1.out.trans (HB.out.mono B1.out.size)⟩

theorem rNodes_calls (c : Cr) : ∀ w, Lies w c → Calls Tryd.prog 13 #[.agg #[.int .i64 c.op, .int .i64 c.n, .int .i64 c.m, .slice c.at_ c.kids.length c.cap]] w fun e w' => e = .returned (.int .i64 (min c.total 4097 : Nat)) ∧ Below w.heap.size w w' := by
 refine Cr.ind (P := fun c => ∀ w, Lies w c → Calls Tryd.prog 13 #[.agg #[.int .i64 c.op, .int .i64 c.n, .int .i64 c.m, .slice c.at_ c.kids.length c.cap]] w fun e w' => e = .returned (.int .i64 (min c.total 4097 : Nat)) ∧ Below w.heap.size w w') (fun c ih => ?_) c
 intro w hl
 obtain ⟨w1, e1, b1, k2, s1⟩ := box1 w (.cells #[.int .i64 c.op, .int .i64 c.n, .int .i64 c.m, .slice c.at_ c.kids.length c.cap] 24)
 have HC := Lib.hid fun (w' : World) (hb : Below w1.heap.size w1 w') => core_cells (blk_below k2 hb)
 have HE := Lib.hid e1
 have B1 := Lib.hid b1
 have HL := Lib.hid (hl.below b1).kids
 have HRM := Lib.hid hl.room
 have HIH := Lib.hid ih
 obtain ⟨r, hr⟩ : ∃ r, min c.total 4097 = r := ⟨_, rfl⟩
 have HR := Lib.hid hr
 rw [hr]
 have HT := Lib.hid (show c.total = 1 + totalL c.kids from c.total_eq)
 obtain ⟨op, n, m, at_, cap, l⟩ := c
 simp only [Cr.op, Cr.n, Cr.m, Cr.at_, Cr.cap, Cr.kids] at *
 obtain ⟨T, hT⟩ : ∃ T, (Cr.node op n m at_ cap l).total = T := ⟨_, rfl⟩
 rw [hT] at HR HT
 obtain ⟨len, hlen⟩ : ∃ n, l.length = n := ⟨_, rfl⟩
 have HN := Lib.hid hlen
 rw [hlen] at HC HE HRM ⊢
 clear hl ih hr hT hlen k2 e1 b1 s1
 go_enter Tryd.func13, Tryd.ntmps13
 go_wp2_with fail
 rw [HE.out]
 go_loopg [3, 4] len (fun gg v5 v11 wr => ∃ (i k : Nat), v5 = .int .i64 k ∧ v11 = .int .i64 i ∧ Aside0 (i + gg = len ∧ k ≤ 8193 ∧ min k 4097 = min (1 + totalL (l.take i)) 4097) ∧ Aside0 (Below w1.heap.size w1 wr))
 case atStart => exact ⟨0, 1, rfl, rfl, ⟨by omega, by decide, by rw [List.take_zero, totalL]⟩, ⟨Below.refl _ _⟩⟩
 case round =>
  obtain ⟨i, k, rfl, rfl, hi, BW⟩ := hrel
  have HI := Lib.hid hi.out
  have HB := Lib.hid BW.out
  obtain ⟨x0, x1, x2, x3⟩ := HC.out _ BW.out
  clear hi BW
  by_cases hend : i < len ∧ k ≤ 4096
  ·obtain ⟨hlt, hk⟩ := hend
   obtain ⟨y, hy⟩ : ∃ y, l[i]? = some y := ⟨_, List.getElem?_eq_getElem (by rw [HN.out]; exact hlt)⟩
   obtain ⟨b, rfl, hblk, c0, c1, c2, c3⟩ := HL.out.cellsB HB.out hy
   have HY := Lib.hid hy
   have HYL := Lib.hid (LiesL.lies HL.out (List.mem_of_getElem? hy))
   have HYC := Lib.hid (HIH.out y (List.mem_of_getElem? hy))
   have q0 := eq_true (show (0 : Int) ≤ (i : Int) by omega)
   have q1 : ((i : Int) < (len : Int)) = True := eq_true (by omega)
   have q2 : (i < len) = True := eq_true hlt
   have q3 : ((k : Int) ≤ 4096) = True := eq_true (by omega)
   have q4 : (k ≤ 4096) = True := eq_true hk
   have HLT := Lib.hid (And.intro hlt hk)
   obtain ⟨t, ht⟩ : ∃ t, min y.total 4097 = t := ⟨_, rfl⟩
   obtain ⟨k2, hk2⟩ : ∃ k2, k + t = k2 := ⟨_, rfl⟩
   have HK2 := Lib.hid (show k2 ≤ 8193 ∧ min k2 4097 = min (1 + totalL (l.take (i + 1))) 4097 by
    have h1 := HI.out.2.2
    have h2 := totalL_take HY.out
    omega)
   have HTT := Lib.hid ht
   have w4 : wrap64 ((k : Int) + (t : Int)) = (k2 : Int) := by unfold wrap64; omega
   have w5 : wrap64 ((i : Int) + 1) = ((i + 1 : Nat) : Int) := by have := HRM.out; unfold wrap64; omega
   clear hy hlt hk ht hk2
   go_wp2_with fail
   refine calls_at (w1 := w1) HB.out (fun W hW => HYC.out W (HYL.out.below hW)) ?_
   intro w7 hb7
   rw [HTT.out]
   go_wp2_with fail
   go_roundg (gk - 1)
   case measure => clear w4 w5; have := HI.out; have := HLT.out; omega
   case rel => exact ⟨i + 1, k2, by first | rfl | simp [w4], by first | rfl | simp [w5], ⟨by clear w4 w5; have := HI.out; have := HLT.out; omega, HK2.out.1, HK2.out.2⟩, ⟨hb7⟩⟩
  ·have hrk : min k 4097 = r := by
    have h1 := HI.out
    have h2 := HR.out
    have h3 := HT.out
    have h4 := totalL_take_le l i
    by_cases hlt : i < len
    ·have : 4097 ≤ k := by omega
     omega
    ·rw [List.take_of_length_le (by rw [HN.out]; omega)] at h1
     omega
   have HRK := Lib.hid hrk
   by_cases hlt : i < len
   ·have q1 : ((i : Int) < (len : Int)) = True := eq_true (by omega)
    have q2 : (i < len) = True := eq_true hlt
    have q3 : ((k : Int) ≤ 4096) = False := eq_false (by omega)
    have q4 : (k ≤ 4096) = False := eq_false (by omega)
    have q5 : min (k : Int) 4097 = (r : Int) := by omega
    clear hrk hend hlt
    go_wp2_with fail
    all_goals
     go_ret
     refine ⟨?_, B1.out.trans (HB.out.mono B1.out.size)⟩
     have := HRK.out
     first | rfl | (show Ending.returned (.int .i64 _) = Ending.returned (.int .i64 _); congr 2; omega)
   ·have q1 : ((i : Int) < (len : Int)) = False := eq_false (by omega)
    have q2 : (i < len) = False := eq_false hlt
    have q5 : min (k : Int) 4097 = (r : Int) := by omega
    clear hrk hend hlt
    go_wp2_with fail
    all_goals
     go_ret
     refine ⟨?_, B1.out.trans (HB.out.mono B1.out.size)⟩
     have := HRK.out
     first | rfl | (show Ending.returned (.int .i64 _) = Ending.returned (.int .i64 _); congr 2; omega)
end Go.Proofs.YtpljkcakijkklaaDoor

end
