/-
  Texts of this seat, joined, less what CoreFormed does not lean on: Cr, Core1, Core2, Core3, Core4, Core5, Core6, Core7, Core8, Core9, Cnodes, Csame, IndexS, Rsort1, Rsort2, Rsort3, Rsort5.
-/
import Derived.Test.YtpljkcakijkklaaGreatDoorQCoreFormed9
import Derived.Test.YtpljkcakijkklaaGreatDoorQCoreFormed2
import Derived.DataShut
import Derived.Lib.Hide
set_option linter.unusedVariables false
set_option linter.unusedSimpArgs false
set_option maxHeartbeats 16000000
set_option maxRecDepth 100000
namespace Go.Proofs.YtpljkcakijkklaaGreatDoor.Zz10
theorem z10_0 {p : Prop} (h : p := by clear wj wj2 wi2 w9 w10; have := HI.out; omega) : p := h
end Go.Proofs.YtpljkcakijkklaaGreatDoor.Zz10
open Go.Proofs.YtpljkcakijkklaaGreatDoor.Zz10
section
namespace Go.Proofs.YtpljkcakijkklaaGreatDoor
set_option linter.unusedVariables false
set_option linter.unusedSimpArgs false
open Go.RowKit

inductive Cr where
 | node (op n m : Int) (at_ : Option Addr) (cap : Nat) (kids : List Cr)

namespace Cr
def op : Cr → Int | .node o _ _ _ _ _ => o
def n : Cr → Int | .node _ x _ _ _ _ => x
def m : Cr → Int | .node _ _ x _ _ _ => x
def at_ : Cr → Option Addr | .node _ _ _ x _ _ => x
def cap : Cr → Nat | .node _ _ _ _ x _ => x
def kids : Cr → List Cr | .node _ _ _ _ _ x => x
def hdr (c : Cr) : Value := .slice c.at_ c.kids.length c.cap
def cells (c : Cr) : List Value := [.int .i64 c.op, .int .i64 c.n, .int .i64 c.m, .slice c.at_ c.kids.length c.cap]
def val (c : Cr) : Value := .agg #[.int .i64 c.op, .int .i64 c.n, .int .i64 c.m, .slice c.at_ c.kids.length c.cap]
@[simp] theorem op_node (o x y : Int) (a : Option Addr) (k : Nat) (l : List Cr) : (Cr.node o x y a k l).op = o := rfl
@[simp] theorem n_node (o x y : Int) (a : Option Addr) (k : Nat) (l : List Cr) : (Cr.node o x y a k l).n = x := rfl
@[simp] theorem m_node (o x y : Int) (a : Option Addr) (k : Nat) (l : List Cr) : (Cr.node o x y a k l).m = y := rfl
@[simp] theorem at_node (o x y : Int) (a : Option Addr) (k : Nat) (l : List Cr) : (Cr.node o x y a k l).at_ = a := rfl
@[simp] theorem cap_node (o x y : Int) (a : Option Addr) (k : Nat) (l : List Cr) : (Cr.node o x y a k l).cap = k := rfl
@[simp] theorem kids_node (o x y : Int) (a : Option Addr) (k : Nat) (l : List Cr) : (Cr.node o x y a k l).kids = l := rfl

theorem ind {P : Cr → Prop} (h : ∀ c : Cr, (∀ k ∈ c.kids, P k) → P c) (c : Cr) : P c :=
 Cr.rec (motive_1 := P) (motive_2 := fun l => ∀ k ∈ l, P k) (fun o x y a k l ih => h (.node o x y a k l) ih) (fun k hk => nomatch hk)
  (fun c l ihc ihl k hk => (List.mem_cons.1 hk).elim (fun e => e ▸ ihc) (ihl k)) c
end Cr

def I64 (x : Int) : Prop := -9223372036854775808 ≤ x ∧ x ≤ 9223372036854775807

mutual
def Lies (w : World) : Cr → Prop
 | .node o x y a k l => (I64 o ∧ I64 x ∧ I64 y) ∧ (l.length ≤ k ∧ l.length ≤ 2932031007317) ∧ LiesL w a 0 l
def LiesL (w : World) (a : Option Addr) : Nat → List Cr → Prop
 | _, [] => True
 | i, c :: l => (∃ b, a = some b ∧ w.cells? 0 (b.add (i * 4)) 4 = some c.cells) ∧ Lies w c ∧ LiesL w a (i + 1) l
end
theorem LiesL.get {w : World} {a : Option Addr} : ∀ {l : List Cr} {i j : Nat} {c : Cr}, LiesL w a i l → l[j]? = some c → (∃ b, a = some b ∧ w.cells? 0 (b.add ((i + j) * 4)) 4 = some c.cells) ∧ Lies w c
 | [], _, _, _, _, h => by simp at h
 | d :: l, i, 0, c, hl, h => by
  rw [LiesL] at hl
  simp at h
  subst h
  exact ⟨hl.1, hl.2.1⟩
 | d :: l, i, j + 1, c, hl, h => by
  rw [LiesL] at hl
  have := LiesL.get hl.2.2 (j := j) (c := c) (by simpa using h)
  rwa [show i + 1 + j = i + (j + 1) by omega] at this
theorem LiesL.of_get {w : World} {a : Option Addr} : ∀ {l : List Cr} {i : Nat}, (∀ j c, l[j]? = some c → (∃ b, a = some b ∧ w.cells? 0 (b.add ((i + j) * 4)) 4 = some c.cells) ∧ Lies w c) → LiesL w a i l
 | [], _, _ => by rw [LiesL]; trivial
 | d :: l, i, h => by
  rw [LiesL]
  have h0 := h 0 d rfl
  refine ⟨by simpa using h0.1, h0.2, LiesL.of_get fun j c hj => ?_⟩
  have := h (j + 1) c (by simpa using hj)
  rwa [show i + (j + 1) = i + 1 + j by omega] at this

theorem LiesL.lies {w : World} {a : Option Addr} {l : List Cr} (h : LiesL w a 0 l) {k : Cr} (hk : k ∈ l) : Lies w k := by
 obtain ⟨i, hi, rfl⟩ := List.getElem_of_mem hk
 exact (h.get (List.getElem?_eq_getElem hi)).2
theorem Lies.ints {w : World} {c : Cr} (h : Lies w c) : I64 c.op ∧ I64 c.n ∧ I64 c.m := by
 cases c; rw [Lies] at h; exact h.1
theorem Lies.room {w : World} {c : Cr} (h : Lies w c) : c.kids.length ≤ c.cap ∧ c.kids.length ≤ 2932031007317 := by
 cases c; rw [Lies] at h; exact h.2.1
theorem Lies.kids {w : World} {c : Cr} (h : Lies w c) : LiesL w c.at_ 0 c.kids := by
 cases c; rw [Lies] at h; exact h.2.2
theorem Lies.mk {w : World} {c : Cr} (h1 : I64 c.op ∧ I64 c.n ∧ I64 c.m) (h2 : c.kids.length ≤ c.cap ∧ c.kids.length ≤ 2932031007317) (h3 : LiesL w c.at_ 0 c.kids) : Lies w c := by
 cases c; rw [Lies]; exact ⟨h1, h2, h3⟩
theorem Lies.kid {w : World} {c k : Cr} (h : Lies w c) (hk : k ∈ c.kids) : Lies w k := by
 obtain ⟨i, hi, rfl⟩ := List.getElem_of_mem hk
 exact (h.kids.get (List.getElem?_eq_getElem hi)).2
theorem Lies.at {w : World} {c : Cr} (h : Lies w c) {i : Nat} {k : Cr} (hk : c.kids[i]? = some k) :
  ∃ b, c.at_ = some b ∧ (b.add (i * 4)).block < w.heap.size ∧ w.cell? (b.add (i * 4)) = some (.int .i64 k.op) ∧ w.cell? ⟨(b.add (i * 4)).block, (b.add (i * 4)).off + 1, none⟩ = some (.int .i64 k.n) ∧
   w.cell? ⟨(b.add (i * 4)).block, (b.add (i * 4)).off + 2, none⟩ = some (.int .i64 k.m) ∧ w.cell? ⟨(b.add (i * 4)).block, (b.add (i * 4)).off + 3, none⟩ = some k.hdr ∧ Lies w k := by
 obtain ⟨⟨b, hb, hc⟩, hl⟩ := h.kids.get hk
 rw [Nat.zero_add] at hc
 have f (j : Nat) (u : Value) (hj : k.cells[j]? = some u) (h4 : j ≠ 0) : w.cell? ⟨(b.add (i * 4)).block, (b.add (i * 4)).off + j, none⟩ = some u := by
  have := cells_get hc j u hj
  have e : (b.add (i * 4)).add j = ⟨(b.add (i * 4)).block, (b.add (i * 4)).off + j, none⟩ := by
   cases j with
   | zero => exact absurd rfl h4
   | succ j => rfl
  rwa [e] at this
 refine ⟨b, hb, World.cells?_block hc (by decide), ?_, f 1 _ rfl (by decide), f 2 _ rfl (by decide), f 3 _ rfl (by decide), hl⟩
 have := cells_get hc 0 _ rfl
 rw [Addr.add_add] at this
 exact this

theorem below_cells {w w' : World} (hb : Below w.heap.size w w') {a : Addr} {n : Nat} {cs : List Value} (h : w.cells? 0 a n = some cs) (hn : 0 < n) : w'.cells? 0 a n = some cs := by
 have hlt := World.cells?_block h hn
 obtain ⟨_, h2, h3⟩ := World.cells?_some h
 refine World.cells?_of_each (Nat.zero_le _) h2 fun i hi => ?_
 rw [← h3 i hi]
 refine hb.cell ?_
 cases i <;> exact hlt

mutual
theorem Lies.below {w w' : World} (hb : Below w.heap.size w w') : ∀ {c : Cr}, Lies w c → Lies w' c
 | .node o x y a k l, h => by
  rw [Lies] at h ⊢
  exact ⟨h.1, h.2.1, LiesL.below hb h.2.2⟩
theorem LiesL.below {w w' : World} (hb : Below w.heap.size w w') {a : Option Addr} : ∀ {i : Nat} {l : List Cr}, LiesL w a i l → LiesL w' a i l
 | _, [], _ => by rw [LiesL]; trivial
 | i, c :: l, h => by
  rw [LiesL] at h ⊢
  obtain ⟨⟨b, hb2, hc⟩, h2, h3⟩ := h
  refine ⟨⟨b, hb2, ?_⟩, Lies.below hb h2, LiesL.below hb h3⟩
  exact below_cells hb hc (by decide)
end
end Go.Proofs.YtpljkcakijkklaaGreatDoor

end
section
namespace Go.Proofs.YtpljkcakijkklaaGreatDoor
set_option linter.unusedVariables false
set_option linter.unusedSimpArgs false
open Go.RowKit Go.Proofs.YtpljkcakijkklaaGreatDoorW.PrintWords Go.Proofs.YtpljkcakijkklaaGreatDoorW.PrintLast Go.Proofs.YtpljkcakijkklaaGreatDoorW.PrintMore

def leafS (rw rc op n m : Int) : Int :=
 if op = 1 then (if m = 0 then 1 else 0)
 else if op = 2 then (if m = 0 then (if n = 0 then 2 else if n = 1 then 2 else 0) else 0)
 else if op = 3 then (if m = 0 then (if n = 0 then 1 else 0) else 0)
 else if op = 4 then (if m = 0 then (if 0 ≤ n then (if n < rw then 1 else 0) else 0) else 0)
 else if op = 5 then (if m = 0 then (if 0 ≤ n then (if n < rc then 2 else 0) else 0) else 0)
 else if op = 6 then (if 1 ≤ n then (if n ≤ 3 then (if m = 1 then m else if m = 2 then m else 0) else 0) else 0)
 else if op = 29 then (if m = 0 then (if n = 0 then 3 else 0) else 0)
 else 0

theorem leaf_calls (rw rc rl op n m : Int) (a : Option Addr) (l k : Nat) (w : World) : Calls Tryz.prog 78 #[.agg #[.int .i64 rw, .int .i64 rc, .int .i64 rl], .agg #[.int .i64 op, .int .i64 n, .int .i64 m, .slice a l k]] w fun e w' => e = .returned (.int .i64 (leafS rw rc op n m)) ∧ Below w.heap.size w w' := by
 go_enter Tryz.func78, Tryz.ntmps78
 go_wp2
 all_goals
  go_ret
  refine ⟨?_, ?_⟩
  ·first | (simp_all [leafS]; done) | (simp_all [leafS]; omega) | (simp_all [leafS]; intros; omega)
  ·exact below_alloc (below_alloc (Below.refl _ _) _) _
end Go.Proofs.YtpljkcakijkklaaGreatDoor

end
section
namespace Go.Proofs.YtpljkcakijkklaaGreatDoor
set_option linter.unusedVariables false
set_option linter.unusedSimpArgs false
open Go.RowKit Go.Proofs.YtpljkcakijkklaaGreatDoorW.PrintWords Go.Proofs.YtpljkcakijkklaaGreatDoorW.PrintLast Go.Proofs.YtpljkcakijkklaaGreatDoorW.PrintMore

theorem LiesL.cells {w : World} {A : Option Addr} {l : List Cr} (h : LiesL w A 0 l) {i : Nat} {k : Cr} (hk : l[i]? = some k) :
  ∃ b, A = some b ∧ (b.add (i * 4)).block < w.heap.size ∧ w.cell? (b.add (i * 4)) = some (.int .i64 k.op) ∧ w.cell? ⟨(b.add (i * 4)).block, (b.add (i * 4)).off + 1, none⟩ = some (.int .i64 k.n) ∧
   w.cell? ⟨(b.add (i * 4)).block, (b.add (i * 4)).off + 2, none⟩ = some (.int .i64 k.m) ∧ w.cell? ⟨(b.add (i * 4)).block, (b.add (i * 4)).off + 3, none⟩ = some (.slice k.at_ k.kids.length k.cap) ∧ Lies w k := by
 obtain ⟨⟨b, hb, hc⟩, hl⟩ := h.get hk
 rw [Nat.zero_add] at hc
 have f (j : Nat) (u : Value) (hj : k.cells[j]? = some u) (h4 : j ≠ 0) : w.cell? ⟨(b.add (i * 4)).block, (b.add (i * 4)).off + j, none⟩ = some u := by
  have := cells_get hc j u hj
  have e : (b.add (i * 4)).add j = ⟨(b.add (i * 4)).block, (b.add (i * 4)).off + j, none⟩ := by
   cases j with
   | zero => exact absurd rfl h4
   | succ j => rfl
  rwa [e] at this
 refine ⟨b, hb, World.cells?_block hc (by decide), ?_, f 1 _ rfl (by decide), f 2 _ rfl (by decide), f 3 _ rfl (by decide), hl⟩
 have := cells_get hc 0 _ rfl
 rw [Addr.add_add] at this
 exact this
theorem LiesL.cellsB {w w' : World} {A : Option Addr} {l : List Cr} (h : LiesL w A 0 l) (hb : Below w.heap.size w w') {i : Nat} {k : Cr} (hk : l[i]? = some k) :
  ∃ b, A = some b ∧ (b.add (i * 4)).block < w.heap.size ∧ w'.cell? (b.add (i * 4)) = some (.int .i64 k.op) ∧ w'.cell? ⟨(b.add (i * 4)).block, (b.add (i * 4)).off + 1, none⟩ = some (.int .i64 k.n) ∧
   w'.cell? ⟨(b.add (i * 4)).block, (b.add (i * 4)).off + 2, none⟩ = some (.int .i64 k.m) ∧ w'.cell? ⟨(b.add (i * 4)).block, (b.add (i * 4)).off + 3, none⟩ = some (.slice k.at_ k.kids.length k.cap) := by
 obtain ⟨b, h1, h2, h3, h4, h5, h6, -⟩ := h.cells hk
 exact ⟨b, h1, h2, (hb.cell (p := b.add (i * 4)) h2).trans h3, (hb.cell (p := ⟨(b.add (i * 4)).block, (b.add (i * 4)).off + 1, none⟩) h2).trans h4, (hb.cell (p := ⟨(b.add (i * 4)).block, (b.add (i * 4)).off + 2, none⟩) h2).trans h5, (hb.cell (p := ⟨(b.add (i * 4)).block, (b.add (i * 4)).off + 3, none⟩) h2).trans h6⟩

def PredC (g : Nat) (lb : Array Value) (p : Cr → Bool) (w : World) (l : List Cr) : Prop :=
 ∀ k ∈ l, ∀ W, Below w.heap.size w W → Calls Tryz.prog g (#[.agg #[.int .i64 k.op, .int .i64 k.n, .int .i64 k.m, .slice k.at_ k.kids.length k.cap]] ++ lb) W fun e w' => e = .returned (.bool (p k)) ∧ Below W.heap.size W w'

theorem indexC_calls {g : Nat} {lb : Array Value} (eg : ∀ args w, (callFunc g args).run Tryz.prog w = .ok (.enter g args) w) {p : Cr → Bool} {A : Option Addr} {l : List Cr} (c : Nat) {w : World} (hl : LiesL w A 0 l) (hbig : l.length ≤ 4398046511104) (hp : PredC g lb p w l) :
  Calls Tryz.prog 96 #[.slice A l.length c, .func (.func g) #[] lb] w fun e w' => (∃ r : Int, e = .returned (.int .i64 r) ∧ decide (0 ≤ r) = l.any p) ∧ Below w.heap.size w w' := by
 obtain ⟨n, hn⟩ : ∃ n, l.length = n := ⟨_, rfl⟩
 have HL := Lib.hid hl
 have HP := Lib.hid hp
 have HN := Lib.hid hn
 rw [hn]
 rw [hn] at hbig
 clear hl hp hn
 go_enter Tryz.func96, Tryz.ntmps96
 go_wp2
 go_loopg [5, 8] n (fun gg _ s8 wr => ∃ kk : Nat, kk ≤ n ∧ n - kk ≤ gg ∧ s8 = .int .i64 kk ∧ Aside0 (Below w.heap.size w wr) ∧ Aside0 (∀ j, j < kk → ∀ x, l[j]? = some x → p x = false))
 case atStart => exact ⟨0, Nat.zero_le _, by omega, rfl, ⟨Below.refl _ w⟩, ⟨fun j hj => absurd hj (Nat.not_lt_zero _)⟩⟩
 case round =>
  obtain ⟨kk, hkk, hg, rfl, BW, A9⟩ := hrel
  have HB := Lib.hid BW.out
  have HA := Lib.hid A9.out
  clear BW A9
  by_cases hlt : kk < n
  ·have hltz : ((kk : Int) < (n : Int)) = True := eq_true (by omega)
   have h0 := eq_true (show (0 : Int) ≤ (kk : Int) by omega)
   obtain ⟨y, hy⟩ : ∃ y, l[kk]? = some y := ⟨_, List.getElem?_eq_getElem (by rw [HN.out]; exact hlt)⟩
   obtain ⟨b, rfl, hblk, c0, c1, c2, c3⟩ := HL.out.cellsB HB.out hy
   have hcall := HP.out y (List.mem_of_getElem? hy) _ HB.out
   have HY := Lib.hid hy
   have hw : wrap64 ((kk : Int) + 1) = ((kk + 1 : Nat) : Int) := by unfold wrap64; omega
   clear hy
   cases hq : p y with
   | true =>
    rw [hq] at hcall
    go_wp2_with fail
    refine hcall.mono ?_
    rintro e w' ⟨rfl, hb'⟩
    go_wp2_with fail
    go_ret
    refine ⟨⟨_, rfl, ?_⟩, HB.out.trans (hb'.mono HB.out.size)⟩
    rw [List.any_eq_true.2 ⟨y, List.mem_of_getElem? HY.out, hq⟩]
    exact decide_eq_true (Int.natCast_nonneg _)
   | false =>
    rw [hq] at hcall
    have HQ := Lib.hid hq
    clear hq
    go_wp2_with fail
    refine hcall.mono ?_
    rintro e w' ⟨rfl, hb'⟩
    go_wp2_with fail
    go_roundg (n - (kk + 1))
    case measure => clear hw; omega
    case rel =>
     have e9 : ((kk : Int) + 1) = ((kk + 1 : Nat) : Int) := rfl
     clear hw
     refine ⟨kk + 1, by omega, by omega, by first | rfl | simp, ⟨HB.out.trans (hb'.mono HB.out.size)⟩, ⟨fun j hj x hx => ?_⟩⟩
     by_cases e : j = kk
     ·subst e
      rw [HY.out] at hx
      injection hx with hx
      subst hx
      exact HQ.out
     ·exact HA.out j (by omega) x hx
  ·have hltz : ((kk : Int) < (n : Int)) = False := eq_false (by omega)
   have : kk = n := by omega
   subst this
   go_wp2
   go_ret
   refine ⟨⟨_, rfl, ?_⟩, HB.out⟩
   have : l.any p = false := by
    rw [List.any_eq_false]
    intro x hx
    obtain ⟨j, hj, rfl⟩ := List.getElem_of_mem hx
    have := HA.out j (by rw [← HN.out]; exact hj) _ (List.getElem?_eq_getElem hj)
    simp [this]
   rw [this]
   rfl
theorem containsC_calls {g : Nat} {lb : Array Value} (eg : ∀ args w, (callFunc g args).run Tryz.prog w = .ok (.enter g args) w) {p : Cr → Bool} {A : Option Addr} {l : List Cr} (c : Nat) {w : World} (hl : LiesL w A 0 l) (hbig : l.length ≤ 4398046511104) (hp : PredC g lb p w l) :
  Calls Tryz.prog 65 #[.slice A l.length c, .func (.func g) #[] lb] w fun e w' => e = .returned (.bool (l.any p)) ∧ Below w.heap.size w w' := by
 go_enter Tryz.func65, Tryz.ntmps65
 go_wp2_with (go_at_call 96; refine (indexC_calls eg c hl hbig hp).mono ?_; rintro e w' ⟨⟨r, rfl, hr⟩, hb'⟩)
 go_ret
 exact ⟨by rw [← hr]; rfl, hb'⟩
end Go.Proofs.YtpljkcakijkklaaGreatDoor

end
section
namespace Go.Proofs.YtpljkcakijkklaaGreatDoor
set_option linter.unusedVariables false
set_option linter.unusedSimpArgs false
open Go.RowKit Go.Proofs.YtpljkcakijkklaaGreatDoorW.PrintWords Go.Proofs.YtpljkcakijkklaaGreatDoorW.PrintLast Go.Proofs.YtpljkcakijkklaaGreatDoorW.PrintMore

theorem when_calls (b : Bool) (s : Int) {r : Int} (hr : (if b then s else 0) = r) (w : World) : Calls Tryz.prog 100 #[.bool b, .int .i64 s] w fun e w' => e = .returned (.int .i64 r) ∧ w' = w := by
 subst hr
 cases b
 ·go_enter Tryz.func100, Tryz.ntmps100
  go_wp2
  go_ret
  exact ⟨rfl, rfl⟩
 ·go_enter Tryz.func100, Tryz.ntmps100
  go_wp2
  go_ret
  exact ⟨rfl, rfl⟩

def SortC (rw rc rl : Int) (k : Cr) (v : Int) : Prop :=
 ∀ W, Lies W k → Calls Tryz.prog 44 #[.agg #[.int .i64 rw, .int .i64 rc, .int .i64 rl], .agg #[.int .i64 k.op, .int .i64 k.n, .int .i64 k.m, .slice k.at_ k.kids.length k.cap]] W fun e w' => e = .returned (.int .i64 v) ∧ Below W.heap.size W w'

theorem not_any_ne (s : Cr → Int) (sort : Int) (l : List Cr) : (!l.any fun k => s k != sort) = l.all fun k => s k == sort := by
 induction l with
 | nil => rfl
 | cons x l ih => rw [List.any_cons, List.all_cons, Bool.not_or, ih]; simp [bne]
theorem box1 (w : World) (o : Obj) : ∃ w1, w.alloc o = w1 ∧ Below w.heap.size w w1 ∧ w1.heap[w.heap.size]? = some o ∧ w1.heap.size = w.heap.size + 1 :=
 ⟨_, rfl, below_alloc (Below.refl _ _) _, blk_new _ _, by simp⟩
theorem box2 (w : World) (o o2 : Obj) : ∃ w1, (w.alloc o).alloc o2 = w1 ∧ Below w.heap.size w w1 ∧ w1.heap[w.heap.size]? = some o ∧ w1.heap[w.heap.size + 1]? = some o2 ∧ w1.heap.size = w.heap.size + 2 := by
 refine ⟨_, rfl, below_alloc (below_alloc (Below.refl _ _) _) _, blk_alloc (blk_new _ _) _, ?_, by simp⟩
 have := blk_new (w.alloc o) o2
 simpa using this
theorem core_cells {w : World} {g : Nat} {o n m : Int} {v : Value} (h : w.heap[g]? = some (.cells #[.int .i64 o, .int .i64 n, .int .i64 m, v] 24 (0, 0))) :
  w.cell? ⟨g, 0, none⟩ = some (.int .i64 o) ∧ w.cell? ⟨g, 1, none⟩ = some (.int .i64 n) ∧ w.cell? ⟨g, 2, none⟩ = some (.int .i64 m) ∧ w.cell? ⟨g, 3, none⟩ = some v :=
 ⟨(blk_cell h 0).trans rfl, (blk_cell h 1).trans rfl, (blk_cell h 2).trans rfl, (blk_cell h 3).trans rfl⟩
theorem room_cells {w : World} {g : Nat} {a b c : Int} (h : w.heap[g]? = some (.cells #[.int .i64 a, .int .i64 b, .int .i64 c] 87 (0, 0))) :
  w.cell? ⟨g, 0, none⟩ = some (.int .i64 a) ∧ w.cell? ⟨g, 1, none⟩ = some (.int .i64 b) ∧ w.cell? ⟨g, 2, none⟩ = some (.int .i64 c) :=
 ⟨(blk_cell h 0).trans rfl, (blk_cell h 1).trans rfl, (blk_cell h 2).trans rfl⟩

theorem all1_calls {rw rc rl sort v : Int} {k : Cr} {b : Bool} (hb : (v != sort) = b) {g1 g2 : Nat} {w : World} (h1 : w.heap[g1]? = some (.cells #[.int .i64 rw, .int .i64 rc, .int .i64 rl] 87 (0, 0))) (h2 : w.heap[g2]? = some (.cells #[.int .i64 sort] 3 (0, 0)))
  (hk : SortC rw rc rl k v) (hl : Lies w k) : Calls Tryz.prog 66 #[.agg #[.int .i64 k.op, .int .i64 k.n, .int .i64 k.m, .slice k.at_ k.kids.length k.cap], .pointer (some ⟨g1, 0, none⟩), .pointer (some ⟨g2, 0, none⟩)] w fun e w' => e = .returned (.bool b) ∧ Below w.heap.size w w' := by
 have HK := Lib.hid hk
 have HL := Lib.hid hl
 obtain ⟨op, n, m, at_, cap, kids⟩ := k
 simp only [Cr.op, Cr.n, Cr.m, Cr.at_, Cr.cap, Cr.kids] at *
 obtain ⟨w1, e1, b1, k3, s1⟩ := box1 w (.cells #[.int .i64 op, .int .i64 n, .int .i64 m, .slice at_ kids.length cap] 24)
 have HE := Lib.hid e1
 have HC := Lib.hid fun (w' : World) (hb : Below w1.heap.size w1 w') => (show ((w'.cell? ⟨w.heap.size, 0, none⟩ = some (.int .i64 op) ∧ w'.cell? ⟨w.heap.size, 1, none⟩ = some (.int .i64 n) ∧ w'.cell? ⟨w.heap.size, 2, none⟩ = some (.int .i64 m) ∧ w'.cell? ⟨w.heap.size, 3, none⟩ = some (.slice at_ kids.length cap)) ∧
   (w'.cell? ⟨g1, 0, none⟩ = some (.int .i64 rw) ∧ w'.cell? ⟨g1, 1, none⟩ = some (.int .i64 rc) ∧ w'.cell? ⟨g1, 2, none⟩ = some (.int .i64 rl)) ∧ w'.cell? ⟨g2, 0, none⟩ = some (.int .i64 sort)) from
  ⟨core_cells (blk_below k3 hb), room_cells (blk_below (blk_below h1 b1) hb), (blk_cell (blk_below (blk_below h2 b1) hb) 0).trans rfl⟩)
 have B1 := Lib.hid b1
 clear hk hl h1 h2 k3 e1 b1 s1
 go_enter Tryz.func66, Tryz.ntmps66
 go_wp2_with fail
 rw [HE.out]
 refine wp_region_held_drew (S := fun w' => Aside0 (Below w1.heap.size w1 w')) (by kernel_rfl) ?_ (fun hHeld => ?_)
 ·exact ⟨(Below.refl _ _).drew⟩
 have HCr := HC
 refine' tk 0 ?_
 try simp only [pt]
 refine' tk 1 ?_
 try simp only [pt]
 refine' tk 3 ?_
 try simp only [pt]
 refine' cm 2 (fun K hK => ?_)
 go_simp
 refine (HK.out _ (HL.out.below (B1.out.trans (hHeld.out.mono B1.out.size)))).mono ?_
 rintro e w2 ⟨rfl, hb2⟩
 refine hK.out _ _ ⟨hHeld.out.trans (hb2.mono hHeld.out.size)⟩ (fun hHeld => ?_)
 clear hK K
 try simp only [pt]
 refine' tk 4 ?_
 try simp only [pt]
 refine' tk 5 ?_
 try simp only [pt]
 refine wpAnyH_done (by kernel_rfl) ?_ _
 go_wp2_with fail
 go_ret
 exact ⟨by simp [← hb], B1.out.trans (hHeld.out.mono B1.out.size)⟩

theorem all_calls {rw rc rl sort : Int} {A : Option Addr} {l : List Cr} (c : Nat) {w : World} (hl : LiesL w A 0 l) (hbig : l.length ≤ 4398046511104) (s : Cr → Int) (ih : ∀ k ∈ l, SortC rw rc rl k (s k)) {b : Bool} (hb : l.all (fun k => s k == sort) = b) :
  Calls Tryz.prog 37 #[.agg #[.int .i64 rw, .int .i64 rc, .int .i64 rl], .int .i64 sort, .slice A l.length c] w fun e w' => e = .returned (.bool b) ∧ Below w.heap.size w w' := by
 obtain ⟨w1, e1, b1, k1, k2, s1⟩ := box2 w (.cells #[.int .i64 rw, .int .i64 rc, .int .i64 rl] 87) (.cells #[.int .i64 sort] 3)
 have HP := Lib.hid (show PredC 66 #[.pointer (some ⟨w.heap.size, 0, none⟩), .pointer (some ⟨w.heap.size + 1, 0, none⟩)] (fun k => s k != sort) w1 l from fun k hk W hW =>
  all1_calls rfl (blk_below k1 hW) (blk_below k2 hW) (ih k hk) ((LiesL.lies hl hk).below (b1.trans (hW.mono b1.size))))
 have HE := Lib.hid e1
 have HL := Lib.hid (hl.below b1)
 have B1 := Lib.hid b1
 obtain ⟨len, hlen⟩ : ∃ n, l.length = n := ⟨_, rfl⟩
 have HN := Lib.hid hlen
 have HBG := Lib.hid hbig
 rw [hlen]
 clear hl ih k1 k2 e1 b1 s1 hlen hbig
 go_enter Tryz.func37, Tryz.ntmps37
 go_wp2_with fail
 rw [HE.out, ← HN.out]
 refine (containsC_calls (fun _ _ => by first | rfl | simp) c HL.out HBG.out HP.out).mono ?_
 rintro e w2 ⟨rfl, hb2⟩
 go_wp2_with fail
 go_ret
 refine ⟨?_, B1.out.trans (hb2.mono B1.out.size)⟩
 rw [← hb]
 show Ending.returned (.bool (!l.any fun k => s k != sort)) = _
 rw [not_any_ne]
end Go.Proofs.YtpljkcakijkklaaGreatDoor

end
section
namespace Go.Proofs.YtpljkcakijkklaaGreatDoor
set_option linter.unusedVariables false
set_option linter.unusedSimpArgs false
open Go.RowKit Go.Proofs.YtpljkcakijkklaaGreatDoorW.PrintWords Go.Proofs.YtpljkcakijkklaaGreatDoorW.PrintLast Go.Proofs.YtpljkcakijkklaaGreatDoorW.PrintMore

def oneS (rl op n m s : Int) : Int :=
 if op = 7 then (if m = 0 then (if 0 ≤ n then (if n < rl then (if s = 3 then 0 else s) else 0) else 0) else 0)
 else if op = 13 then (if 0 ≤ n then (if 1 ≤ m then (if s = 1 then 1 else 0) else 0) else 0)
 else if n = 0 then (if m = 0 then
  (if op = 9 then (if s = 2 then 2 else 0)
   else if op = 8 then (if s = 1 then 1 else 0) else if op = 10 then (if s = 1 then 1 else 0) else if op = 11 then (if s = 1 then 1 else 0) else if op = 12 then (if s = 1 then 1 else 0)
   else if op = 30 then (if s = 1 then 3 else 0) else if op = 31 then (if s = 1 then 3 else 0) else 0) else 0) else 0

theorem one_calls {rw rc rl v op n m : Int} {at_ : Option Addr} {cap : Nat} {k : Cr} {w : World} (hl : Lies w (.node op n m at_ cap [k])) (hk : SortC rw rc rl k v) :
  Calls Tryz.prog 79 #[.agg #[.int .i64 rw, .int .i64 rc, .int .i64 rl], .agg #[.int .i64 op, .int .i64 n, .int .i64 m, .slice at_ 1 cap]] w fun e w' => e = .returned (.int .i64 (oneS rl op n m v)) ∧ Below w.heap.size w w' := by
 obtain ⟨w1, e1, b1, k2, k3, s1⟩ := box2 w (.cells #[.int .i64 rw, .int .i64 rc, .int .i64 rl] 87) (.cells #[.int .i64 op, .int .i64 n, .int .i64 m, .slice at_ 1 cap] 24)
 have hl1 := hl.below b1
 obtain ⟨b, rfl, -, -, -, -, -, hlk⟩ := hl1.kids.cells (i := 0) (k := k) rfl
 have HC := Lib.hid fun (w' : World) (hb : Below w1.heap.size w1 w') => (show ((w'.cell? ⟨w.heap.size, 0, none⟩ = some (.int .i64 rw) ∧ w'.cell? ⟨w.heap.size, 1, none⟩ = some (.int .i64 rc) ∧ w'.cell? ⟨w.heap.size, 2, none⟩ = some (.int .i64 rl)) ∧
   (w'.cell? ⟨w.heap.size + 1, 0, none⟩ = some (.int .i64 op) ∧ w'.cell? ⟨w.heap.size + 1, 1, none⟩ = some (.int .i64 n) ∧ w'.cell? ⟨w.heap.size + 1, 2, none⟩ = some (.int .i64 m) ∧ w'.cell? ⟨w.heap.size + 1, 3, none⟩ = some (.slice (some b) 1 cap)) ∧
   (w'.cell? b = some (.int .i64 k.op) ∧ w'.cell? ⟨b.block, b.off + 1, none⟩ = some (.int .i64 k.n) ∧ w'.cell? ⟨b.block, b.off + 2, none⟩ = some (.int .i64 k.m) ∧ w'.cell? ⟨b.block, b.off + 3, none⟩ = some (.slice k.at_ k.kids.length k.cap))) from by
  obtain ⟨b', hb', -, c0, c1, c2, c3⟩ := hl1.kids.cellsB hb (i := 0) (k := k) rfl
  injection hb' with hb'
  subst hb'
  exact ⟨room_cells (blk_below k2 hb), core_cells (blk_below k3 hb), by simpa [Addr.add] using c0, by simpa [Addr.add] using c1, by simpa [Addr.add] using c2, by simpa [Addr.add] using c3⟩)
 have HE := Lib.hid e1
 have HK := Lib.hid hk
 have HL := Lib.hid hlk
 have B1 := Lib.hid b1
 clear hl hl1 hk hlk k2 k3 e1 b1 s1
 go_enter Tryz.func79, Tryz.ntmps79
 go_wp2_with fail
 rw [HE.out]
 refine wp_region_held_drew (S := fun w' => Aside0 (Below w1.heap.size w1 w')) (by kernel_rfl) ?_ (fun hHeld => ?_)
 ·exact ⟨(Below.refl _ _).drew⟩
 have HCr := HC
 refine' tk 0 ?_
 try simp only [pt]
 refine' tk 1 ?_
 try simp only [pt]
 refine' tk 2 ?_
 try simp only [pt]
 refine' tk 3 ?_
 try simp only [pt]
 refine' tk 4 ?_
 try simp only [pt]
 refine' cm 5 (fun K hK => ?_)
 go_simp
 refine (HK.out _ (HL.out.below hHeld.out)).mono ?_
 rintro e w2 ⟨rfl, hb2⟩
 refine hK.out _ _ ⟨hHeld.out.trans (hb2.mono hHeld.out.size)⟩ (fun hHeld => ?_)
 clear hK K
 try simp only [pt]
 refine' tk 6 ?_
 try simp only [pt]
 refine wpAnyH_done (by kernel_rfl) ?_ _
 obtain ⟨⟨y0, y1, y2⟩, ⟨x0, x1, x2, x3⟩, -⟩ := HC.out w2 hHeld.out
 have BB := Lib.hid (B1.out.trans (hHeld.out.mono B1.out.size))
 clear HC HE HK HL hHeld hb2 B1
 go_wp2
 all_goals
  go_ret
  refine ⟨?_, BB.out⟩
  clear BB y0 y1 y2 x0 x1 x2 x3
  first | (simp_all [oneS]; done) | (simp_all [oneS]; omega) | (simp_all [oneS]; intros; omega)
end Go.Proofs.YtpljkcakijkklaaGreatDoor

end
section
namespace Go.Proofs.YtpljkcakijkklaaGreatDoor
set_option linter.unusedVariables false
set_option linter.unusedSimpArgs false
open Go.RowKit Go.Proofs.YtpljkcakijkklaaGreatDoorW.PrintWords Go.Proofs.YtpljkcakijkklaaGreatDoorW.PrintLast Go.Proofs.YtpljkcakijkklaaGreatDoorW.PrintMore

def rungsP (s : Cr → Int) : Option Int → List Cr → Bool
 | _, [] => false
 | _, [a] => s a == 3
 | p, x :: y :: l => x.op == 1 && (s x == 1 && ((match p with | none => true | some q => decide (q < x.n)) && (s y == 3 && rungsP s (some x.n) l)))
def prvP (l : List Cr) (i : Nat) : Option Int := if i = 0 then none else (l[i - 2]?).map Cr.n
theorem rungsP_step {s : Cr → Int} {l : List Cr} {i : Nat} {x y : Cr} (hx : l[i]? = some x) (hy : l[i + 1]? = some y) (p : Option Int) :
  rungsP s p (l.drop i) = (x.op == 1 && (s x == 1 && ((match p with | none => true | some q => decide (q < x.n)) && (s y == 3 && rungsP s (some x.n) (l.drop (i + 2)))))) := by
 have h1 : i < l.length := (List.getElem?_eq_some_iff.1 hx).1
 have h2 : i + 1 < l.length := (List.getElem?_eq_some_iff.1 hy).1
 rw [List.drop_eq_getElem_cons h1, List.drop_eq_getElem_cons h2]
 rw [List.getElem?_eq_getElem h1] at hx
 rw [List.getElem?_eq_getElem h2] at hy
 injection hx with hx
 injection hy with hy
 rw [hx, hy]
 rfl
theorem rungsP_last {s : Cr → Int} {l : List Cr} {i : Nat} {x : Cr} (hx : l[i]? = some x) (hl : l.length = i + 1) (p : Option Int) : rungsP s p (l.drop i) = (s x == 3) := by
 have h1 : i < l.length := (List.getElem?_eq_some_iff.1 hx).1
 rw [List.drop_eq_getElem_cons h1, List.drop_of_length_le (by omega)]
 rw [List.getElem?_eq_getElem h1] at hx
 injection hx with hx
 rw [hx]
 rfl
theorem liesL_new {w : World} {k : Cr} {t : TypeId} (h : Lies w k) : LiesL (w.alloc (.cells #[.int .i64 k.op, .int .i64 k.n, .int .i64 k.m, .slice k.at_ k.kids.length k.cap] t)) (some ⟨w.heap.size, 0, none⟩) 0 [k] := by
 have hb := below_alloc (Below.refl w.heap.size w) (.cells #[.int .i64 k.op, .int .i64 k.n, .int .i64 k.m, .slice k.at_ k.kids.length k.cap] t)
 rw [LiesL, LiesL]
 refine ⟨⟨_, rfl, ?_⟩, h.below hb, trivial⟩
 exact World.cells?_alloc_all w #[.int .i64 k.op, .int .i64 k.n, .int .i64 k.m, .slice k.at_ k.kids.length k.cap] t 0 4 (Nat.zero_le _) rfl

theorem rungs_calls {rw rc rl : Int} {A : Option Addr} {l : List Cr} (c : Nat) {w : World} (hl : LiesL w A 0 l) (hbig : l.length ≤ 4398046511104) (hodd : l.length % 2 = 1) (s : Cr → Int) (ih : ∀ k ∈ l, SortC rw rc rl k (s k)) {r : Bool} (hr : rungsP s none l = r) :
  Calls Tryz.prog 102 #[.agg #[.int .i64 rw, .int .i64 rc, .int .i64 rl], .slice A l.length c] w fun e w' => e = .returned (.bool r) ∧ Below w.heap.size w w' := by
 obtain ⟨w1, e1, b1, k2, s1⟩ := box1 w (.cells #[.int .i64 rw, .int .i64 rc, .int .i64 rl] 87)
 have hl1 := hl.below b1
 obtain ⟨b, rfl⟩ : ∃ b, A = some b := by
  obtain ⟨b, hb, -⟩ := hl1.cells (i := 0) (k := l[0]'(by omega)) (List.getElem?_eq_getElem _)
  exact ⟨b, hb⟩
 have HL := Lib.hid hl1
 have HE := Lib.hid e1
 have B1 := Lib.hid b1
 have HK2 := Lib.hid k2
 have HIH := Lib.hid ih
 have HR := Lib.hid hr
 obtain ⟨len, hlen⟩ : ∃ n, l.length = n := ⟨_, rfl⟩
 have HN := Lib.hid hlen
 have HBG := Lib.hid (show len ≤ 4398046511104 by rw [← hlen]; exact hbig)
 have HOD := Lib.hid (show len % 2 = 1 by rw [← hlen]; exact hodd)
 rw [hlen]
 clear hl hl1 ih hr hlen hbig hodd k2 e1 b1 s1
 go_enter Tryz.func102, Tryz.ntmps102
 go_wp2_with fail
 rw [HE.out]
 go_loopg [5] len (fun gg v5 wr => ∃ i : Nat, v5 = .int .i64 i ∧ Aside0 (i % 2 = 0 ∧ i < len ∧ len - i ≤ gg) ∧ Aside0 (Below w1.heap.size w1 wr) ∧ Aside0 (rungsP s (prvP l i) (l.drop i) = r))
 case atStart => exact ⟨0, rfl, ⟨by have := HOD.out; omega⟩, ⟨Below.refl _ _⟩, ⟨HR.out⟩⟩
 case round =>
  obtain ⟨i, rfl, hi, BW, HRR⟩ := hrel
  have HI := Lib.hid hi.out
  have HB := Lib.hid BW.out
  have HQ := Lib.hid HRR.out
  clear hi BW HRR HR
  obtain ⟨j, hj⟩ : ∃ j, i + 1 = j := ⟨_, rfl⟩
  have HJ := Lib.hid hj
  have hiR : i ≤ 4398046511104 := by have := HI.out; have := HBG.out; omega
  have wj : wrap64 ((i : Int) + 1) = (j : Int) := by unfold wrap64; omega
  have wj2 : IntKind.i64.wrap ((i : Int) + 1) = (j : Int) := by rw [i64_w]; exact wj
  obtain ⟨x, hx⟩ : ∃ x, l[i]? = some x := ⟨_, List.getElem?_eq_getElem (by rw [HN.out]; exact HI.out.2.1)⟩
  have HX := Lib.hid hx
  have HXK := Lib.hid (HIH.out x (List.mem_of_getElem? hx))
  have HXL := Lib.hid (LiesL.lies HL.out (List.mem_of_getElem? hx))
  have hi0 := eq_true (show (0 : Int) ≤ (i : Int) by omega)
  have hi1 : ((i : Int) < (len : Int)) = True := eq_true (by have := HI.out; omega)
  by_cases hlt : j < len
  ·obtain ⟨y, hy⟩ : ∃ y, l[j]? = some y := ⟨_, List.getElem?_eq_getElem (by rw [HN.out]; exact hlt)⟩
   have HY := Lib.hid hy
   have HYK := Lib.hid (HIH.out y (List.mem_of_getElem? hy))
   have HYL := Lib.hid (LiesL.lies HL.out (List.mem_of_getElem? hy))
   have hST := rungsP_step (s := s) hx (by rw [hj]; exact hy) (prvP l i)
   rw [HQ.out] at hST
   have HST := Lib.hid hST
   have hj0 := eq_true (show (0 : Int) ≤ (j : Int) by omega)
   have hj1 : ((j : Int) < (len : Int)) = True := eq_true (by omega)
   have HC := Lib.hid fun (w' : World) (hb : Below wr.heap.size wr w') => (show ((w'.cell? ⟨w.heap.size, 0, none⟩ = some (.int .i64 rw) ∧ w'.cell? ⟨w.heap.size, 1, none⟩ = some (.int .i64 rc) ∧ w'.cell? ⟨w.heap.size, 2, none⟩ = some (.int .i64 rl)) ∧
     (w'.cell? (b.add (i * 4)) = some (.int .i64 x.op) ∧ w'.cell? ⟨(b.add (i * 4)).block, (b.add (i * 4)).off + 1, none⟩ = some (.int .i64 x.n) ∧ w'.cell? ⟨(b.add (i * 4)).block, (b.add (i * 4)).off + 2, none⟩ = some (.int .i64 x.m) ∧ w'.cell? ⟨(b.add (i * 4)).block, (b.add (i * 4)).off + 3, none⟩ = some (.slice x.at_ x.kids.length x.cap)) ∧
     (w'.cell? (b.add (j * 4)) = some (.int .i64 y.op) ∧ w'.cell? ⟨(b.add (j * 4)).block, (b.add (j * 4)).off + 1, none⟩ = some (.int .i64 y.n) ∧ w'.cell? ⟨(b.add (j * 4)).block, (b.add (j * 4)).off + 2, none⟩ = some (.int .i64 y.m) ∧ w'.cell? ⟨(b.add (j * 4)).block, (b.add (j * 4)).off + 3, none⟩ = some (.slice y.at_ y.kids.length y.cap)) ∧
     (∀ (h : Nat) (z : Cr), l[h]? = some z → w'.cell? ⟨(b.add (h * 4)).block, (b.add (h * 4)).off + 1, none⟩ = some (.int .i64 z.n))) from by
    have hb' := HB.out.trans (hb.mono HB.out.size)
    obtain ⟨p, hp, -, c0, c1, c2, c3⟩ := HL.out.cellsB hb' HX.out
    injection hp with hp
    subst hp
    obtain ⟨p, hp, -, d0, d1, d2, d3⟩ := HL.out.cellsB hb' HY.out
    injection hp with hp
    subst hp
    refine ⟨room_cells (blk_below HK2.out hb'), ⟨c0, c1, c2, c3⟩, ⟨d0, d1, d2, d3⟩, fun h z hz => ?_⟩
    obtain ⟨p, hp, -, -, a1, -⟩ := HL.out.cellsB hb' hz
    injection hp with hp
    subst hp
    exact a1)
   obtain ⟨bd, hbd⟩ : ∃ bd, (s y == 3) = bd := ⟨_, rfl⟩
   have HBD := Lib.hid hbd
   obtain ⟨i2, hi2⟩ : ∃ i2, i + 2 = i2 := ⟨_, rfl⟩
   have HI2 := Lib.hid hi2
   have wi2 : wrap64 ((i : Int) + 2) = (i2 : Int) := by unfold wrap64; omega
   have HLT := Lib.hid hlt
   clear hx hy hj hlt hST hiR hbd hi2
   by_cases q1 : x.op = 1
   ·have q1b : (x.op != 1) = false := by simp [q1]
    have HQ1 := Lib.hid q1
    clear q1
    by_cases q2 : s x = 1
    ·by_cases q3 : i = 0
     ·have hgt : ((0 : Int) < (i : Int)) = False := eq_false (by omega)
      have hgt2 : (0 < i) = False := eq_false (by omega)
      have HPZ := Lib.hid (show prvP l i = none by unfold prvP; rw [if_pos q3])
      clear q3
      go_wp2_with fail
      refine wp_region_held_drew (S := fun w' => Aside0 (Below wr.heap.size wr w')) (by kernel_rfl) ?_ (fun hHeld => ?_)
      ·exact ⟨(Below.refl _ _).drew⟩
      generalize World.drew _ = wDc at hHeld ⊢
      have HCr := HC
      refine' tk 0 ?_
      try simp only [pt]
      refine' tk 1 ?_
      try simp only [pt]
      refine' tk 2 ?_
      try simp only [pt]
      refine' tk 3 ?_
      try simp only [pt]
      refine' tk 4 ?_
      try simp only [pt]
      refine' tk 5 ?_
      try simp only [pt]
      refine' tk 6 ?_
      try simp only [pt]
      refine' tk 7 ?_
      try simp only [pt]
      refine' tk 8 ?_
      try simp only [pt]
      refine' tk 9 ?_
      try simp only [pt]
      refine' tk 10 ?_
      try simp only [pt]
      refine' tk 11 ?_
      try simp only [pt]
      refine' cm 12 (fun K hK => ?_)
      go_simp
      have hHeld0 := hHeld
      refine hK.out _ _ ⟨hHeld.out.alloc hHeld.out.size _⟩ (fun hHeld => ?_)
      clear hK K
      try simp only [pt]
      refine' cm 13 (fun K hK => ?_)
      go_simp
      refine (all_calls _ (liesL_new (HXL.out.below (HB.out.trans (hHeld0.out.mono HB.out.size)))) (by simp) s (fun k hk => by rw [List.mem_singleton.1 hk]; exact HXK.out) (b := true) (by simp; exact q2)).mono ?_
      rintro e w7 ⟨rfl, hb2⟩
      refine hK.out _ _ ⟨hHeld.out.trans (hb2.mono hHeld.out.size)⟩ (fun hHeld => ?_)
      clear hK K
      try simp only [pt]
      refine' tk 14 ?_
      try simp only [pt]
      refine' tk 15 ?_
      try simp only [pt]
      refine' tk 16 ?_
      try simp only [pt]
      refine' tk 17 ?_
      try simp only [pt]
      refine' tk 18 ?_
      try simp only [pt]
      refine' tk 19 ?_
      try simp only [pt]
      refine' tn 20 ?_
      try simp only [pt]
      refine' tn 21 ?_
      try simp only [pt]
      refine' tn 22 ?_
      try simp only [pt]
      refine' tn 23 ?_
      try simp only [pt]
      refine' tn 24 ?_
      try simp only [pt]
      refine' tn 25 ?_
      try simp only [pt]
      refine' tn 26 ?_
      try simp only [pt]
      refine' tn 27 ?_
      try simp only [pt]
      refine' tn 28 ?_
      try simp only [pt]
      refine' tn 29 ?_
      try simp only [pt]
      refine' tn 30 ?_
      try simp only [pt]
      refine' tn 31 ?_
      try simp only [pt]
      refine' tk 32 ?_
      try simp only [pt]
      refine' tk 33 ?_
      try simp only [pt]
      refine' tk 34 ?_
      try simp only [pt]
      refine' tk 35 ?_
      try simp only [pt]
      refine' tk 36 ?_
      try simp only [pt]
      refine' tk 37 ?_
      try simp only [pt]
      refine' tk 38 ?_
      try simp only [pt]
      refine' tk 39 ?_
      try simp only [pt]
      refine' tk 40 ?_
      try simp only [pt]
      refine' cm 41 (fun K hK => ?_)
      go_simp
      have hHeld0 := hHeld
      refine hK.out _ _ ⟨hHeld.out.alloc hHeld.out.size _⟩ (fun hHeld => ?_)
      clear hK K
      try simp only [pt]
      refine' cm 42 (fun K hK => ?_)
      go_simp
      refine (all_calls _ (liesL_new (HYL.out.below (HB.out.trans (hHeld0.out.mono HB.out.size)))) (by simp) s (fun k hk => by rw [List.mem_singleton.1 hk]; exact HYK.out) (b := bd) (by simp; exact HBD.out)).mono ?_
      rintro e w7 ⟨rfl, hb2⟩
      refine hK.out _ _ ⟨hHeld.out.trans (hb2.mono hHeld.out.size)⟩ (fun hHeld => ?_)
      clear hK K
      try simp only [pt]
      refine' tk 43 ?_
      try simp only [pt]
      refine' tk 44 ?_
      try simp only [pt]
      refine wpAnyH_done (by kernel_rfl) ?_ _
      cases bd with
      | false =>
       go_wp2_with fail
       go_ret
       refine ⟨?_, B1.out.trans ((HB.out.trans (hHeld.out.mono HB.out.size)).mono B1.out.size)⟩
       rw [HST.out, HBD.out]
       simp
      | true =>
       go_wp2_with fail
       go_roundg (gk - 2)
       case measure => clear wi2 wj wj2 ; have := HI.out; have := HJ.out; omega
       case rel =>
        refine ⟨i2, by first | rfl | simp [wi2], ⟨by clear wi2 wj wj2 ; have := HI.out; have := HI2.out; have := HJ.out; have := HOD.out; have := HLT.out; omega⟩, ⟨HB.out.trans (hHeld.out.mono HB.out.size)⟩, ⟨?_⟩⟩
        rw [HST.out, HBD.out, HPZ.out, HQ1.out, q2, ← HI2.out]
        have e : prvP l (i + 2) = some x.n := by unfold prvP; rw [if_neg (by omega), Nat.add_sub_cancel, HX.out]; rfl
        rw [e]
        simp
     ·obtain ⟨h, hh⟩ : ∃ h, h + 2 = i := ⟨i - 2, by have := HI.out; omega⟩
      obtain ⟨z, hz⟩ : ∃ z, l[h]? = some z := ⟨_, List.getElem?_eq_getElem (by rw [HN.out]; have := HI.out; omega)⟩
      have HZ := Lib.hid hz
      have hpz : prvP l i = some z.n := by
       unfold prvP
       rw [if_neg q3, show i - 2 = h by omega, hz]
       rfl
      have HPZ := Lib.hid hpz
      have hh0 := eq_true (show (0 : Int) ≤ (h : Int) by omega)
      have hh1 : ((h : Int) < (len : Int)) = True := eq_true (by have := HI.out; omega)
      have hgt : ((0 : Int) < (i : Int)) = True := eq_true (by omega)
      have hgt2 : (0 < i) = True := eq_true (by omega)
      have wh : wrap64 ((i : Int) - 2) = (h : Int) := by have := HI.out; have := HBG.out; unfold wrap64; omega
      have wh2 : IntKind.i64.wrap ((i : Int) - 2) = (h : Int) := by rw [i64_w]; exact wh
      have HC2 := Lib.hid fun (w' : World) (hb : Below wr.heap.size wr w') => (show _ ∧ _ ∧ _ ∧ w'.cell? ⟨(b.add (h * 4)).block, (b.add (h * 4)).off + 1, none⟩ = some (.int .i64 z.n) from ⟨(HC.out w' hb).1, (HC.out w' hb).2.1, (HC.out w' hb).2.2.1, (HC.out w' hb).2.2.2 h z HZ.out⟩)
      clear hz hpz hh q3
      by_cases q4 : x.n ≤ z.n
      ·go_wp2_with fail
       refine wp_region_held_drew (S := fun w' => Aside0 (Below wr.heap.size wr w')) (by kernel_rfl) ?_ (fun hHeld => ?_)
       ·exact ⟨(Below.refl _ _).drew⟩
       generalize World.drew _ = wDd at hHeld ⊢
       have HCr := HC2
       refine' tk 0 ?_
       try simp only [pt]
       refine' tk 1 ?_
       try simp only [pt]
       refine' tk 2 ?_
       try simp only [pt]
       refine' tk 3 ?_
       try simp only [pt]
       refine' tk 4 ?_
       try simp only [pt]
       refine' tk 5 ?_
       try simp only [pt]
       refine' tk 6 ?_
       try simp only [pt]
       refine' tk 7 ?_
       try simp only [pt]
       refine' tk 8 ?_
       try simp only [pt]
       refine' tk 9 ?_
       try simp only [pt]
       refine' tk 10 ?_
       try simp only [pt]
       refine' tk 11 ?_
       try simp only [pt]
       refine' cm 12 (fun K hK => ?_)
       go_simp
       have hHeld0 := hHeld
       refine hK.out _ _ ⟨hHeld.out.alloc hHeld.out.size _⟩ (fun hHeld => ?_)
       clear hK K
       try simp only [pt]
       refine' cm 13 (fun K hK => ?_)
       go_simp
       refine (all_calls _ (liesL_new (HXL.out.below (HB.out.trans (hHeld0.out.mono HB.out.size)))) (by simp) s (fun k hk => by rw [List.mem_singleton.1 hk]; exact HXK.out) (b := true) (by simp; exact q2)).mono ?_
       rintro e w7 ⟨rfl, hb2⟩
       refine hK.out _ _ ⟨hHeld.out.trans (hb2.mono hHeld.out.size)⟩ (fun hHeld => ?_)
       clear hK K
       try simp only [pt]
       refine' tk 14 ?_
       try simp only [pt]
       refine' tk 15 ?_
       try simp only [pt]
       refine' tk 16 ?_
       try simp only [pt]
       refine' tk 17 ?_
       try simp only [pt]
       refine' tk 18 ?_
       try simp only [pt]
       refine' tk 19 ?_
       try simp only [pt]
       refine' tk 20 ?_
       try simp only [pt]
       refine' tk 21 ?_
       try simp only [pt]
       refine' tk 22 ?_
       try simp only [pt]
       refine' tk 23 ?_
       try simp only [pt]
       refine' tk 24 ?_
       try simp only [pt]
       refine' tk 25 ?_
       try simp only [pt]
       refine' tk 26 ?_
       try simp only [pt]
       refine' tk 27 ?_
       try simp only [pt]
       refine' tk 28 ?_
       try simp only [pt]
       refine' tk 29 ?_
       try simp only [pt]
       refine' tk 30 ?_
       try simp only [pt]
       refine' tk 31 ?_
       try simp only [pt]
       refine' tk 32 ?_
       try simp only [pt]
       refine' tk 33 ?_
       try simp only [pt]
       refine' tk 34 ?_
       try simp only [pt]
       refine' tn 35 ?_
       try simp only [pt]
       refine' tn 36 ?_
       try simp only [pt]
       refine' tn 37 ?_
       try simp only [pt]
       refine' tn 38 ?_
       try simp only [pt]
       refine' tn 39 ?_
       try simp only [pt]
       refine' tn 40 ?_
       try simp only [pt]
       refine' tn 41 ?_
       try simp only [pt]
       refine' tn 42 ?_
       try simp only [pt]
       refine' tn 43 ?_
       try simp only [pt]
       refine' tk 44 ?_
       try simp only [pt]
       refine wpAnyH_done (by kernel_rfl) ?_ _
       go_wp2_with fail
       go_ret
       refine ⟨?_, B1.out.trans ((HB.out.trans (hHeld.out.mono HB.out.size)).mono B1.out.size)⟩
       rw [HST.out, HPZ.out]
       have e : decide (z.n < x.n) = false := decide_eq_false (Int.not_lt.2 q4)
       simp [e]
      ·have q4b : (x.n ≤ z.n) = False := eq_false q4
       go_wp2_with fail
       refine wp_region_held_drew (S := fun w' => Aside0 (Below wr.heap.size wr w')) (by kernel_rfl) ?_ (fun hHeld => ?_)
       ·exact ⟨(Below.refl _ _).drew⟩
       generalize World.drew _ = wDe at hHeld ⊢
       have HCr := HC2
       refine' tk 0 ?_
       try simp only [pt]
       refine' tk 1 ?_
       try simp only [pt]
       refine' tk 2 ?_
       try simp only [pt]
       refine' tk 3 ?_
       try simp only [pt]
       refine' tk 4 ?_
       try simp only [pt]
       refine' tk 5 ?_
       try simp only [pt]
       refine' tk 6 ?_
       try simp only [pt]
       refine' tk 7 ?_
       try simp only [pt]
       refine' tk 8 ?_
       try simp only [pt]
       refine' tk 9 ?_
       try simp only [pt]
       refine' tk 10 ?_
       try simp only [pt]
       refine' tk 11 ?_
       try simp only [pt]
       refine' cm 12 (fun K hK => ?_)
       go_simp
       have hHeld0 := hHeld
       refine hK.out _ _ ⟨hHeld.out.alloc hHeld.out.size _⟩ (fun hHeld => ?_)
       clear hK K
       try simp only [pt]
       refine' cm 13 (fun K hK => ?_)
       go_simp
       refine (all_calls _ (liesL_new (HXL.out.below (HB.out.trans (hHeld0.out.mono HB.out.size)))) (by simp) s (fun k hk => by rw [List.mem_singleton.1 hk]; exact HXK.out) (b := true) (by simp; exact q2)).mono ?_
       rintro e w7 ⟨rfl, hb2⟩
       refine hK.out _ _ ⟨hHeld.out.trans (hb2.mono hHeld.out.size)⟩ (fun hHeld => ?_)
       clear hK K
       try simp only [pt]
       refine' tk 14 ?_
       try simp only [pt]
       refine' tk 15 ?_
       try simp only [pt]
       refine' tk 16 ?_
       try simp only [pt]
       refine' tk 17 ?_
       try simp only [pt]
       refine' tk 18 ?_
       try simp only [pt]
       refine' tk 19 ?_
       try simp only [pt]
       refine' tk 20 ?_
       try simp only [pt]
       refine' tk 21 ?_
       try simp only [pt]
       refine' tk 22 ?_
       try simp only [pt]
       refine' tk 23 ?_
       try simp only [pt]
       refine' tk 24 ?_
       try simp only [pt]
       refine' tk 25 ?_
       try simp only [pt]
       refine' tk 26 ?_
       try simp only [pt]
       refine' tk 27 ?_
       try simp only [pt]
       refine' tk 28 ?_
       try simp only [pt]
       refine' tk 29 ?_
       try simp only [pt]
       refine' tk 30 ?_
       try simp only [pt]
       refine' tk 31 ?_
       try simp only [pt]
       refine' tk 32 ?_
       try simp only [pt]
       refine' tk 33 ?_
       try simp only [pt]
       refine' tk 34 ?_
       try simp only [pt]
       refine' tk 35 ?_
       try simp only [pt]
       refine' tk 36 ?_
       try simp only [pt]
       refine' tk 37 ?_
       try simp only [pt]
       refine' tk 38 ?_
       try simp only [pt]
       refine' tk 39 ?_
       try simp only [pt]
       refine' tk 40 ?_
       try simp only [pt]
       refine' cm 41 (fun K hK => ?_)
       go_simp
       have hHeld0 := hHeld
       refine hK.out _ _ ⟨hHeld.out.alloc hHeld.out.size _⟩ (fun hHeld => ?_)
       clear hK K
       try simp only [pt]
       refine' cm 42 (fun K hK => ?_)
       go_simp
       refine (all_calls _ (liesL_new (HYL.out.below (HB.out.trans (hHeld0.out.mono HB.out.size)))) (by simp) s (fun k hk => by rw [List.mem_singleton.1 hk]; exact HYK.out) (b := bd) (by simp; exact HBD.out)).mono ?_
       rintro e w7 ⟨rfl, hb2⟩
       refine hK.out _ _ ⟨hHeld.out.trans (hb2.mono hHeld.out.size)⟩ (fun hHeld => ?_)
       clear hK K
       try simp only [pt]
       refine' tk 43 ?_
       try simp only [pt]
       refine' tk 44 ?_
       try simp only [pt]
       refine wpAnyH_done (by kernel_rfl) ?_ _
       cases bd with
       | false =>
        go_wp2_with fail
        go_ret
        refine ⟨?_, B1.out.trans ((HB.out.trans (hHeld.out.mono HB.out.size)).mono B1.out.size)⟩
        rw [HST.out, HBD.out]
        simp
       | true =>
        go_wp2_with fail
        go_roundg (gk - 2)
        case measure => clear wi2 wj wj2 wh wh2; have := HI.out; have := HJ.out; omega
        case rel =>
         refine ⟨i2, by first | rfl | simp [wi2], ⟨by clear wi2 wj wj2 wh wh2; have := HI.out; have := HI2.out; have := HJ.out; have := HOD.out; have := HLT.out; omega⟩, ⟨HB.out.trans (hHeld.out.mono HB.out.size)⟩, ⟨?_⟩⟩
         rw [HST.out, HBD.out, HPZ.out, HQ1.out, q2, ← HI2.out]
         have e : prvP l (i + 2) = some x.n := by unfold prvP; rw [if_neg (by omega), Nat.add_sub_cancel, HX.out]; rfl
         rw [e]
         have e2 : decide (z.n < x.n) = true := by first | exact decide_eq_true q4 | exact decide_eq_true (Int.not_le.1 q4)
         simp [e2]
    ·go_wp2_with fail
     refine wp_region_held_drew (S := fun w' => Aside0 (Below wr.heap.size wr w')) (by kernel_rfl) ?_ (fun hHeld => ?_)
     ·exact ⟨(Below.refl _ _).drew⟩
     generalize World.drew _ = wDb at hHeld ⊢
     have HCr := HC
     refine' tk 0 ?_
     try simp only [pt]
     refine' tk 1 ?_
     try simp only [pt]
     refine' tk 2 ?_
     try simp only [pt]
     refine' tk 3 ?_
     try simp only [pt]
     refine' tk 4 ?_
     try simp only [pt]
     refine' tk 5 ?_
     try simp only [pt]
     refine' tk 6 ?_
     try simp only [pt]
     refine' tk 7 ?_
     try simp only [pt]
     refine' tk 8 ?_
     try simp only [pt]
     refine' tk 9 ?_
     try simp only [pt]
     refine' tk 10 ?_
     try simp only [pt]
     refine' tk 11 ?_
     try simp only [pt]
     refine' cm 12 (fun K hK => ?_)
     go_simp
     have hHeld0 := hHeld
     refine hK.out _ _ ⟨hHeld.out.alloc hHeld.out.size _⟩ (fun hHeld => ?_)
     clear hK K
     try simp only [pt]
     refine' cm 13 (fun K hK => ?_)
     go_simp
     refine (all_calls _ (liesL_new (HXL.out.below (HB.out.trans (hHeld0.out.mono HB.out.size)))) (by simp) s (fun k hk => by rw [List.mem_singleton.1 hk]; exact HXK.out) (b := false) (by simp; exact q2)).mono ?_
     rintro e w7 ⟨rfl, hb2⟩
     refine hK.out _ _ ⟨hHeld.out.trans (hb2.mono hHeld.out.size)⟩ (fun hHeld => ?_)
     clear hK K
     try simp only [pt]
     refine' tk 14 ?_
     try simp only [pt]
     refine' tk 15 ?_
     try simp only [pt]
     refine' tk 16 ?_
     try simp only [pt]
     refine' tn 17 ?_
     try simp only [pt]
     refine' tn 18 ?_
     try simp only [pt]
     refine' tn 19 ?_
     try simp only [pt]
     refine' tn 20 ?_
     try simp only [pt]
     refine' tn 21 ?_
     try simp only [pt]
     refine' tn 22 ?_
     try simp only [pt]
     refine' tn 23 ?_
     try simp only [pt]
     refine' tn 24 ?_
     try simp only [pt]
     refine' tn 25 ?_
     try simp only [pt]
     refine' tn 26 ?_
     try simp only [pt]
     refine' tn 27 ?_
     try simp only [pt]
     refine' tn 28 ?_
     try simp only [pt]
     refine' tn 29 ?_
     try simp only [pt]
     refine' tn 30 ?_
     try simp only [pt]
     refine' tn 31 ?_
     try simp only [pt]
     refine' tn 32 ?_
     try simp only [pt]
     refine' tk 33 ?_
     try simp only [pt]
     refine' tk 34 ?_
     try simp only [pt]
     refine' tn 35 ?_
     try simp only [pt]
     refine' tn 36 ?_
     try simp only [pt]
     refine' tn 37 ?_
     try simp only [pt]
     refine' tn 38 ?_
     try simp only [pt]
     refine' tn 39 ?_
     try simp only [pt]
     refine' tn 40 ?_
     try simp only [pt]
     refine' tn 41 ?_
     try simp only [pt]
     refine' tn 42 ?_
     try simp only [pt]
     refine' tn 43 ?_
     try simp only [pt]
     refine' tk 44 ?_
     try simp only [pt]
     refine wpAnyH_done (by kernel_rfl) ?_ _
     go_wp2_with fail
     go_ret
     refine ⟨?_, B1.out.trans ((HB.out.trans (hHeld.out.mono HB.out.size)).mono B1.out.size)⟩
     rw [HST.out]
     simp [q2]
   ·have q1b : (x.op != 1) = true := by simp [q1]
    go_wp2_with fail
    refine wp_region_held_drew (S := fun w' => Aside0 (Below wr.heap.size wr w')) (by kernel_rfl) ?_ (fun hHeld => ?_)
    ·exact ⟨(Below.refl _ _).drew⟩
    generalize World.drew _ = wDa at hHeld ⊢
    have HCr := HC
    refine' tk 0 ?_
    try simp only [pt]
    refine' tk 1 ?_
    try simp only [pt]
    refine' tk 2 ?_
    try simp only [pt]
    refine' tk 3 ?_
    try simp only [pt]
    refine' tk 4 ?_
    try simp only [pt]
    refine' tk 5 ?_
    try simp only [pt]
    refine' tk 6 ?_
    try simp only [pt]
    refine' tn 7 ?_
    try simp only [pt]
    refine' tn 8 ?_
    try simp only [pt]
    refine' tn 9 ?_
    try simp only [pt]
    refine' tn 10 ?_
    try simp only [pt]
    refine' tn 11 ?_
    try simp only [pt]
    refine' tn 12 ?_
    try simp only [pt]
    refine' tn 13 ?_
    try simp only [pt]
    refine' tn 14 ?_
    try simp only [pt]
    refine' tk 15 ?_
    try simp only [pt]
    refine' tk 16 ?_
    try simp only [pt]
    refine' tn 17 ?_
    try simp only [pt]
    refine' tn 18 ?_
    try simp only [pt]
    refine' tn 19 ?_
    try simp only [pt]
    refine' tn 20 ?_
    try simp only [pt]
    refine' tn 21 ?_
    try simp only [pt]
    refine' tn 22 ?_
    try simp only [pt]
    refine' tn 23 ?_
    try simp only [pt]
    refine' tn 24 ?_
    try simp only [pt]
    refine' tn 25 ?_
    try simp only [pt]
    refine' tn 26 ?_
    try simp only [pt]
    refine' tn 27 ?_
    try simp only [pt]
    refine' tn 28 ?_
    try simp only [pt]
    refine' tn 29 ?_
    try simp only [pt]
    refine' tn 30 ?_
    try simp only [pt]
    refine' tn 31 ?_
    try simp only [pt]
    refine' tn 32 ?_
    try simp only [pt]
    refine' tk 33 ?_
    try simp only [pt]
    refine' tk 34 ?_
    try simp only [pt]
    refine' tn 35 ?_
    try simp only [pt]
    refine' tn 36 ?_
    try simp only [pt]
    refine' tn 37 ?_
    try simp only [pt]
    refine' tn 38 ?_
    try simp only [pt]
    refine' tn 39 ?_
    try simp only [pt]
    refine' tn 40 ?_
    try simp only [pt]
    refine' tn 41 ?_
    try simp only [pt]
    refine' tn 42 ?_
    try simp only [pt]
    refine' tn 43 ?_
    try simp only [pt]
    refine' tk 44 ?_
    try simp only [pt]
    refine wpAnyH_done (by kernel_rfl) ?_ _
    go_wp2_with fail
    go_ret
    refine ⟨?_, B1.out.trans ((HB.out.trans (hHeld.out.mono HB.out.size)).mono B1.out.size)⟩
    rw [HST.out]
    simp [q1]
  ·have hj1 : ((j : Int) < (len : Int)) = False := eq_false (by omega)
   have hjn : j = len := by have := HI.out; omega
   have hLA := rungsP_last (s := s) hx (by rw [HN.out, ← hjn, ← hj]) (prvP l i)
   rw [HQ.out] at hLA
   have HLA := Lib.hid hLA
   have wi : wrap64 ((len : Int) - 1) = (i : Int) := by have := HI.out; have := HBG.out; unfold wrap64; omega
   have wi2 : IntKind.i64.wrap ((len : Int) - 1) = (i : Int) := by rw [i64_w]; exact wi
   have HC := Lib.hid fun (w' : World) (hb : Below wr.heap.size wr w') => (show ((w'.cell? ⟨w.heap.size, 0, none⟩ = some (.int .i64 rw) ∧ w'.cell? ⟨w.heap.size, 1, none⟩ = some (.int .i64 rc) ∧ w'.cell? ⟨w.heap.size, 2, none⟩ = some (.int .i64 rl)) ∧
     (w'.cell? (b.add (i * 4)) = some (.int .i64 x.op) ∧ w'.cell? ⟨(b.add (i * 4)).block, (b.add (i * 4)).off + 1, none⟩ = some (.int .i64 x.n) ∧ w'.cell? ⟨(b.add (i * 4)).block, (b.add (i * 4)).off + 2, none⟩ = some (.int .i64 x.m) ∧ w'.cell? ⟨(b.add (i * 4)).block, (b.add (i * 4)).off + 3, none⟩ = some (.slice x.at_ x.kids.length x.cap))) from by
    have hb' := HB.out.trans (hb.mono HB.out.size)
    obtain ⟨p, hp, -, c0, c1, c2, c3⟩ := HL.out.cellsB hb' HX.out
    injection hp with hp
    subst hp
    exact ⟨room_cells (blk_below HK2.out hb'), ⟨c0, c1, c2, c3⟩⟩)
   clear hx hj hlt hLA hiR hjn
   go_wp2_with fail
   refine wp_region_held_drew (S := fun w' => Aside0 (Below wr.heap.size wr w')) (by kernel_rfl) ?_ (fun hHeld => ?_)
   ·exact ⟨(Below.refl _ _).drew⟩
   generalize World.drew _ = wDl at hHeld ⊢
   have HCr := HC
   refine' tk 0 ?_
   try simp only [pt]
   refine' tk 1 ?_
   try simp only [pt]
   refine' tk 2 ?_
   try simp only [pt]
   refine' tk 3 ?_
   try simp only [pt]
   refine' tk 4 ?_
   try simp only [pt]
   refine' tk 5 ?_
   try simp only [pt]
   refine' tk 6 ?_
   try simp only [pt]
   refine' cm 7 (fun K hK => ?_)
   go_simp
   have hHeld0 := hHeld
   refine hK.out _ _ ⟨hHeld.out.alloc hHeld.out.size _⟩ (fun hHeld => ?_)
   clear hK K
   try simp only [pt]
   refine' cm 8 (fun K hK => ?_)
   go_simp
   refine (all_calls _ (liesL_new (HXL.out.below (HB.out.trans (hHeld0.out.mono HB.out.size)))) (by simp) s (fun k hk => by rw [List.mem_singleton.1 hk]; exact HXK.out) (b := r) (by simp [HLA.out])).mono ?_
   rintro e w7 ⟨rfl, hb2⟩
   refine hK.out _ _ ⟨hHeld.out.trans (hb2.mono hHeld.out.size)⟩ (fun hHeld => ?_)
   clear hK K
   try simp only [pt]
   refine' tk 9 ?_
   try simp only [pt]
   refine wpAnyH_done (by kernel_rfl) ?_ _
   go_wp2_with fail
   go_ret
   exact ⟨by simp, B1.out.trans ((HB.out.trans (hHeld.out.mono HB.out.size)).mono B1.out.size)⟩
end Go.Proofs.YtpljkcakijkklaaGreatDoor

end
section
namespace Go.Proofs.YtpljkcakijkklaaGreatDoor
set_option linter.unusedVariables false
set_option linter.unusedSimpArgs false
open Go.RowKit Go.Proofs.YtpljkcakijkklaaGreatDoorW.PrintWords Go.Proofs.YtpljkcakijkklaaGreatDoorW.PrintLast Go.Proofs.YtpljkcakijkklaaGreatDoorW.PrintMore

def ifS (s : Cr → Int) : List Cr → Int
 | [a, b, c] => if s a = 2 then (if s b = 1 then (if s c = 1 then 1 else 0) else if s b = 2 then (if s c = 2 then 2 else 0) else 0) else 0
 | _ => 0
def ladS (s : Cr → Int) : List Cr → Int
 | a :: t => if s a = 1 then (if rungsP s none t then 3 else 0) else 0
 | [] => 0
def twoS (s : Cr → Int) (op : Int) : List Cr → Int
 | [a, b] =>
  if op = 14 ∨ op = 15 ∨ op = 16 ∨ op = 17 ∨ op = 23 ∨ op = 24 then (if (s a == 1 && s b == 1) then 1 else 0)
  else if op = 18 ∨ op = 19 ∨ op = 20 ∨ op = 21 ∨ op = 22 then (if (s a == 1 && s b == 1) then 2 else 0)
  else if op = 25 ∨ op = 26 then (if (s a == 2 && s b == 2) then 2 else 0)
  else if op = 27 then (if s a = 3 then 0 else if s a = 0 then 0 else if s b = s a then s a else 0)
  else 0
 | _ => 0
def moreS (s : Cr → Int) (op n m : Int) (l : List Cr) : Int :=
 if n = 0 ∧ m = 0 then
  (if op = 28 ∧ l.length = 3 then ifS s l
   else if op = 32 ∧ 2 ≤ l.length ∧ l.length % 2 = 0 then ladS s l
   else if l.length = 2 then twoS s op l else 0)
 else 0
theorem liesL_tail {w : World} {b : Addr} {a : Cr} {t : List Cr} (h : LiesL w (some b) 0 (a :: t)) : LiesL w (some ⟨b.block, b.off + 4, none⟩) 0 t := by
 refine LiesL.of_get fun j c hj => ?_
 obtain ⟨⟨p, hp, hc⟩, hl⟩ := h.get (j := j + 1) (c := c) (by simpa using hj)
 injection hp with hp
 subst hp
 refine ⟨⟨_, rfl, ?_⟩, hl⟩
 have e : (⟨b.block, b.off + 4, none⟩ : Addr) = b.add 4 := rfl
 rw [e, Addr.add_add]
 rw [show 4 + (0 + j) * 4 = (0 + (j + 1)) * 4 by omega]
 exact hc
theorem LiesL.lit {w w' : World} {b : Addr} {l : List Cr} (h : LiesL w (some b) 0 l) (hb : Below w.heap.size w w') (i : Nat) {k : Cr} (hk : l[i + 1]? = some k) :
  w'.cell? ⟨b.block, b.off + (i + 1) * 4, none⟩ = some (.int .i64 k.op) ∧ w'.cell? ⟨b.block, b.off + (i + 1) * 4 + 1, none⟩ = some (.int .i64 k.n) ∧ w'.cell? ⟨b.block, b.off + (i + 1) * 4 + 2, none⟩ = some (.int .i64 k.m) ∧ w'.cell? ⟨b.block, b.off + (i + 1) * 4 + 3, none⟩ = some (.slice k.at_ k.kids.length k.cap) := by
 obtain ⟨p, hp, -, c0, c1, c2, c3⟩ := h.cellsB hb hk
 injection hp with hp
 subst hp
 have e : b.add ((i + 1) * 4) = ⟨b.block, b.off + (i + 1) * 4, none⟩ := by
  rw [show (i + 1) * 4 = (i * 4 + 3) + 1 by omega]
  rfl
 rw [e] at c0 c1 c2 c3
 exact ⟨c0, c1, c2, c3⟩
theorem LiesL.lit0 {w w' : World} {b : Addr} {l : List Cr} (h : LiesL w (some b) 0 l) (hb : Below w.heap.size w w') {k : Cr} (hk : l[0]? = some k) :
  w'.cell? b = some (.int .i64 k.op) ∧ w'.cell? ⟨b.block, b.off + 1, none⟩ = some (.int .i64 k.n) ∧ w'.cell? ⟨b.block, b.off + 2, none⟩ = some (.int .i64 k.m) ∧ w'.cell? ⟨b.block, b.off + 3, none⟩ = some (.slice k.at_ k.kids.length k.cap) := by
 obtain ⟨p, hp, -, c0, c1, c2, c3⟩ := h.cellsB hb hk
 injection hp with hp
 subst hp
 exact ⟨c0, c1, c2, c3⟩

section
variable {rw rc rl op n m : Int} {at_ : Option Addr} {cap : Nat} {w : World}
theorem more_n {len : Nat} (h : ¬ n = 0) :
  Calls Tryz.prog 80 #[.agg #[.int .i64 rw, .int .i64 rc, .int .i64 rl], .agg #[.int .i64 op, .int .i64 n, .int .i64 m, .slice at_ len cap]] w fun e w' => e = .returned (.int .i64 (0)) ∧ Below w.heap.size w w' := by
 go_enter Tryz.func80, Tryz.ntmps80
 have h1 : (n != 0) = true := by simp [h]
 go_wp2
 all_goals
  go_ret
  exact ⟨rfl, below_alloc (below_alloc (Below.refl _ _) _) _⟩
theorem more_m {len : Nat} (h : ¬ m = 0) :
  Calls Tryz.prog 80 #[.agg #[.int .i64 rw, .int .i64 rc, .int .i64 rl], .agg #[.int .i64 op, .int .i64 0, .int .i64 m, .slice at_ len cap]] w fun e w' => e = .returned (.int .i64 (0)) ∧ Below w.heap.size w w' := by
 go_enter Tryz.func80, Tryz.ntmps80
 have h1 : (m != 0) = true := by simp [h]
 go_wp2
 all_goals
  go_ret
  exact ⟨rfl, below_alloc (below_alloc (Below.refl _ _) _) _⟩
theorem more_28 {len : Nat} (h2 : ¬ len = 2) (h3 : ¬ len = 3) :
  Calls Tryz.prog 80 #[.agg #[.int .i64 rw, .int .i64 rc, .int .i64 rl], .agg #[.int .i64 28, .int .i64 0, .int .i64 0, .slice at_ len cap]] w fun e w' => e = .returned (.int .i64 (0)) ∧ Below w.heap.size w w' := by
 go_enter Tryz.func80, Tryz.ntmps80
 have h4 : ((len : Int) != 2) = true := by simp; omega
 have h5 : ((len : Int) == 3) = false := by simp; omega
 go_wp2
 all_goals
  go_ret
  exact ⟨rfl, below_alloc (below_alloc (Below.refl _ _) _) _⟩
theorem more_32 {len : Nat} (h2 : 2 < len) (h3 : len % 2 = 1) :
  Calls Tryz.prog 80 #[.agg #[.int .i64 rw, .int .i64 rc, .int .i64 rl], .agg #[.int .i64 32, .int .i64 0, .int .i64 0, .slice at_ len cap]] w fun e w' => e = .returned (.int .i64 (0)) ∧ Below w.heap.size w w' := by
 go_enter Tryz.func80, Tryz.ntmps80
 have h4 : ((len : Int) != 2) = true := by simp; omega
 have h5 : (2 ≤ (len : Int)) = True := eq_true (by omega)
 have h6 : (2 ≤ len) = True := eq_true (by omega)
 have h7 : (len : Int).tmod 2 = 1 := by rw [Int.tmod_eq_emod_of_nonneg (by omega)]; omega
 go_wp2
 all_goals
  go_ret
  exact ⟨rfl, below_alloc (below_alloc (Below.refl _ _) _) _⟩
theorem more_len {len : Nat} (h2 : ¬ len = 2) (q1 : ¬ op = 28) (q2 : ¬ op = 32) :
  Calls Tryz.prog 80 #[.agg #[.int .i64 rw, .int .i64 rc, .int .i64 rl], .agg #[.int .i64 op, .int .i64 0, .int .i64 0, .slice at_ len cap]] w fun e w' => e = .returned (.int .i64 (0)) ∧ Below w.heap.size w w' := by
 go_enter Tryz.func80, Tryz.ntmps80
 have h4 : ((len : Int) != 2) = true := by simp; omega
 have h5 : (op == 28) = false := by simp [q1]
 have h6 : (op == 32) = false := by simp [q2]
 go_wp2
 all_goals
  go_ret
  exact ⟨rfl, below_alloc (below_alloc (Below.refl _ _) _) _⟩
theorem more_low {len : Nat} (h2 : op < 14) :
  Calls Tryz.prog 80 #[.agg #[.int .i64 rw, .int .i64 rc, .int .i64 rl], .agg #[.int .i64 op, .int .i64 0, .int .i64 0, .slice at_ 2 cap]] w fun e w' => e = .returned (.int .i64 (0)) ∧ Below w.heap.size w w' := by
 go_enter Tryz.func80, Tryz.ntmps80
 have h23 : (op == 23) = false := by simp; omega
 have h24 : (op == 24) = false := by simp; omega
 have h25 : (op == 25) = false := by simp; omega
 have h26 : (op == 26) = false := by simp; omega
 have h27 : (op == 27) = false := by simp; omega
 have h28 : (op == 28) = false := by simp; omega
 have h32 : (op == 32) = false := by simp; omega
 have g1 : (14 ≤ op) = False := eq_false (by omega)
 have g2 : (18 ≤ op) = False := eq_false (by omega)
 go_wp2
 all_goals
  go_ret
  exact ⟨rfl, below_alloc (below_alloc (Below.refl _ _) _) _⟩
theorem more_high {len : Nat} (h2 : 27 < op) (q2 : ¬ op = 32) :
  Calls Tryz.prog 80 #[.agg #[.int .i64 rw, .int .i64 rc, .int .i64 rl], .agg #[.int .i64 op, .int .i64 0, .int .i64 0, .slice at_ 2 cap]] w fun e w' => e = .returned (.int .i64 (0)) ∧ Below w.heap.size w w' := by
 go_enter Tryz.func80, Tryz.ntmps80
 have h23 : (op == 23) = false := by simp; omega
 have h24 : (op == 24) = false := by simp; omega
 have h25 : (op == 25) = false := by simp; omega
 have h26 : (op == 26) = false := by simp; omega
 have h27 : (op == 27) = false := by simp; omega
 have h32 : (op == 32) = false := by simp; omega
 have g1 : (op ≤ 17) = False := eq_false (by omega)
 have g2 : (op ≤ 22) = False := eq_false (by omega)
 go_wp2
 all_goals
  go_ret
  exact ⟨rfl, below_alloc (below_alloc (Below.refl _ _) _) _⟩
theorem more_k14 {s : Cr → Int} {l : List Cr} (h2 : l.length = 2) (hl : LiesL w at_ 0 l) (ih : ∀ k ∈ l, SortC rw rc rl k (s k)) :
  Calls Tryz.prog 80 #[.agg #[.int .i64 rw, .int .i64 rc, .int .i64 rl], .agg #[.int .i64 14, .int .i64 0, .int .i64 0, .slice at_ l.length cap]] w fun e w' => e = .returned (.int .i64 (if l.all (fun k => s k == 1) then 1 else 0)) ∧ Below w.heap.size w w' := by
 obtain ⟨w1, e1, b1, k2, k3, s1⟩ := box2 w (.cells #[.int .i64 rw, .int .i64 rc, .int .i64 rl] 87) (.cells #[.int .i64 14, .int .i64 0, .int .i64 0, .slice at_ 2 cap] 24)
 have HE := Lib.hid e1
 have B1 := Lib.hid b1
 have HL := Lib.hid (hl.below b1)
 have HI := Lib.hid ih
 have H2 := Lib.hid h2
 obtain ⟨c0, c1, c2, c3⟩ := core_cells k3
 obtain ⟨r0, r1, r2⟩ := room_cells k2
 obtain ⟨bd, hbd⟩ : ∃ bd, (l.all fun k => s k == 1) = bd := ⟨_, rfl⟩
 have HBD := Lib.hid hbd
 obtain ⟨rr, hrr⟩ : ∃ rr, (if bd then (1 : Int) else 0) = rr := ⟨_, rfl⟩
 have HRR := Lib.hid hrr
 rw [hbd, h2, hrr]
 clear hl ih h2 k2 k3 e1 b1 hbd s1 hrr
 go_enter Tryz.func80, Tryz.ntmps80
 go_wp2_with fail
 rw [HE.out]
 go_wp2_with fail
 have hcall := all_calls cap HL.out (by rw [H2.out]; decide) s HI.out HBD.out
 rw [H2.out] at hcall
 refine hcall.mono ?_
 clear hcall
 rintro e w2 ⟨rfl, hb2⟩
 go_wp2_with fail
 refine (when_calls bd 1 HRR.out _).mono ?_
 rintro e w3 ⟨rfl, rfl⟩
 go_wp2_with fail
 go_ret
 exact ⟨rfl, B1.out.trans (hb2.mono B1.out.size)⟩
theorem more_k15 {s : Cr → Int} {l : List Cr} (h2 : l.length = 2) (hl : LiesL w at_ 0 l) (ih : ∀ k ∈ l, SortC rw rc rl k (s k)) :
  Calls Tryz.prog 80 #[.agg #[.int .i64 rw, .int .i64 rc, .int .i64 rl], .agg #[.int .i64 15, .int .i64 0, .int .i64 0, .slice at_ l.length cap]] w fun e w' => e = .returned (.int .i64 (if l.all (fun k => s k == 1) then 1 else 0)) ∧ Below w.heap.size w w' := by
 obtain ⟨w1, e1, b1, k2, k3, s1⟩ := box2 w (.cells #[.int .i64 rw, .int .i64 rc, .int .i64 rl] 87) (.cells #[.int .i64 15, .int .i64 0, .int .i64 0, .slice at_ 2 cap] 24)
 have HE := Lib.hid e1
 have B1 := Lib.hid b1
 have HL := Lib.hid (hl.below b1)
 have HI := Lib.hid ih
 have H2 := Lib.hid h2
 obtain ⟨c0, c1, c2, c3⟩ := core_cells k3
 obtain ⟨r0, r1, r2⟩ := room_cells k2
 obtain ⟨bd, hbd⟩ : ∃ bd, (l.all fun k => s k == 1) = bd := ⟨_, rfl⟩
 have HBD := Lib.hid hbd
 obtain ⟨rr, hrr⟩ : ∃ rr, (if bd then (1 : Int) else 0) = rr := ⟨_, rfl⟩
 have HRR := Lib.hid hrr
 rw [hbd, h2, hrr]
 clear hl ih h2 k2 k3 e1 b1 hbd s1 hrr
 go_enter Tryz.func80, Tryz.ntmps80
 go_wp2_with fail
 rw [HE.out]
 go_wp2_with fail
 have hcall := all_calls cap HL.out (by rw [H2.out]; decide) s HI.out HBD.out
 rw [H2.out] at hcall
 refine hcall.mono ?_
 clear hcall
 rintro e w2 ⟨rfl, hb2⟩
 go_wp2_with fail
 refine (when_calls bd 1 HRR.out _).mono ?_
 rintro e w3 ⟨rfl, rfl⟩
 go_wp2_with fail
 go_ret
 exact ⟨rfl, B1.out.trans (hb2.mono B1.out.size)⟩
theorem more_k16 {s : Cr → Int} {l : List Cr} (h2 : l.length = 2) (hl : LiesL w at_ 0 l) (ih : ∀ k ∈ l, SortC rw rc rl k (s k)) :
  Calls Tryz.prog 80 #[.agg #[.int .i64 rw, .int .i64 rc, .int .i64 rl], .agg #[.int .i64 16, .int .i64 0, .int .i64 0, .slice at_ l.length cap]] w fun e w' => e = .returned (.int .i64 (if l.all (fun k => s k == 1) then 1 else 0)) ∧ Below w.heap.size w w' := by
 obtain ⟨w1, e1, b1, k2, k3, s1⟩ := box2 w (.cells #[.int .i64 rw, .int .i64 rc, .int .i64 rl] 87) (.cells #[.int .i64 16, .int .i64 0, .int .i64 0, .slice at_ 2 cap] 24)
 have HE := Lib.hid e1
 have B1 := Lib.hid b1
 have HL := Lib.hid (hl.below b1)
 have HI := Lib.hid ih
 have H2 := Lib.hid h2
 obtain ⟨c0, c1, c2, c3⟩ := core_cells k3
 obtain ⟨r0, r1, r2⟩ := room_cells k2
 obtain ⟨bd, hbd⟩ : ∃ bd, (l.all fun k => s k == 1) = bd := ⟨_, rfl⟩
 have HBD := Lib.hid hbd
 obtain ⟨rr, hrr⟩ : ∃ rr, (if bd then (1 : Int) else 0) = rr := ⟨_, rfl⟩
 have HRR := Lib.hid hrr
 rw [hbd, h2, hrr]
 clear hl ih h2 k2 k3 e1 b1 hbd s1 hrr
 go_enter Tryz.func80, Tryz.ntmps80
 go_wp2_with fail
 rw [HE.out]
 go_wp2_with fail
 have hcall := all_calls cap HL.out (by rw [H2.out]; decide) s HI.out HBD.out
 rw [H2.out] at hcall
 refine hcall.mono ?_
 clear hcall
 rintro e w2 ⟨rfl, hb2⟩
 go_wp2_with fail
 refine (when_calls bd 1 HRR.out _).mono ?_
 rintro e w3 ⟨rfl, rfl⟩
 go_wp2_with fail
 go_ret
 exact ⟨rfl, B1.out.trans (hb2.mono B1.out.size)⟩
theorem more_k17 {s : Cr → Int} {l : List Cr} (h2 : l.length = 2) (hl : LiesL w at_ 0 l) (ih : ∀ k ∈ l, SortC rw rc rl k (s k)) :
  Calls Tryz.prog 80 #[.agg #[.int .i64 rw, .int .i64 rc, .int .i64 rl], .agg #[.int .i64 17, .int .i64 0, .int .i64 0, .slice at_ l.length cap]] w fun e w' => e = .returned (.int .i64 (if l.all (fun k => s k == 1) then 1 else 0)) ∧ Below w.heap.size w w' := by
 obtain ⟨w1, e1, b1, k2, k3, s1⟩ := box2 w (.cells #[.int .i64 rw, .int .i64 rc, .int .i64 rl] 87) (.cells #[.int .i64 17, .int .i64 0, .int .i64 0, .slice at_ 2 cap] 24)
 have HE := Lib.hid e1
 have B1 := Lib.hid b1
 have HL := Lib.hid (hl.below b1)
 have HI := Lib.hid ih
 have H2 := Lib.hid h2
 obtain ⟨c0, c1, c2, c3⟩ := core_cells k3
 obtain ⟨r0, r1, r2⟩ := room_cells k2
 obtain ⟨bd, hbd⟩ : ∃ bd, (l.all fun k => s k == 1) = bd := ⟨_, rfl⟩
 have HBD := Lib.hid hbd
 obtain ⟨rr, hrr⟩ : ∃ rr, (if bd then (1 : Int) else 0) = rr := ⟨_, rfl⟩
 have HRR := Lib.hid hrr
 rw [hbd, h2, hrr]
 clear hl ih h2 k2 k3 e1 b1 hbd s1 hrr
 go_enter Tryz.func80, Tryz.ntmps80
 go_wp2_with fail
 rw [HE.out]
 go_wp2_with fail
 have hcall := all_calls cap HL.out (by rw [H2.out]; decide) s HI.out HBD.out
 rw [H2.out] at hcall
 refine hcall.mono ?_
 clear hcall
 rintro e w2 ⟨rfl, hb2⟩
 go_wp2_with fail
 refine (when_calls bd 1 HRR.out _).mono ?_
 rintro e w3 ⟨rfl, rfl⟩
 go_wp2_with fail
 go_ret
 exact ⟨rfl, B1.out.trans (hb2.mono B1.out.size)⟩
theorem more_k23 {s : Cr → Int} {l : List Cr} (h2 : l.length = 2) (hl : LiesL w at_ 0 l) (ih : ∀ k ∈ l, SortC rw rc rl k (s k)) :
  Calls Tryz.prog 80 #[.agg #[.int .i64 rw, .int .i64 rc, .int .i64 rl], .agg #[.int .i64 23, .int .i64 0, .int .i64 0, .slice at_ l.length cap]] w fun e w' => e = .returned (.int .i64 (if l.all (fun k => s k == 1) then 1 else 0)) ∧ Below w.heap.size w w' := by
 obtain ⟨w1, e1, b1, k2, k3, s1⟩ := box2 w (.cells #[.int .i64 rw, .int .i64 rc, .int .i64 rl] 87) (.cells #[.int .i64 23, .int .i64 0, .int .i64 0, .slice at_ 2 cap] 24)
 have HE := Lib.hid e1
 have B1 := Lib.hid b1
 have HL := Lib.hid (hl.below b1)
 have HI := Lib.hid ih
 have H2 := Lib.hid h2
 obtain ⟨c0, c1, c2, c3⟩ := core_cells k3
 obtain ⟨r0, r1, r2⟩ := room_cells k2
 obtain ⟨bd, hbd⟩ : ∃ bd, (l.all fun k => s k == 1) = bd := ⟨_, rfl⟩
 have HBD := Lib.hid hbd
 obtain ⟨rr, hrr⟩ : ∃ rr, (if bd then (1 : Int) else 0) = rr := ⟨_, rfl⟩
 have HRR := Lib.hid hrr
 rw [hbd, h2, hrr]
 clear hl ih h2 k2 k3 e1 b1 hbd s1 hrr
 go_enter Tryz.func80, Tryz.ntmps80
 go_wp2_with fail
 rw [HE.out]
 go_wp2_with fail
 have hcall := all_calls cap HL.out (by rw [H2.out]; decide) s HI.out HBD.out
 rw [H2.out] at hcall
 refine hcall.mono ?_
 clear hcall
 rintro e w2 ⟨rfl, hb2⟩
 go_wp2_with fail
 refine (when_calls bd 1 HRR.out _).mono ?_
 rintro e w3 ⟨rfl, rfl⟩
 go_wp2_with fail
 go_ret
 exact ⟨rfl, B1.out.trans (hb2.mono B1.out.size)⟩
theorem more_k24 {s : Cr → Int} {l : List Cr} (h2 : l.length = 2) (hl : LiesL w at_ 0 l) (ih : ∀ k ∈ l, SortC rw rc rl k (s k)) :
  Calls Tryz.prog 80 #[.agg #[.int .i64 rw, .int .i64 rc, .int .i64 rl], .agg #[.int .i64 24, .int .i64 0, .int .i64 0, .slice at_ l.length cap]] w fun e w' => e = .returned (.int .i64 (if l.all (fun k => s k == 1) then 1 else 0)) ∧ Below w.heap.size w w' := by
 obtain ⟨w1, e1, b1, k2, k3, s1⟩ := box2 w (.cells #[.int .i64 rw, .int .i64 rc, .int .i64 rl] 87) (.cells #[.int .i64 24, .int .i64 0, .int .i64 0, .slice at_ 2 cap] 24)
 have HE := Lib.hid e1
 have B1 := Lib.hid b1
 have HL := Lib.hid (hl.below b1)
 have HI := Lib.hid ih
 have H2 := Lib.hid h2
 obtain ⟨c0, c1, c2, c3⟩ := core_cells k3
 obtain ⟨r0, r1, r2⟩ := room_cells k2
 obtain ⟨bd, hbd⟩ : ∃ bd, (l.all fun k => s k == 1) = bd := ⟨_, rfl⟩
 have HBD := Lib.hid hbd
 obtain ⟨rr, hrr⟩ : ∃ rr, (if bd then (1 : Int) else 0) = rr := ⟨_, rfl⟩
 have HRR := Lib.hid hrr
 rw [hbd, h2, hrr]
 clear hl ih h2 k2 k3 e1 b1 hbd s1 hrr
 go_enter Tryz.func80, Tryz.ntmps80
 go_wp2_with fail
 rw [HE.out]
 go_wp2_with fail
 have hcall := all_calls cap HL.out (by rw [H2.out]; decide) s HI.out HBD.out
 rw [H2.out] at hcall
 refine hcall.mono ?_
 clear hcall
 rintro e w2 ⟨rfl, hb2⟩
 go_wp2_with fail
 refine (when_calls bd 1 HRR.out _).mono ?_
 rintro e w3 ⟨rfl, rfl⟩
 go_wp2_with fail
 go_ret
 exact ⟨rfl, B1.out.trans (hb2.mono B1.out.size)⟩
theorem more_k18 {s : Cr → Int} {l : List Cr} (h2 : l.length = 2) (hl : LiesL w at_ 0 l) (ih : ∀ k ∈ l, SortC rw rc rl k (s k)) :
  Calls Tryz.prog 80 #[.agg #[.int .i64 rw, .int .i64 rc, .int .i64 rl], .agg #[.int .i64 18, .int .i64 0, .int .i64 0, .slice at_ l.length cap]] w fun e w' => e = .returned (.int .i64 (if l.all (fun k => s k == 1) then 2 else 0)) ∧ Below w.heap.size w w' := by
 obtain ⟨w1, e1, b1, k2, k3, s1⟩ := box2 w (.cells #[.int .i64 rw, .int .i64 rc, .int .i64 rl] 87) (.cells #[.int .i64 18, .int .i64 0, .int .i64 0, .slice at_ 2 cap] 24)
 have HE := Lib.hid e1
 have B1 := Lib.hid b1
 have HL := Lib.hid (hl.below b1)
 have HI := Lib.hid ih
 have H2 := Lib.hid h2
 obtain ⟨c0, c1, c2, c3⟩ := core_cells k3
 obtain ⟨r0, r1, r2⟩ := room_cells k2
 obtain ⟨bd, hbd⟩ : ∃ bd, (l.all fun k => s k == 1) = bd := ⟨_, rfl⟩
 have HBD := Lib.hid hbd
 obtain ⟨rr, hrr⟩ : ∃ rr, (if bd then (2 : Int) else 0) = rr := ⟨_, rfl⟩
 have HRR := Lib.hid hrr
 rw [hbd, h2, hrr]
 clear hl ih h2 k2 k3 e1 b1 hbd s1 hrr
 go_enter Tryz.func80, Tryz.ntmps80
 go_wp2_with fail
 rw [HE.out]
 go_wp2_with fail
 have hcall := all_calls cap HL.out (by rw [H2.out]; decide) s HI.out HBD.out
 rw [H2.out] at hcall
 refine hcall.mono ?_
 clear hcall
 rintro e w2 ⟨rfl, hb2⟩
 go_wp2_with fail
 refine (when_calls bd 2 HRR.out _).mono ?_
 rintro e w3 ⟨rfl, rfl⟩
 go_wp2_with fail
 go_ret
 exact ⟨rfl, B1.out.trans (hb2.mono B1.out.size)⟩
theorem more_k19 {s : Cr → Int} {l : List Cr} (h2 : l.length = 2) (hl : LiesL w at_ 0 l) (ih : ∀ k ∈ l, SortC rw rc rl k (s k)) :
  Calls Tryz.prog 80 #[.agg #[.int .i64 rw, .int .i64 rc, .int .i64 rl], .agg #[.int .i64 19, .int .i64 0, .int .i64 0, .slice at_ l.length cap]] w fun e w' => e = .returned (.int .i64 (if l.all (fun k => s k == 1) then 2 else 0)) ∧ Below w.heap.size w w' := by
 obtain ⟨w1, e1, b1, k2, k3, s1⟩ := box2 w (.cells #[.int .i64 rw, .int .i64 rc, .int .i64 rl] 87) (.cells #[.int .i64 19, .int .i64 0, .int .i64 0, .slice at_ 2 cap] 24)
 have HE := Lib.hid e1
 have B1 := Lib.hid b1
 have HL := Lib.hid (hl.below b1)
 have HI := Lib.hid ih
 have H2 := Lib.hid h2
 obtain ⟨c0, c1, c2, c3⟩ := core_cells k3
 obtain ⟨r0, r1, r2⟩ := room_cells k2
 obtain ⟨bd, hbd⟩ : ∃ bd, (l.all fun k => s k == 1) = bd := ⟨_, rfl⟩
 have HBD := Lib.hid hbd
 obtain ⟨rr, hrr⟩ : ∃ rr, (if bd then (2 : Int) else 0) = rr := ⟨_, rfl⟩
 have HRR := Lib.hid hrr
 rw [hbd, h2, hrr]
 clear hl ih h2 k2 k3 e1 b1 hbd s1 hrr
 go_enter Tryz.func80, Tryz.ntmps80
 go_wp2_with fail
 rw [HE.out]
 go_wp2_with fail
 have hcall := all_calls cap HL.out (by rw [H2.out]; decide) s HI.out HBD.out
 rw [H2.out] at hcall
 refine hcall.mono ?_
 clear hcall
 rintro e w2 ⟨rfl, hb2⟩
 go_wp2_with fail
 refine (when_calls bd 2 HRR.out _).mono ?_
 rintro e w3 ⟨rfl, rfl⟩
 go_wp2_with fail
 go_ret
 exact ⟨rfl, B1.out.trans (hb2.mono B1.out.size)⟩
theorem more_k20 {s : Cr → Int} {l : List Cr} (h2 : l.length = 2) (hl : LiesL w at_ 0 l) (ih : ∀ k ∈ l, SortC rw rc rl k (s k)) :
  Calls Tryz.prog 80 #[.agg #[.int .i64 rw, .int .i64 rc, .int .i64 rl], .agg #[.int .i64 20, .int .i64 0, .int .i64 0, .slice at_ l.length cap]] w fun e w' => e = .returned (.int .i64 (if l.all (fun k => s k == 1) then 2 else 0)) ∧ Below w.heap.size w w' := by
 obtain ⟨w1, e1, b1, k2, k3, s1⟩ := box2 w (.cells #[.int .i64 rw, .int .i64 rc, .int .i64 rl] 87) (.cells #[.int .i64 20, .int .i64 0, .int .i64 0, .slice at_ 2 cap] 24)
 have HE := Lib.hid e1
 have B1 := Lib.hid b1
 have HL := Lib.hid (hl.below b1)
 have HI := Lib.hid ih
 have H2 := Lib.hid h2
 obtain ⟨c0, c1, c2, c3⟩ := core_cells k3
 obtain ⟨r0, r1, r2⟩ := room_cells k2
 obtain ⟨bd, hbd⟩ : ∃ bd, (l.all fun k => s k == 1) = bd := ⟨_, rfl⟩
 have HBD := Lib.hid hbd
 obtain ⟨rr, hrr⟩ : ∃ rr, (if bd then (2 : Int) else 0) = rr := ⟨_, rfl⟩
 have HRR := Lib.hid hrr
 rw [hbd, h2, hrr]
 clear hl ih h2 k2 k3 e1 b1 hbd s1 hrr
 go_enter Tryz.func80, Tryz.ntmps80
 go_wp2_with fail
 rw [HE.out]
 go_wp2_with fail
 have hcall := all_calls cap HL.out (by rw [H2.out]; decide) s HI.out HBD.out
 rw [H2.out] at hcall
 refine hcall.mono ?_
 clear hcall
 rintro e w2 ⟨rfl, hb2⟩
 go_wp2_with fail
 refine (when_calls bd 2 HRR.out _).mono ?_
 rintro e w3 ⟨rfl, rfl⟩
 go_wp2_with fail
 go_ret
 exact ⟨rfl, B1.out.trans (hb2.mono B1.out.size)⟩
theorem more_k21 {s : Cr → Int} {l : List Cr} (h2 : l.length = 2) (hl : LiesL w at_ 0 l) (ih : ∀ k ∈ l, SortC rw rc rl k (s k)) :
  Calls Tryz.prog 80 #[.agg #[.int .i64 rw, .int .i64 rc, .int .i64 rl], .agg #[.int .i64 21, .int .i64 0, .int .i64 0, .slice at_ l.length cap]] w fun e w' => e = .returned (.int .i64 (if l.all (fun k => s k == 1) then 2 else 0)) ∧ Below w.heap.size w w' := by
 obtain ⟨w1, e1, b1, k2, k3, s1⟩ := box2 w (.cells #[.int .i64 rw, .int .i64 rc, .int .i64 rl] 87) (.cells #[.int .i64 21, .int .i64 0, .int .i64 0, .slice at_ 2 cap] 24)
 have HE := Lib.hid e1
 have B1 := Lib.hid b1
 have HL := Lib.hid (hl.below b1)
 have HI := Lib.hid ih
 have H2 := Lib.hid h2
 obtain ⟨c0, c1, c2, c3⟩ := core_cells k3
 obtain ⟨r0, r1, r2⟩ := room_cells k2
 obtain ⟨bd, hbd⟩ : ∃ bd, (l.all fun k => s k == 1) = bd := ⟨_, rfl⟩
 have HBD := Lib.hid hbd
 obtain ⟨rr, hrr⟩ : ∃ rr, (if bd then (2 : Int) else 0) = rr := ⟨_, rfl⟩
 have HRR := Lib.hid hrr
 rw [hbd, h2, hrr]
 clear hl ih h2 k2 k3 e1 b1 hbd s1 hrr
 go_enter Tryz.func80, Tryz.ntmps80
 go_wp2_with fail
 rw [HE.out]
 go_wp2_with fail
 have hcall := all_calls cap HL.out (by rw [H2.out]; decide) s HI.out HBD.out
 rw [H2.out] at hcall
 refine hcall.mono ?_
 clear hcall
 rintro e w2 ⟨rfl, hb2⟩
 go_wp2_with fail
 refine (when_calls bd 2 HRR.out _).mono ?_
 rintro e w3 ⟨rfl, rfl⟩
 go_wp2_with fail
 go_ret
 exact ⟨rfl, B1.out.trans (hb2.mono B1.out.size)⟩
theorem more_k22 {s : Cr → Int} {l : List Cr} (h2 : l.length = 2) (hl : LiesL w at_ 0 l) (ih : ∀ k ∈ l, SortC rw rc rl k (s k)) :
  Calls Tryz.prog 80 #[.agg #[.int .i64 rw, .int .i64 rc, .int .i64 rl], .agg #[.int .i64 22, .int .i64 0, .int .i64 0, .slice at_ l.length cap]] w fun e w' => e = .returned (.int .i64 (if l.all (fun k => s k == 1) then 2 else 0)) ∧ Below w.heap.size w w' := by
 obtain ⟨w1, e1, b1, k2, k3, s1⟩ := box2 w (.cells #[.int .i64 rw, .int .i64 rc, .int .i64 rl] 87) (.cells #[.int .i64 22, .int .i64 0, .int .i64 0, .slice at_ 2 cap] 24)
 have HE := Lib.hid e1
 have B1 := Lib.hid b1
 have HL := Lib.hid (hl.below b1)
 have HI := Lib.hid ih
 have H2 := Lib.hid h2
 obtain ⟨c0, c1, c2, c3⟩ := core_cells k3
 obtain ⟨r0, r1, r2⟩ := room_cells k2
 obtain ⟨bd, hbd⟩ : ∃ bd, (l.all fun k => s k == 1) = bd := ⟨_, rfl⟩
 have HBD := Lib.hid hbd
 obtain ⟨rr, hrr⟩ : ∃ rr, (if bd then (2 : Int) else 0) = rr := ⟨_, rfl⟩
 have HRR := Lib.hid hrr
 rw [hbd, h2, hrr]
 clear hl ih h2 k2 k3 e1 b1 hbd s1 hrr
 go_enter Tryz.func80, Tryz.ntmps80
 go_wp2_with fail
 rw [HE.out]
 go_wp2_with fail
 have hcall := all_calls cap HL.out (by rw [H2.out]; decide) s HI.out HBD.out
 rw [H2.out] at hcall
 refine hcall.mono ?_
 clear hcall
 rintro e w2 ⟨rfl, hb2⟩
 go_wp2_with fail
 refine (when_calls bd 2 HRR.out _).mono ?_
 rintro e w3 ⟨rfl, rfl⟩
 go_wp2_with fail
 go_ret
 exact ⟨rfl, B1.out.trans (hb2.mono B1.out.size)⟩
theorem more_k25 {s : Cr → Int} {l : List Cr} (h2 : l.length = 2) (hl : LiesL w at_ 0 l) (ih : ∀ k ∈ l, SortC rw rc rl k (s k)) :
  Calls Tryz.prog 80 #[.agg #[.int .i64 rw, .int .i64 rc, .int .i64 rl], .agg #[.int .i64 25, .int .i64 0, .int .i64 0, .slice at_ l.length cap]] w fun e w' => e = .returned (.int .i64 (if l.all (fun k => s k == 2) then 2 else 0)) ∧ Below w.heap.size w w' := by
 obtain ⟨w1, e1, b1, k2, k3, s1⟩ := box2 w (.cells #[.int .i64 rw, .int .i64 rc, .int .i64 rl] 87) (.cells #[.int .i64 25, .int .i64 0, .int .i64 0, .slice at_ 2 cap] 24)
 have HE := Lib.hid e1
 have B1 := Lib.hid b1
 have HL := Lib.hid (hl.below b1)
 have HI := Lib.hid ih
 have H2 := Lib.hid h2
 obtain ⟨c0, c1, c2, c3⟩ := core_cells k3
 obtain ⟨r0, r1, r2⟩ := room_cells k2
 obtain ⟨bd, hbd⟩ : ∃ bd, (l.all fun k => s k == 2) = bd := ⟨_, rfl⟩
 have HBD := Lib.hid hbd
 obtain ⟨rr, hrr⟩ : ∃ rr, (if bd then (2 : Int) else 0) = rr := ⟨_, rfl⟩
 have HRR := Lib.hid hrr
 rw [hbd, h2, hrr]
 clear hl ih h2 k2 k3 e1 b1 hbd s1 hrr
 go_enter Tryz.func80, Tryz.ntmps80
 go_wp2_with fail
 rw [HE.out]
 go_wp2_with fail
 have hcall := all_calls cap HL.out (by rw [H2.out]; decide) s HI.out HBD.out
 rw [H2.out] at hcall
 refine hcall.mono ?_
 clear hcall
 rintro e w2 ⟨rfl, hb2⟩
 go_wp2_with fail
 refine (when_calls bd 2 HRR.out _).mono ?_
 rintro e w3 ⟨rfl, rfl⟩
 go_wp2_with fail
 go_ret
 exact ⟨rfl, B1.out.trans (hb2.mono B1.out.size)⟩
theorem more_k26 {s : Cr → Int} {l : List Cr} (h2 : l.length = 2) (hl : LiesL w at_ 0 l) (ih : ∀ k ∈ l, SortC rw rc rl k (s k)) :
  Calls Tryz.prog 80 #[.agg #[.int .i64 rw, .int .i64 rc, .int .i64 rl], .agg #[.int .i64 26, .int .i64 0, .int .i64 0, .slice at_ l.length cap]] w fun e w' => e = .returned (.int .i64 (if l.all (fun k => s k == 2) then 2 else 0)) ∧ Below w.heap.size w w' := by
 obtain ⟨w1, e1, b1, k2, k3, s1⟩ := box2 w (.cells #[.int .i64 rw, .int .i64 rc, .int .i64 rl] 87) (.cells #[.int .i64 26, .int .i64 0, .int .i64 0, .slice at_ 2 cap] 24)
 have HE := Lib.hid e1
 have B1 := Lib.hid b1
 have HL := Lib.hid (hl.below b1)
 have HI := Lib.hid ih
 have H2 := Lib.hid h2
 obtain ⟨c0, c1, c2, c3⟩ := core_cells k3
 obtain ⟨r0, r1, r2⟩ := room_cells k2
 obtain ⟨bd, hbd⟩ : ∃ bd, (l.all fun k => s k == 2) = bd := ⟨_, rfl⟩
 have HBD := Lib.hid hbd
 obtain ⟨rr, hrr⟩ : ∃ rr, (if bd then (2 : Int) else 0) = rr := ⟨_, rfl⟩
 have HRR := Lib.hid hrr
 rw [hbd, h2, hrr]
 clear hl ih h2 k2 k3 e1 b1 hbd s1 hrr
 go_enter Tryz.func80, Tryz.ntmps80
 go_wp2_with fail
 rw [HE.out]
 go_wp2_with fail
 have hcall := all_calls cap HL.out (by rw [H2.out]; decide) s HI.out HBD.out
 rw [H2.out] at hcall
 refine hcall.mono ?_
 clear hcall
 rintro e w2 ⟨rfl, hb2⟩
 go_wp2_with fail
 refine (when_calls bd 2 HRR.out _).mono ?_
 rintro e w3 ⟨rfl, rfl⟩
 go_wp2_with fail
 go_ret
 exact ⟨rfl, B1.out.trans (hb2.mono B1.out.size)⟩
end
end Go.Proofs.YtpljkcakijkklaaGreatDoor

end
section
namespace Go.Proofs.YtpljkcakijkklaaGreatDoor
set_option linter.unusedVariables false
set_option linter.unusedSimpArgs false
open Go.RowKit Go.Proofs.YtpljkcakijkklaaGreatDoorW.PrintWords Go.Proofs.YtpljkcakijkklaaGreatDoorW.PrintLast Go.Proofs.YtpljkcakijkklaaGreatDoorW.PrintMore

section
variable {rw rc rl : Int} {p : Addr} {cap : Nat} {w : World}
theorem all_one {sort v : Int} {A : Option Addr} {k : Cr} (c : Nat) (hl : LiesL w A 0 [k]) (hk : SortC rw rc rl k v) {b : Bool} (hb : (v == sort) = b) :
  Calls Tryz.prog 37 #[.agg #[.int .i64 rw, .int .i64 rc, .int .i64 rl], .int .i64 sort, .slice A 1 c] w fun e w' => e = .returned (.bool b) ∧ Below w.heap.size w w' :=
 all_calls c hl (by simp) (fun _ => v) (fun k' hk' => by rw [List.mem_singleton.1 hk']; exact hk) (by simpa using hb)
theorem more_if_f {va vb vc : Int} {ka kb kc : Cr} (hl : LiesL w (some p) 0 [ka, kb, kc]) (ihka : SortC rw rc rl ka va) (ihkb : SortC rw rc rl kb vb) (ihkc : SortC rw rc rl kc vc) (h1 : ¬ va = 2) :
  Calls Tryz.prog 80 #[.agg #[.int .i64 rw, .int .i64 rc, .int .i64 rl], .agg #[.int .i64 28, .int .i64 0, .int .i64 0, .slice (some p) 3 cap]] w fun e w' => e = .returned (.int .i64 (0)) ∧ Below w.heap.size w w' := by
 obtain ⟨w1, e1, b1, k2, k3, s1⟩ := box2 w (.cells #[.int .i64 rw, .int .i64 rc, .int .i64 rl] 87) (.cells #[.int .i64 28, .int .i64 0, .int .i64 0, .slice (some p) 3 cap] 24)
 have hl1 := hl.below b1
 have HC := Lib.hid fun (w' : World) (hb : Below w1.heap.size w1 w') => (show ((w'.cell? ⟨w.heap.size, 0, none⟩ = some (.int .i64 rw) ∧ w'.cell? ⟨w.heap.size, 1, none⟩ = some (.int .i64 rc) ∧ w'.cell? ⟨w.heap.size, 2, none⟩ = some (.int .i64 rl)) ∧
   (w'.cell? ⟨w.heap.size + 1, 0, none⟩ = some (.int .i64 28) ∧ w'.cell? ⟨w.heap.size + 1, 1, none⟩ = some (.int .i64 0) ∧ w'.cell? ⟨w.heap.size + 1, 2, none⟩ = some (.int .i64 0) ∧ w'.cell? ⟨w.heap.size + 1, 3, none⟩ = some (.slice (some p) 3 cap)) ∧
   (w'.cell? p = some (.int .i64 ka.op) ∧ w'.cell? ⟨p.block, p.off + 1, none⟩ = some (.int .i64 ka.n) ∧ w'.cell? ⟨p.block, p.off + 2, none⟩ = some (.int .i64 ka.m) ∧ w'.cell? ⟨p.block, p.off + 3, none⟩ = some (.slice ka.at_ ka.kids.length ka.cap)) ∧ (w'.cell? ⟨p.block, p.off + 4, none⟩ = some (.int .i64 kb.op) ∧ w'.cell? ⟨p.block, p.off + 4 + 1, none⟩ = some (.int .i64 kb.n) ∧ w'.cell? ⟨p.block, p.off + 4 + 2, none⟩ = some (.int .i64 kb.m) ∧ w'.cell? ⟨p.block, p.off + 4 + 3, none⟩ = some (.slice kb.at_ kb.kids.length kb.cap)) ∧ (w'.cell? ⟨p.block, p.off + 8, none⟩ = some (.int .i64 kc.op) ∧ w'.cell? ⟨p.block, p.off + 8 + 1, none⟩ = some (.int .i64 kc.n) ∧ w'.cell? ⟨p.block, p.off + 8 + 2, none⟩ = some (.int .i64 kc.m) ∧ w'.cell? ⟨p.block, p.off + 8 + 3, none⟩ = some (.slice kc.at_ kc.kids.length kc.cap))) from
  ⟨room_cells (blk_below k2 hb), core_cells (blk_below k3 hb), hl1.lit0 hb rfl, hl1.lit hb 0 rfl, hl1.lit hb 1 rfl⟩)
 have Lka := Lib.hid (LiesL.lies hl1 (k := ka) (by simp))
 have Kka := Lib.hid ihka
 have Lkb := Lib.hid (LiesL.lies hl1 (k := kb) (by simp))
 have Kkb := Lib.hid ihkb
 have Lkc := Lib.hid (LiesL.lies hl1 (k := kc) (by simp))
 have Kkc := Lib.hid ihkc
 have HE := Lib.hid e1
 have B1 := Lib.hid b1
 have HL := Lib.hid hl1
 obtain ⟨⟨y0, y1, y2⟩, ⟨x0, x1, x2, x3⟩, -⟩ := HC.out w1 (Below.refl _ _)
 clear hl hl1 k2 k3 e1 b1 s1 ihka ihkb ihkc
 have HA := Lib.hid (show (va == 2) = false by simp [h1])
 have HRR := Lib.hid (show (if false then vb else 0) = 0 from rfl)
 clear h1
 go_enter Tryz.func80, Tryz.ntmps80
 go_wp2_with fail
 rw [HE.out]
 go_wp2_with fail
 clear y0 y1 y2 x0 x1 x2 x3
 refine wp_region_held_drew (S := fun w' => Aside0 (Below w1.heap.size w1 w')) (by kernel_rfl) ?_ (fun hHeld => ?_)
 ·exact ⟨(Below.refl _ _).drew⟩
 generalize World.drew _ = wDa at hHeld ⊢
 have HCr := HC
 refine' tk 0 ?_
 try simp only [pt]
 refine' tk 1 ?_
 try simp only [pt]
 refine' tk 2 ?_
 try simp only [pt]
 refine' tk 3 ?_
 try simp only [pt]
 refine' tk 4 ?_
 try simp only [pt]
 refine' cm 5 (fun K hK => ?_)
 go_simp
 refine (Kkb.out _ (Lkb.out.below hHeld.out)).mono ?_
 rintro e w7 ⟨rfl, hb2⟩
 refine hK.out _ _ ⟨hHeld.out.trans (hb2.mono hHeld.out.size)⟩ (fun hHeld => ?_)
 clear hK K
 try simp only [pt]
 refine' tk 6 ?_
 try simp only [pt]
 refine wpAnyH_done (by kernel_rfl) ?_ _
 obtain ⟨⟨y0, y1, y2⟩, ⟨x0, x1, x2, x3⟩, -⟩ := HC.out _ hHeld.out
 go_wp2_with fail
 clear y0 y1 y2 x0 x1 x2 x3
 refine wp_region_held_drew (S := fun w' => Aside0 (Below w1.heap.size w1 w')) (by kernel_rfl) ?_ (fun hHeld => ?_)
 ·exact ⟨hHeld.out.drew⟩
 generalize World.drew _ = wDb at hHeld ⊢
 have HCr := HC
 refine' tk 0 ?_
 try simp only [pt]
 refine' tk 1 ?_
 try simp only [pt]
 refine' tk 2 ?_
 try simp only [pt]
 refine' tk 3 ?_
 try simp only [pt]
 refine' tk 4 ?_
 try simp only [pt]
 refine' tk 25 ?_
 try simp only [pt]
 refine' cm 5 (fun K hK => ?_)
 go_simp
 have hHeld0 := hHeld
 refine hK.out _ _ ⟨hHeld.out.alloc hHeld.out.size _⟩ (fun hHeld => ?_)
 clear hK K
 try simp only [pt]
 refine' cm 6 (fun K hK => ?_)
 go_simp
 refine (all_one _ (liesL_new (Lka.out.below hHeld0.out)) Kka.out HA.out).mono ?_
 rintro e w7 ⟨rfl, hb2⟩
 refine hK.out _ _ ⟨hHeld.out.trans (hb2.mono hHeld.out.size)⟩ (fun hHeld => ?_)
 clear hK K
 try simp only [pt]
 refine' tk 7 ?_
 try simp only [pt]
 refine' tn 8 ?_
 try simp only [pt]
 refine' tn 9 ?_
 try simp only [pt]
 refine' tn 10 ?_
 try simp only [pt]
 refine' tn 11 ?_
 try simp only [pt]
 refine' tn 12 ?_
 try simp only [pt]
 refine' tn 13 ?_
 try simp only [pt]
 refine' tk 14 ?_
 try simp only [pt]
 refine' tk 15 ?_
 try simp only [pt]
 refine' tn 16 ?_
 try simp only [pt]
 refine' tn 17 ?_
 try simp only [pt]
 refine' tn 18 ?_
 try simp only [pt]
 refine' tn 19 ?_
 try simp only [pt]
 refine' tn 20 ?_
 try simp only [pt]
 refine' tn 21 ?_
 try simp only [pt]
 refine' tn 22 ?_
 try simp only [pt]
 refine' tn 23 ?_
 try simp only [pt]
 refine' tk 24 ?_
 try simp only [pt]
 refine' cm 26 (fun K hK => ?_)
 go_simp
 refine (when_calls false _ HRR.out _).mono ?_
 rintro e w8 ⟨rfl, rfl⟩
 refine hK.out _ _ ⟨hHeld.out⟩ (fun hHeld => ?_)
 clear hK K
 try simp only [pt]
 refine' tk 27 ?_
 try simp only [pt]
 refine wpAnyH_done (by kernel_rfl) ?_ _
 go_wp2_with fail
 go_ret
 exact ⟨by first | rfl | simp, B1.out.trans (hHeld.out.mono B1.out.size)⟩
theorem more_if_1 {va vb vc : Int} {ka kb kc : Cr} (hl : LiesL w (some p) 0 [ka, kb, kc]) (ihka : SortC rw rc rl ka va) (ihkb : SortC rw rc rl kb vb) (ihkc : SortC rw rc rl kc vc) (h1 : va = 2) (h2 : vb = 1) {bc : Bool} (h3 : (vc == 1) = bc) {r : Int} (h4 : (if bc then (1 : Int) else 0) = r) :
  Calls Tryz.prog 80 #[.agg #[.int .i64 rw, .int .i64 rc, .int .i64 rl], .agg #[.int .i64 28, .int .i64 0, .int .i64 0, .slice (some p) 3 cap]] w fun e w' => e = .returned (.int .i64 (r)) ∧ Below w.heap.size w w' := by
 obtain ⟨w1, e1, b1, k2, k3, s1⟩ := box2 w (.cells #[.int .i64 rw, .int .i64 rc, .int .i64 rl] 87) (.cells #[.int .i64 28, .int .i64 0, .int .i64 0, .slice (some p) 3 cap] 24)
 have hl1 := hl.below b1
 have HC := Lib.hid fun (w' : World) (hb : Below w1.heap.size w1 w') => (show ((w'.cell? ⟨w.heap.size, 0, none⟩ = some (.int .i64 rw) ∧ w'.cell? ⟨w.heap.size, 1, none⟩ = some (.int .i64 rc) ∧ w'.cell? ⟨w.heap.size, 2, none⟩ = some (.int .i64 rl)) ∧
   (w'.cell? ⟨w.heap.size + 1, 0, none⟩ = some (.int .i64 28) ∧ w'.cell? ⟨w.heap.size + 1, 1, none⟩ = some (.int .i64 0) ∧ w'.cell? ⟨w.heap.size + 1, 2, none⟩ = some (.int .i64 0) ∧ w'.cell? ⟨w.heap.size + 1, 3, none⟩ = some (.slice (some p) 3 cap)) ∧
   (w'.cell? p = some (.int .i64 ka.op) ∧ w'.cell? ⟨p.block, p.off + 1, none⟩ = some (.int .i64 ka.n) ∧ w'.cell? ⟨p.block, p.off + 2, none⟩ = some (.int .i64 ka.m) ∧ w'.cell? ⟨p.block, p.off + 3, none⟩ = some (.slice ka.at_ ka.kids.length ka.cap)) ∧ (w'.cell? ⟨p.block, p.off + 4, none⟩ = some (.int .i64 kb.op) ∧ w'.cell? ⟨p.block, p.off + 4 + 1, none⟩ = some (.int .i64 kb.n) ∧ w'.cell? ⟨p.block, p.off + 4 + 2, none⟩ = some (.int .i64 kb.m) ∧ w'.cell? ⟨p.block, p.off + 4 + 3, none⟩ = some (.slice kb.at_ kb.kids.length kb.cap)) ∧ (w'.cell? ⟨p.block, p.off + 8, none⟩ = some (.int .i64 kc.op) ∧ w'.cell? ⟨p.block, p.off + 8 + 1, none⟩ = some (.int .i64 kc.n) ∧ w'.cell? ⟨p.block, p.off + 8 + 2, none⟩ = some (.int .i64 kc.m) ∧ w'.cell? ⟨p.block, p.off + 8 + 3, none⟩ = some (.slice kc.at_ kc.kids.length kc.cap))) from
  ⟨room_cells (blk_below k2 hb), core_cells (blk_below k3 hb), hl1.lit0 hb rfl, hl1.lit hb 0 rfl, hl1.lit hb 1 rfl⟩)
 have Lka := Lib.hid (LiesL.lies hl1 (k := ka) (by simp))
 have Kka := Lib.hid ihka
 have Lkb := Lib.hid (LiesL.lies hl1 (k := kb) (by simp))
 have Kkb := Lib.hid ihkb
 have Lkc := Lib.hid (LiesL.lies hl1 (k := kc) (by simp))
 have Kkc := Lib.hid ihkc
 have HE := Lib.hid e1
 have B1 := Lib.hid b1
 have HL := Lib.hid hl1
 obtain ⟨⟨y0, y1, y2⟩, ⟨x0, x1, x2, x3⟩, -⟩ := HC.out w1 (Below.refl _ _)
 clear hl hl1 k2 k3 e1 b1 s1 ihka ihkb ihkc
 have HA := Lib.hid (show (va == 2) = true by simp [h1])
 subst h2
 have HBC := Lib.hid h3
 have HRR := Lib.hid h4
 clear h1 h3 h4
 go_enter Tryz.func80, Tryz.ntmps80
 go_wp2_with fail
 rw [HE.out]
 go_wp2_with fail
 clear y0 y1 y2 x0 x1 x2 x3
 refine wp_region_held_drew (S := fun w' => Aside0 (Below w1.heap.size w1 w')) (by kernel_rfl) ?_ (fun hHeld => ?_)
 ·exact ⟨(Below.refl _ _).drew⟩
 generalize World.drew _ = wDa at hHeld ⊢
 have HCr := HC
 refine' tk 0 ?_
 try simp only [pt]
 refine' tk 1 ?_
 try simp only [pt]
 refine' tk 2 ?_
 try simp only [pt]
 refine' tk 3 ?_
 try simp only [pt]
 refine' tk 4 ?_
 try simp only [pt]
 refine' cm 5 (fun K hK => ?_)
 go_simp
 refine (Kkb.out _ (Lkb.out.below hHeld.out)).mono ?_
 rintro e w7 ⟨rfl, hb2⟩
 refine hK.out _ _ ⟨hHeld.out.trans (hb2.mono hHeld.out.size)⟩ (fun hHeld => ?_)
 clear hK K
 try simp only [pt]
 refine' tk 6 ?_
 try simp only [pt]
 refine wpAnyH_done (by kernel_rfl) ?_ _
 obtain ⟨⟨y0, y1, y2⟩, ⟨x0, x1, x2, x3⟩, -⟩ := HC.out _ hHeld.out
 go_wp2_with fail
 clear y0 y1 y2 x0 x1 x2 x3
 refine wp_region_held_drew (S := fun w' => Aside0 (Below w1.heap.size w1 w')) (by kernel_rfl) ?_ (fun hHeld => ?_)
 ·exact ⟨hHeld.out.drew⟩
 generalize World.drew _ = wDb at hHeld ⊢
 have HCr := HC
 refine' tk 0 ?_
 try simp only [pt]
 refine' tk 1 ?_
 try simp only [pt]
 refine' tk 2 ?_
 try simp only [pt]
 refine' tk 3 ?_
 try simp only [pt]
 refine' tk 4 ?_
 try simp only [pt]
 refine' tk 25 ?_
 try simp only [pt]
 refine' cm 5 (fun K hK => ?_)
 go_simp
 have hHeld0 := hHeld
 refine hK.out _ _ ⟨hHeld.out.alloc hHeld.out.size _⟩ (fun hHeld => ?_)
 clear hK K
 try simp only [pt]
 refine' cm 6 (fun K hK => ?_)
 go_simp
 refine (all_one _ (liesL_new (Lka.out.below hHeld0.out)) Kka.out HA.out).mono ?_
 rintro e w7 ⟨rfl, hb2⟩
 refine hK.out _ _ ⟨hHeld.out.trans (hb2.mono hHeld.out.size)⟩ (fun hHeld => ?_)
 clear hK K
 try simp only [pt]
 refine' tk 7 ?_
 try simp only [pt]
 refine' tk 8 ?_
 try simp only [pt]
 refine' tk 9 ?_
 try simp only [pt]
 refine' tk 10 ?_
 try simp only [pt]
 refine' tn 11 ?_
 try simp only [pt]
 refine' tn 12 ?_
 try simp only [pt]
 refine' tk 13 ?_
 try simp only [pt]
 refine' tk 14 ?_
 try simp only [pt]
 refine' tk 15 ?_
 try simp only [pt]
 refine' tk 16 ?_
 try simp only [pt]
 refine' tk 17 ?_
 try simp only [pt]
 refine' tk 18 ?_
 try simp only [pt]
 refine' tk 19 ?_
 try simp only [pt]
 refine' tk 20 ?_
 try simp only [pt]
 refine' tk 21 ?_
 try simp only [pt]
 refine' cm 22 (fun K hK => ?_)
 go_simp
 have hHeld0 := hHeld
 refine hK.out _ _ ⟨hHeld.out.alloc hHeld.out.size _⟩ (fun hHeld => ?_)
 clear hK K
 try simp only [pt]
 refine' cm 23 (fun K hK => ?_)
 go_simp
 refine (all_one _ (liesL_new (Lkc.out.below hHeld0.out)) Kkc.out HBC.out).mono ?_
 rintro e w7 ⟨rfl, hb2⟩
 refine hK.out _ _ ⟨hHeld.out.trans (hb2.mono hHeld.out.size)⟩ (fun hHeld => ?_)
 clear hK K
 try simp only [pt]
 refine' tk 24 ?_
 try simp only [pt]
 refine' cm 26 (fun K hK => ?_)
 go_simp
 refine (when_calls bc _ HRR.out _).mono ?_
 rintro e w8 ⟨rfl, rfl⟩
 refine hK.out _ _ ⟨hHeld.out⟩ (fun hHeld => ?_)
 clear hK K
 try simp only [pt]
 refine' tk 27 ?_
 try simp only [pt]
 refine wpAnyH_done (by kernel_rfl) ?_ _
 go_wp2_with fail
 go_ret
 exact ⟨by first | rfl | simp, B1.out.trans (hHeld.out.mono B1.out.size)⟩
theorem more_if_2 {va vb vc : Int} {ka kb kc : Cr} (hl : LiesL w (some p) 0 [ka, kb, kc]) (ihka : SortC rw rc rl ka va) (ihkb : SortC rw rc rl kb vb) (ihkc : SortC rw rc rl kc vc) (h1 : va = 2) (h2 : vb = 2) {bc : Bool} (h3 : (vc == 2) = bc) {r : Int} (h4 : (if bc then (2 : Int) else 0) = r) :
  Calls Tryz.prog 80 #[.agg #[.int .i64 rw, .int .i64 rc, .int .i64 rl], .agg #[.int .i64 28, .int .i64 0, .int .i64 0, .slice (some p) 3 cap]] w fun e w' => e = .returned (.int .i64 (r)) ∧ Below w.heap.size w w' := by
 obtain ⟨w1, e1, b1, k2, k3, s1⟩ := box2 w (.cells #[.int .i64 rw, .int .i64 rc, .int .i64 rl] 87) (.cells #[.int .i64 28, .int .i64 0, .int .i64 0, .slice (some p) 3 cap] 24)
 have hl1 := hl.below b1
 have HC := Lib.hid fun (w' : World) (hb : Below w1.heap.size w1 w') => (show ((w'.cell? ⟨w.heap.size, 0, none⟩ = some (.int .i64 rw) ∧ w'.cell? ⟨w.heap.size, 1, none⟩ = some (.int .i64 rc) ∧ w'.cell? ⟨w.heap.size, 2, none⟩ = some (.int .i64 rl)) ∧
   (w'.cell? ⟨w.heap.size + 1, 0, none⟩ = some (.int .i64 28) ∧ w'.cell? ⟨w.heap.size + 1, 1, none⟩ = some (.int .i64 0) ∧ w'.cell? ⟨w.heap.size + 1, 2, none⟩ = some (.int .i64 0) ∧ w'.cell? ⟨w.heap.size + 1, 3, none⟩ = some (.slice (some p) 3 cap)) ∧
   (w'.cell? p = some (.int .i64 ka.op) ∧ w'.cell? ⟨p.block, p.off + 1, none⟩ = some (.int .i64 ka.n) ∧ w'.cell? ⟨p.block, p.off + 2, none⟩ = some (.int .i64 ka.m) ∧ w'.cell? ⟨p.block, p.off + 3, none⟩ = some (.slice ka.at_ ka.kids.length ka.cap)) ∧ (w'.cell? ⟨p.block, p.off + 4, none⟩ = some (.int .i64 kb.op) ∧ w'.cell? ⟨p.block, p.off + 4 + 1, none⟩ = some (.int .i64 kb.n) ∧ w'.cell? ⟨p.block, p.off + 4 + 2, none⟩ = some (.int .i64 kb.m) ∧ w'.cell? ⟨p.block, p.off + 4 + 3, none⟩ = some (.slice kb.at_ kb.kids.length kb.cap)) ∧ (w'.cell? ⟨p.block, p.off + 8, none⟩ = some (.int .i64 kc.op) ∧ w'.cell? ⟨p.block, p.off + 8 + 1, none⟩ = some (.int .i64 kc.n) ∧ w'.cell? ⟨p.block, p.off + 8 + 2, none⟩ = some (.int .i64 kc.m) ∧ w'.cell? ⟨p.block, p.off + 8 + 3, none⟩ = some (.slice kc.at_ kc.kids.length kc.cap))) from
  ⟨room_cells (blk_below k2 hb), core_cells (blk_below k3 hb), hl1.lit0 hb rfl, hl1.lit hb 0 rfl, hl1.lit hb 1 rfl⟩)
 have Lka := Lib.hid (LiesL.lies hl1 (k := ka) (by simp))
 have Kka := Lib.hid ihka
 have Lkb := Lib.hid (LiesL.lies hl1 (k := kb) (by simp))
 have Kkb := Lib.hid ihkb
 have Lkc := Lib.hid (LiesL.lies hl1 (k := kc) (by simp))
 have Kkc := Lib.hid ihkc
 have HE := Lib.hid e1
 have B1 := Lib.hid b1
 have HL := Lib.hid hl1
 obtain ⟨⟨y0, y1, y2⟩, ⟨x0, x1, x2, x3⟩, -⟩ := HC.out w1 (Below.refl _ _)
 clear hl hl1 k2 k3 e1 b1 s1 ihka ihkb ihkc
 have HA := Lib.hid (show (va == 2) = true by simp [h1])
 subst h2
 have HBC := Lib.hid h3
 have HRR := Lib.hid h4
 clear h1 h3 h4
 go_enter Tryz.func80, Tryz.ntmps80
 go_wp2_with fail
 rw [HE.out]
 go_wp2_with fail
 clear y0 y1 y2 x0 x1 x2 x3
 refine wp_region_held_drew (S := fun w' => Aside0 (Below w1.heap.size w1 w')) (by kernel_rfl) ?_ (fun hHeld => ?_)
 ·exact ⟨(Below.refl _ _).drew⟩
 generalize World.drew _ = wDa at hHeld ⊢
 have HCr := HC
 refine' tk 0 ?_
 try simp only [pt]
 refine' tk 1 ?_
 try simp only [pt]
 refine' tk 2 ?_
 try simp only [pt]
 refine' tk 3 ?_
 try simp only [pt]
 refine' tk 4 ?_
 try simp only [pt]
 refine' cm 5 (fun K hK => ?_)
 go_simp
 refine (Kkb.out _ (Lkb.out.below hHeld.out)).mono ?_
 rintro e w7 ⟨rfl, hb2⟩
 refine hK.out _ _ ⟨hHeld.out.trans (hb2.mono hHeld.out.size)⟩ (fun hHeld => ?_)
 clear hK K
 try simp only [pt]
 refine' tk 6 ?_
 try simp only [pt]
 refine wpAnyH_done (by kernel_rfl) ?_ _
 obtain ⟨⟨y0, y1, y2⟩, ⟨x0, x1, x2, x3⟩, -⟩ := HC.out _ hHeld.out
 go_wp2_with fail
 clear y0 y1 y2 x0 x1 x2 x3
 refine wp_region_held_drew (S := fun w' => Aside0 (Below w1.heap.size w1 w')) (by kernel_rfl) ?_ (fun hHeld => ?_)
 ·exact ⟨hHeld.out.drew⟩
 generalize World.drew _ = wDb at hHeld ⊢
 have HCr := HC
 refine' tk 0 ?_
 try simp only [pt]
 refine' tk 1 ?_
 try simp only [pt]
 refine' tk 2 ?_
 try simp only [pt]
 refine' tk 3 ?_
 try simp only [pt]
 refine' tk 4 ?_
 try simp only [pt]
 refine' tk 25 ?_
 try simp only [pt]
 refine' cm 5 (fun K hK => ?_)
 go_simp
 have hHeld0 := hHeld
 refine hK.out _ _ ⟨hHeld.out.alloc hHeld.out.size _⟩ (fun hHeld => ?_)
 clear hK K
 try simp only [pt]
 refine' cm 6 (fun K hK => ?_)
 go_simp
 refine (all_one _ (liesL_new (Lka.out.below hHeld0.out)) Kka.out HA.out).mono ?_
 rintro e w7 ⟨rfl, hb2⟩
 refine hK.out _ _ ⟨hHeld.out.trans (hb2.mono hHeld.out.size)⟩ (fun hHeld => ?_)
 clear hK K
 try simp only [pt]
 refine' tk 7 ?_
 try simp only [pt]
 refine' tk 8 ?_
 try simp only [pt]
 refine' tk 9 ?_
 try simp only [pt]
 refine' tk 10 ?_
 try simp only [pt]
 refine' tk 11 ?_
 try simp only [pt]
 refine' tk 12 ?_
 try simp only [pt]
 refine' tk 13 ?_
 try simp only [pt]
 refine' tk 14 ?_
 try simp only [pt]
 refine' tk 15 ?_
 try simp only [pt]
 refine' tk 16 ?_
 try simp only [pt]
 refine' tk 17 ?_
 try simp only [pt]
 refine' tk 18 ?_
 try simp only [pt]
 refine' tk 19 ?_
 try simp only [pt]
 refine' tk 20 ?_
 try simp only [pt]
 refine' tk 21 ?_
 try simp only [pt]
 refine' cm 22 (fun K hK => ?_)
 go_simp
 have hHeld0 := hHeld
 refine hK.out _ _ ⟨hHeld.out.alloc hHeld.out.size _⟩ (fun hHeld => ?_)
 clear hK K
 try simp only [pt]
 refine' cm 23 (fun K hK => ?_)
 go_simp
 refine (all_one _ (liesL_new (Lkc.out.below hHeld0.out)) Kkc.out HBC.out).mono ?_
 rintro e w7 ⟨rfl, hb2⟩
 refine hK.out _ _ ⟨hHeld.out.trans (hb2.mono hHeld.out.size)⟩ (fun hHeld => ?_)
 clear hK K
 try simp only [pt]
 refine' tk 24 ?_
 try simp only [pt]
 refine' cm 26 (fun K hK => ?_)
 go_simp
 refine (when_calls bc _ HRR.out _).mono ?_
 rintro e w8 ⟨rfl, rfl⟩
 refine hK.out _ _ ⟨hHeld.out⟩ (fun hHeld => ?_)
 clear hK K
 try simp only [pt]
 refine' tk 27 ?_
 try simp only [pt]
 refine wpAnyH_done (by kernel_rfl) ?_ _
 go_wp2_with fail
 go_ret
 exact ⟨by first | rfl | simp, B1.out.trans (hHeld.out.mono B1.out.size)⟩
theorem more_if_o {va vb vc : Int} {ka kb kc : Cr} (hl : LiesL w (some p) 0 [ka, kb, kc]) (ihka : SortC rw rc rl ka va) (ihkb : SortC rw rc rl kb vb) (ihkc : SortC rw rc rl kc vc) (h1 : va = 2) (h2 : ¬ vb = 1) (h3 : ¬ vb = 2) :
  Calls Tryz.prog 80 #[.agg #[.int .i64 rw, .int .i64 rc, .int .i64 rl], .agg #[.int .i64 28, .int .i64 0, .int .i64 0, .slice (some p) 3 cap]] w fun e w' => e = .returned (.int .i64 (0)) ∧ Below w.heap.size w w' := by
 obtain ⟨w1, e1, b1, k2, k3, s1⟩ := box2 w (.cells #[.int .i64 rw, .int .i64 rc, .int .i64 rl] 87) (.cells #[.int .i64 28, .int .i64 0, .int .i64 0, .slice (some p) 3 cap] 24)
 have hl1 := hl.below b1
 have HC := Lib.hid fun (w' : World) (hb : Below w1.heap.size w1 w') => (show ((w'.cell? ⟨w.heap.size, 0, none⟩ = some (.int .i64 rw) ∧ w'.cell? ⟨w.heap.size, 1, none⟩ = some (.int .i64 rc) ∧ w'.cell? ⟨w.heap.size, 2, none⟩ = some (.int .i64 rl)) ∧
   (w'.cell? ⟨w.heap.size + 1, 0, none⟩ = some (.int .i64 28) ∧ w'.cell? ⟨w.heap.size + 1, 1, none⟩ = some (.int .i64 0) ∧ w'.cell? ⟨w.heap.size + 1, 2, none⟩ = some (.int .i64 0) ∧ w'.cell? ⟨w.heap.size + 1, 3, none⟩ = some (.slice (some p) 3 cap)) ∧
   (w'.cell? p = some (.int .i64 ka.op) ∧ w'.cell? ⟨p.block, p.off + 1, none⟩ = some (.int .i64 ka.n) ∧ w'.cell? ⟨p.block, p.off + 2, none⟩ = some (.int .i64 ka.m) ∧ w'.cell? ⟨p.block, p.off + 3, none⟩ = some (.slice ka.at_ ka.kids.length ka.cap)) ∧ (w'.cell? ⟨p.block, p.off + 4, none⟩ = some (.int .i64 kb.op) ∧ w'.cell? ⟨p.block, p.off + 4 + 1, none⟩ = some (.int .i64 kb.n) ∧ w'.cell? ⟨p.block, p.off + 4 + 2, none⟩ = some (.int .i64 kb.m) ∧ w'.cell? ⟨p.block, p.off + 4 + 3, none⟩ = some (.slice kb.at_ kb.kids.length kb.cap)) ∧ (w'.cell? ⟨p.block, p.off + 8, none⟩ = some (.int .i64 kc.op) ∧ w'.cell? ⟨p.block, p.off + 8 + 1, none⟩ = some (.int .i64 kc.n) ∧ w'.cell? ⟨p.block, p.off + 8 + 2, none⟩ = some (.int .i64 kc.m) ∧ w'.cell? ⟨p.block, p.off + 8 + 3, none⟩ = some (.slice kc.at_ kc.kids.length kc.cap))) from
  ⟨room_cells (blk_below k2 hb), core_cells (blk_below k3 hb), hl1.lit0 hb rfl, hl1.lit hb 0 rfl, hl1.lit hb 1 rfl⟩)
 have Lka := Lib.hid (LiesL.lies hl1 (k := ka) (by simp))
 have Kka := Lib.hid ihka
 have Lkb := Lib.hid (LiesL.lies hl1 (k := kb) (by simp))
 have Kkb := Lib.hid ihkb
 have Lkc := Lib.hid (LiesL.lies hl1 (k := kc) (by simp))
 have Kkc := Lib.hid ihkc
 have HE := Lib.hid e1
 have B1 := Lib.hid b1
 have HL := Lib.hid hl1
 obtain ⟨⟨y0, y1, y2⟩, ⟨x0, x1, x2, x3⟩, -⟩ := HC.out w1 (Below.refl _ _)
 clear hl hl1 k2 k3 e1 b1 s1 ihka ihkb ihkc
 have HA := Lib.hid (show (va == 2) = true by simp [h1])
 have g1 : (vb == 1) = false := by simp [h2]
 have g2 : (vb == 2) = false := by simp [h3]
 have HRR := Lib.hid (show (if false then vb else 0) = 0 from rfl)
 clear h1 h2 h3
 go_enter Tryz.func80, Tryz.ntmps80
 go_wp2_with fail
 rw [HE.out]
 go_wp2_with fail
 clear y0 y1 y2 x0 x1 x2 x3
 refine wp_region_held_drew (S := fun w' => Aside0 (Below w1.heap.size w1 w')) (by kernel_rfl) ?_ (fun hHeld => ?_)
 ·exact ⟨(Below.refl _ _).drew⟩
 generalize World.drew _ = wDa at hHeld ⊢
 have HCr := HC
 refine' tk 0 ?_
 try simp only [pt]
 refine' tk 1 ?_
 try simp only [pt]
 refine' tk 2 ?_
 try simp only [pt]
 refine' tk 3 ?_
 try simp only [pt]
 refine' tk 4 ?_
 try simp only [pt]
 refine' cm 5 (fun K hK => ?_)
 go_simp
 refine (Kkb.out _ (Lkb.out.below hHeld.out)).mono ?_
 rintro e w7 ⟨rfl, hb2⟩
 refine hK.out _ _ ⟨hHeld.out.trans (hb2.mono hHeld.out.size)⟩ (fun hHeld => ?_)
 clear hK K
 try simp only [pt]
 refine' tk 6 ?_
 try simp only [pt]
 refine wpAnyH_done (by kernel_rfl) ?_ _
 obtain ⟨⟨y0, y1, y2⟩, ⟨x0, x1, x2, x3⟩, -⟩ := HC.out _ hHeld.out
 go_wp2_with fail
 clear y0 y1 y2 x0 x1 x2 x3
 refine wp_region_held_drew (S := fun w' => Aside0 (Below w1.heap.size w1 w')) (by kernel_rfl) ?_ (fun hHeld => ?_)
 ·exact ⟨hHeld.out.drew⟩
 generalize World.drew _ = wDb at hHeld ⊢
 have HCr := HC
 refine' tk 0 ?_
 try simp only [pt]
 refine' tk 1 ?_
 try simp only [pt]
 refine' tk 2 ?_
 try simp only [pt]
 refine' tk 3 ?_
 try simp only [pt]
 refine' tk 4 ?_
 try simp only [pt]
 refine' tk 25 ?_
 try simp only [pt]
 refine' cm 5 (fun K hK => ?_)
 go_simp
 have hHeld0 := hHeld
 refine hK.out _ _ ⟨hHeld.out.alloc hHeld.out.size _⟩ (fun hHeld => ?_)
 clear hK K
 try simp only [pt]
 refine' cm 6 (fun K hK => ?_)
 go_simp
 refine (all_one _ (liesL_new (Lka.out.below hHeld0.out)) Kka.out HA.out).mono ?_
 rintro e w7 ⟨rfl, hb2⟩
 refine hK.out _ _ ⟨hHeld.out.trans (hb2.mono hHeld.out.size)⟩ (fun hHeld => ?_)
 clear hK K
 try simp only [pt]
 refine' tk 7 ?_
 try simp only [pt]
 refine' tk 8 ?_
 try simp only [pt]
 refine' tk 9 ?_
 try simp only [pt]
 refine' tk 10 ?_
 try simp only [pt]
 refine' tk 11 ?_
 try simp only [pt]
 refine' tk 12 ?_
 try simp only [pt]
 refine' tk 13 ?_
 try simp only [pt]
 refine' tk 14 ?_
 try simp only [pt]
 refine' tk 15 ?_
 try simp only [pt]
 refine' tn 16 ?_
 try simp only [pt]
 refine' tn 17 ?_
 try simp only [pt]
 refine' tn 18 ?_
 try simp only [pt]
 refine' tn 19 ?_
 try simp only [pt]
 refine' tn 20 ?_
 try simp only [pt]
 refine' tn 21 ?_
 try simp only [pt]
 refine' tn 22 ?_
 try simp only [pt]
 refine' tn 23 ?_
 try simp only [pt]
 refine' tk 24 ?_
 try simp only [pt]
 refine' cm 26 (fun K hK => ?_)
 go_simp
 refine (when_calls false _ HRR.out _).mono ?_
 rintro e w8 ⟨rfl, rfl⟩
 refine hK.out _ _ ⟨hHeld.out⟩ (fun hHeld => ?_)
 clear hK K
 try simp only [pt]
 refine' tk 27 ?_
 try simp only [pt]
 refine wpAnyH_done (by kernel_rfl) ?_ _
 go_wp2_with fail
 go_ret
 exact ⟨by first | rfl | simp, B1.out.trans (hHeld.out.mono B1.out.size)⟩
theorem more_ei_3 {va vb : Int} {ka kb : Cr} (hl : LiesL w (some p) 0 [ka, kb]) (ihka : SortC rw rc rl ka va) (ihkb : SortC rw rc rl kb vb) (h1 : va = 3) :
  Calls Tryz.prog 80 #[.agg #[.int .i64 rw, .int .i64 rc, .int .i64 rl], .agg #[.int .i64 27, .int .i64 0, .int .i64 0, .slice (some p) 2 cap]] w fun e w' => e = .returned (.int .i64 (0)) ∧ Below w.heap.size w w' := by
 obtain ⟨w1, e1, b1, k2, k3, s1⟩ := box2 w (.cells #[.int .i64 rw, .int .i64 rc, .int .i64 rl] 87) (.cells #[.int .i64 27, .int .i64 0, .int .i64 0, .slice (some p) 2 cap] 24)
 have hl1 := hl.below b1
 have HC := Lib.hid fun (w' : World) (hb : Below w1.heap.size w1 w') => (show ((w'.cell? ⟨w.heap.size, 0, none⟩ = some (.int .i64 rw) ∧ w'.cell? ⟨w.heap.size, 1, none⟩ = some (.int .i64 rc) ∧ w'.cell? ⟨w.heap.size, 2, none⟩ = some (.int .i64 rl)) ∧
   (w'.cell? ⟨w.heap.size + 1, 0, none⟩ = some (.int .i64 27) ∧ w'.cell? ⟨w.heap.size + 1, 1, none⟩ = some (.int .i64 0) ∧ w'.cell? ⟨w.heap.size + 1, 2, none⟩ = some (.int .i64 0) ∧ w'.cell? ⟨w.heap.size + 1, 3, none⟩ = some (.slice (some p) 2 cap)) ∧
   (w'.cell? p = some (.int .i64 ka.op) ∧ w'.cell? ⟨p.block, p.off + 1, none⟩ = some (.int .i64 ka.n) ∧ w'.cell? ⟨p.block, p.off + 2, none⟩ = some (.int .i64 ka.m) ∧ w'.cell? ⟨p.block, p.off + 3, none⟩ = some (.slice ka.at_ ka.kids.length ka.cap)) ∧ (w'.cell? ⟨p.block, p.off + 4, none⟩ = some (.int .i64 kb.op) ∧ w'.cell? ⟨p.block, p.off + 4 + 1, none⟩ = some (.int .i64 kb.n) ∧ w'.cell? ⟨p.block, p.off + 4 + 2, none⟩ = some (.int .i64 kb.m) ∧ w'.cell? ⟨p.block, p.off + 4 + 3, none⟩ = some (.slice kb.at_ kb.kids.length kb.cap))) from
  ⟨room_cells (blk_below k2 hb), core_cells (blk_below k3 hb), hl1.lit0 hb rfl, hl1.lit hb 0 rfl⟩)
 have Lka := Lib.hid (LiesL.lies hl1 (k := ka) (by simp))
 have Kka := Lib.hid ihka
 have Lkb := Lib.hid (LiesL.lies hl1 (k := kb) (by simp))
 have Kkb := Lib.hid ihkb
 have HE := Lib.hid e1
 have B1 := Lib.hid b1
 have HL := Lib.hid hl1
 obtain ⟨⟨y0, y1, y2⟩, ⟨x0, x1, x2, x3⟩, -⟩ := HC.out w1 (Below.refl _ _)
 clear hl hl1 k2 k3 e1 b1 s1 ihka ihkb
 have HRR := Lib.hid (show (if false then va else 0) = 0 from rfl)
 have g1 : (va != 3) = false := by simp [h1]
 clear h1
 go_enter Tryz.func80, Tryz.ntmps80
 go_wp2_with fail
 rw [HE.out]
 go_wp2_with fail
 clear y0 y1 y2 x0 x1 x2 x3
 refine wp_region_held_drew (S := fun w' => Aside0 (Below w1.heap.size w1 w')) (by kernel_rfl) ?_ (fun hHeld => ?_)
 ·exact ⟨(Below.refl _ _).drew⟩
 generalize World.drew _ = wDa at hHeld ⊢
 have HCr := HC
 refine' tk 0 ?_
 try simp only [pt]
 refine' tk 1 ?_
 try simp only [pt]
 refine' tk 2 ?_
 try simp only [pt]
 refine' tk 3 ?_
 try simp only [pt]
 refine' tk 4 ?_
 try simp only [pt]
 refine' cm 5 (fun K hK => ?_)
 go_simp
 refine (Kka.out _ (Lka.out.below hHeld.out)).mono ?_
 rintro e w7 ⟨rfl, hb2⟩
 refine hK.out _ _ ⟨hHeld.out.trans (hb2.mono hHeld.out.size)⟩ (fun hHeld => ?_)
 clear hK K
 try simp only [pt]
 refine' tk 6 ?_
 try simp only [pt]
 refine wpAnyH_done (by kernel_rfl) ?_ _
 obtain ⟨⟨y0, y1, y2⟩, ⟨x0, x1, x2, x3⟩, -⟩ := HC.out _ hHeld.out
 go_wp2_with fail
 clear y0 y1 y2 x0 x1 x2 x3
 refine wp_region_held_drew (S := fun w' => Aside0 (Below w1.heap.size w1 w')) (by kernel_rfl) ?_ (fun hHeld => ?_)
 ·exact ⟨hHeld.out.drew⟩
 generalize World.drew _ = wDb at hHeld ⊢
 have HCr := HC
 refine' tk 0 ?_
 try simp only [pt]
 refine' tk 1 ?_
 try simp only [pt]
 refine' tk 2 ?_
 try simp only [pt]
 refine' tn 3 ?_
 try simp only [pt]
 refine' tn 4 ?_
 try simp only [pt]
 refine' tk 5 ?_
 try simp only [pt]
 refine' tk 6 ?_
 try simp only [pt]
 refine' tn 7 ?_
 try simp only [pt]
 refine' tn 8 ?_
 try simp only [pt]
 refine' tn 9 ?_
 try simp only [pt]
 refine' tn 10 ?_
 try simp only [pt]
 refine' tn 11 ?_
 try simp only [pt]
 refine' tn 12 ?_
 try simp only [pt]
 refine' tn 13 ?_
 try simp only [pt]
 refine' tn 14 ?_
 try simp only [pt]
 refine' tk 15 ?_
 try simp only [pt]
 refine' tk 16 ?_
 try simp only [pt]
 refine' cm 17 (fun K hK => ?_)
 go_simp
 refine (when_calls false _ HRR.out _).mono ?_
 rintro e w8 ⟨rfl, rfl⟩
 refine hK.out _ _ ⟨hHeld.out⟩ (fun hHeld => ?_)
 clear hK K
 try simp only [pt]
 refine' tk 18 ?_
 try simp only [pt]
 refine wpAnyH_done (by kernel_rfl) ?_ _
 go_wp2_with fail
 go_ret
 exact ⟨by first | rfl | simp, B1.out.trans (hHeld.out.mono B1.out.size)⟩
theorem more_ei_0 {va vb : Int} {ka kb : Cr} (hl : LiesL w (some p) 0 [ka, kb]) (ihka : SortC rw rc rl ka va) (ihkb : SortC rw rc rl kb vb) (h1 : va = 0) :
  Calls Tryz.prog 80 #[.agg #[.int .i64 rw, .int .i64 rc, .int .i64 rl], .agg #[.int .i64 27, .int .i64 0, .int .i64 0, .slice (some p) 2 cap]] w fun e w' => e = .returned (.int .i64 (0)) ∧ Below w.heap.size w w' := by
 obtain ⟨w1, e1, b1, k2, k3, s1⟩ := box2 w (.cells #[.int .i64 rw, .int .i64 rc, .int .i64 rl] 87) (.cells #[.int .i64 27, .int .i64 0, .int .i64 0, .slice (some p) 2 cap] 24)
 have hl1 := hl.below b1
 have HC := Lib.hid fun (w' : World) (hb : Below w1.heap.size w1 w') => (show ((w'.cell? ⟨w.heap.size, 0, none⟩ = some (.int .i64 rw) ∧ w'.cell? ⟨w.heap.size, 1, none⟩ = some (.int .i64 rc) ∧ w'.cell? ⟨w.heap.size, 2, none⟩ = some (.int .i64 rl)) ∧
   (w'.cell? ⟨w.heap.size + 1, 0, none⟩ = some (.int .i64 27) ∧ w'.cell? ⟨w.heap.size + 1, 1, none⟩ = some (.int .i64 0) ∧ w'.cell? ⟨w.heap.size + 1, 2, none⟩ = some (.int .i64 0) ∧ w'.cell? ⟨w.heap.size + 1, 3, none⟩ = some (.slice (some p) 2 cap)) ∧
   (w'.cell? p = some (.int .i64 ka.op) ∧ w'.cell? ⟨p.block, p.off + 1, none⟩ = some (.int .i64 ka.n) ∧ w'.cell? ⟨p.block, p.off + 2, none⟩ = some (.int .i64 ka.m) ∧ w'.cell? ⟨p.block, p.off + 3, none⟩ = some (.slice ka.at_ ka.kids.length ka.cap)) ∧ (w'.cell? ⟨p.block, p.off + 4, none⟩ = some (.int .i64 kb.op) ∧ w'.cell? ⟨p.block, p.off + 4 + 1, none⟩ = some (.int .i64 kb.n) ∧ w'.cell? ⟨p.block, p.off + 4 + 2, none⟩ = some (.int .i64 kb.m) ∧ w'.cell? ⟨p.block, p.off + 4 + 3, none⟩ = some (.slice kb.at_ kb.kids.length kb.cap))) from
  ⟨room_cells (blk_below k2 hb), core_cells (blk_below k3 hb), hl1.lit0 hb rfl, hl1.lit hb 0 rfl⟩)
 have Lka := Lib.hid (LiesL.lies hl1 (k := ka) (by simp))
 have Kka := Lib.hid ihka
 have Lkb := Lib.hid (LiesL.lies hl1 (k := kb) (by simp))
 have Kkb := Lib.hid ihkb
 have HE := Lib.hid e1
 have B1 := Lib.hid b1
 have HL := Lib.hid hl1
 obtain ⟨⟨y0, y1, y2⟩, ⟨x0, x1, x2, x3⟩, -⟩ := HC.out w1 (Below.refl _ _)
 clear hl hl1 k2 k3 e1 b1 s1 ihka ihkb
 have HRR := Lib.hid (show (if false then va else 0) = 0 from rfl)
 have g1 : (va != 3) = true := by simp [h1]
 have g2 : (va != 0) = false := by simp [h1]
 clear h1
 go_enter Tryz.func80, Tryz.ntmps80
 go_wp2_with fail
 rw [HE.out]
 go_wp2_with fail
 clear y0 y1 y2 x0 x1 x2 x3
 refine wp_region_held_drew (S := fun w' => Aside0 (Below w1.heap.size w1 w')) (by kernel_rfl) ?_ (fun hHeld => ?_)
 ·exact ⟨(Below.refl _ _).drew⟩
 generalize World.drew _ = wDa at hHeld ⊢
 have HCr := HC
 refine' tk 0 ?_
 try simp only [pt]
 refine' tk 1 ?_
 try simp only [pt]
 refine' tk 2 ?_
 try simp only [pt]
 refine' tk 3 ?_
 try simp only [pt]
 refine' tk 4 ?_
 try simp only [pt]
 refine' cm 5 (fun K hK => ?_)
 go_simp
 refine (Kka.out _ (Lka.out.below hHeld.out)).mono ?_
 rintro e w7 ⟨rfl, hb2⟩
 refine hK.out _ _ ⟨hHeld.out.trans (hb2.mono hHeld.out.size)⟩ (fun hHeld => ?_)
 clear hK K
 try simp only [pt]
 refine' tk 6 ?_
 try simp only [pt]
 refine wpAnyH_done (by kernel_rfl) ?_ _
 obtain ⟨⟨y0, y1, y2⟩, ⟨x0, x1, x2, x3⟩, -⟩ := HC.out _ hHeld.out
 go_wp2_with fail
 clear y0 y1 y2 x0 x1 x2 x3
 refine wp_region_held_drew (S := fun w' => Aside0 (Below w1.heap.size w1 w')) (by kernel_rfl) ?_ (fun hHeld => ?_)
 ·exact ⟨hHeld.out.drew⟩
 generalize World.drew _ = wDb at hHeld ⊢
 have HCr := HC
 refine' tk 0 ?_
 try simp only [pt]
 refine' tk 1 ?_
 try simp only [pt]
 refine' tk 2 ?_
 try simp only [pt]
 refine' tk 3 ?_
 try simp only [pt]
 refine' tk 4 ?_
 try simp only [pt]
 refine' tk 5 ?_
 try simp only [pt]
 refine' tk 6 ?_
 try simp only [pt]
 refine' tn 7 ?_
 try simp only [pt]
 refine' tn 8 ?_
 try simp only [pt]
 refine' tn 9 ?_
 try simp only [pt]
 refine' tn 10 ?_
 try simp only [pt]
 refine' tn 11 ?_
 try simp only [pt]
 refine' tn 12 ?_
 try simp only [pt]
 refine' tn 13 ?_
 try simp only [pt]
 refine' tn 14 ?_
 try simp only [pt]
 refine' tk 15 ?_
 try simp only [pt]
 refine' tk 16 ?_
 try simp only [pt]
 refine' cm 17 (fun K hK => ?_)
 go_simp
 refine (when_calls false _ HRR.out _).mono ?_
 rintro e w8 ⟨rfl, rfl⟩
 refine hK.out _ _ ⟨hHeld.out⟩ (fun hHeld => ?_)
 clear hK K
 try simp only [pt]
 refine' tk 18 ?_
 try simp only [pt]
 refine wpAnyH_done (by kernel_rfl) ?_ _
 go_wp2_with fail
 go_ret
 exact ⟨by first | rfl | simp, B1.out.trans (hHeld.out.mono B1.out.size)⟩
theorem more_ei_o {va vb : Int} {ka kb : Cr} (hl : LiesL w (some p) 0 [ka, kb]) (ihka : SortC rw rc rl ka va) (ihkb : SortC rw rc rl kb vb) (h1 : ¬ va = 3) (h2 : ¬ va = 0) {bc : Bool} (h3 : (vb == va) = bc) {r : Int} (h4 : (if bc then va else 0) = r) :
  Calls Tryz.prog 80 #[.agg #[.int .i64 rw, .int .i64 rc, .int .i64 rl], .agg #[.int .i64 27, .int .i64 0, .int .i64 0, .slice (some p) 2 cap]] w fun e w' => e = .returned (.int .i64 (r)) ∧ Below w.heap.size w w' := by
 obtain ⟨w1, e1, b1, k2, k3, s1⟩ := box2 w (.cells #[.int .i64 rw, .int .i64 rc, .int .i64 rl] 87) (.cells #[.int .i64 27, .int .i64 0, .int .i64 0, .slice (some p) 2 cap] 24)
 have hl1 := hl.below b1
 have HC := Lib.hid fun (w' : World) (hb : Below w1.heap.size w1 w') => (show ((w'.cell? ⟨w.heap.size, 0, none⟩ = some (.int .i64 rw) ∧ w'.cell? ⟨w.heap.size, 1, none⟩ = some (.int .i64 rc) ∧ w'.cell? ⟨w.heap.size, 2, none⟩ = some (.int .i64 rl)) ∧
   (w'.cell? ⟨w.heap.size + 1, 0, none⟩ = some (.int .i64 27) ∧ w'.cell? ⟨w.heap.size + 1, 1, none⟩ = some (.int .i64 0) ∧ w'.cell? ⟨w.heap.size + 1, 2, none⟩ = some (.int .i64 0) ∧ w'.cell? ⟨w.heap.size + 1, 3, none⟩ = some (.slice (some p) 2 cap)) ∧
   (w'.cell? p = some (.int .i64 ka.op) ∧ w'.cell? ⟨p.block, p.off + 1, none⟩ = some (.int .i64 ka.n) ∧ w'.cell? ⟨p.block, p.off + 2, none⟩ = some (.int .i64 ka.m) ∧ w'.cell? ⟨p.block, p.off + 3, none⟩ = some (.slice ka.at_ ka.kids.length ka.cap)) ∧ (w'.cell? ⟨p.block, p.off + 4, none⟩ = some (.int .i64 kb.op) ∧ w'.cell? ⟨p.block, p.off + 4 + 1, none⟩ = some (.int .i64 kb.n) ∧ w'.cell? ⟨p.block, p.off + 4 + 2, none⟩ = some (.int .i64 kb.m) ∧ w'.cell? ⟨p.block, p.off + 4 + 3, none⟩ = some (.slice kb.at_ kb.kids.length kb.cap))) from
  ⟨room_cells (blk_below k2 hb), core_cells (blk_below k3 hb), hl1.lit0 hb rfl, hl1.lit hb 0 rfl⟩)
 have Lka := Lib.hid (LiesL.lies hl1 (k := ka) (by simp))
 have Kka := Lib.hid ihka
 have Lkb := Lib.hid (LiesL.lies hl1 (k := kb) (by simp))
 have Kkb := Lib.hid ihkb
 have HE := Lib.hid e1
 have B1 := Lib.hid b1
 have HL := Lib.hid hl1
 obtain ⟨⟨y0, y1, y2⟩, ⟨x0, x1, x2, x3⟩, -⟩ := HC.out w1 (Below.refl _ _)
 clear hl hl1 k2 k3 e1 b1 s1 ihka ihkb
 have g1 : (va != 3) = true := by simp [h1]
 have g2 : (va != 0) = true := by simp [h2]
 have HBC := Lib.hid h3
 have HRR := Lib.hid h4
 clear h1 h2 h3 h4
 go_enter Tryz.func80, Tryz.ntmps80
 go_wp2_with fail
 rw [HE.out]
 go_wp2_with fail
 clear y0 y1 y2 x0 x1 x2 x3
 refine wp_region_held_drew (S := fun w' => Aside0 (Below w1.heap.size w1 w')) (by kernel_rfl) ?_ (fun hHeld => ?_)
 ·exact ⟨(Below.refl _ _).drew⟩
 generalize World.drew _ = wDa at hHeld ⊢
 have HCr := HC
 refine' tk 0 ?_
 try simp only [pt]
 refine' tk 1 ?_
 try simp only [pt]
 refine' tk 2 ?_
 try simp only [pt]
 refine' tk 3 ?_
 try simp only [pt]
 refine' tk 4 ?_
 try simp only [pt]
 refine' cm 5 (fun K hK => ?_)
 go_simp
 refine (Kka.out _ (Lka.out.below hHeld.out)).mono ?_
 rintro e w7 ⟨rfl, hb2⟩
 refine hK.out _ _ ⟨hHeld.out.trans (hb2.mono hHeld.out.size)⟩ (fun hHeld => ?_)
 clear hK K
 try simp only [pt]
 refine' tk 6 ?_
 try simp only [pt]
 refine wpAnyH_done (by kernel_rfl) ?_ _
 obtain ⟨⟨y0, y1, y2⟩, ⟨x0, x1, x2, x3⟩, -⟩ := HC.out _ hHeld.out
 go_wp2_with fail
 clear y0 y1 y2 x0 x1 x2 x3
 refine wp_region_held_drew (S := fun w' => Aside0 (Below w1.heap.size w1 w')) (by kernel_rfl) ?_ (fun hHeld => ?_)
 ·exact ⟨hHeld.out.drew⟩
 generalize World.drew _ = wDb at hHeld ⊢
 have HCr := HC
 refine' tk 0 ?_
 try simp only [pt]
 refine' tk 1 ?_
 try simp only [pt]
 refine' tk 2 ?_
 try simp only [pt]
 refine' tk 3 ?_
 try simp only [pt]
 refine' tk 4 ?_
 try simp only [pt]
 refine' tk 5 ?_
 try simp only [pt]
 refine' tk 6 ?_
 try simp only [pt]
 refine' tk 7 ?_
 try simp only [pt]
 refine' tk 8 ?_
 try simp only [pt]
 refine' tk 9 ?_
 try simp only [pt]
 refine' tk 10 ?_
 try simp only [pt]
 refine' tk 11 ?_
 try simp only [pt]
 refine' tk 12 ?_
 try simp only [pt]
 refine' tk 16 ?_
 try simp only [pt]
 refine' cm 13 (fun K hK => ?_)
 go_simp
 have hHeld0 := hHeld
 refine hK.out _ _ ⟨hHeld.out.alloc hHeld.out.size _⟩ (fun hHeld => ?_)
 clear hK K
 try simp only [pt]
 refine' cm 14 (fun K hK => ?_)
 go_simp
 refine (all_one _ (liesL_new (Lkb.out.below hHeld0.out)) Kkb.out HBC.out).mono ?_
 rintro e w7 ⟨rfl, hb2⟩
 refine hK.out _ _ ⟨hHeld.out.trans (hb2.mono hHeld.out.size)⟩ (fun hHeld => ?_)
 clear hK K
 try simp only [pt]
 refine' tk 15 ?_
 try simp only [pt]
 refine' cm 17 (fun K hK => ?_)
 go_simp
 refine (when_calls bc _ HRR.out _).mono ?_
 rintro e w8 ⟨rfl, rfl⟩
 refine hK.out _ _ ⟨hHeld.out⟩ (fun hHeld => ?_)
 clear hK K
 try simp only [pt]
 refine' tk 18 ?_
 try simp only [pt]
 refine wpAnyH_done (by kernel_rfl) ?_ _
 go_wp2_with fail
 go_ret
 exact ⟨by first | rfl | simp, B1.out.trans (hHeld.out.mono B1.out.size)⟩
theorem more_lad_f {va : Int} {s : Cr → Int} {ka : Cr} {t : List Cr} {len : Nat} (hlen : t.length + 1 = len) (h2 : 2 ≤ len) (he : len % 2 = 0) (hc : len ≤ cap) (hbig : len ≤ 4398046511104) (hl : LiesL w (some p) 0 (ka :: t)) (ihka : SortC rw rc rl ka va) (iht : ∀ k ∈ t, SortC rw rc rl k (s k)) (h1 : ¬ va = 1) :
  Calls Tryz.prog 80 #[.agg #[.int .i64 rw, .int .i64 rc, .int .i64 rl], .agg #[.int .i64 32, .int .i64 0, .int .i64 0, .slice (some p) len cap]] w fun e w' => e = .returned (.int .i64 (0)) ∧ Below w.heap.size w w' := by
 have IHT := Lib.hid iht
 have HLN := Lib.hid hlen
 have HBG := Lib.hid hbig
 have HTL := Lib.hid (show t.length ≤ 4398046511104 ∧ t.length % 2 = 1 by omega)
 have HEL := Lib.hid (show len - 1 = t.length by omega)
 clear iht hlen hbig
 obtain ⟨w1, e1, b1, k2, k3, s1⟩ := box2 w (.cells #[.int .i64 rw, .int .i64 rc, .int .i64 rl] 87) (.cells #[.int .i64 32, .int .i64 0, .int .i64 0, .slice (some p) len cap] 24)
 have hl1 := hl.below b1
 have HC := Lib.hid fun (w' : World) (hb : Below w1.heap.size w1 w') => (show ((w'.cell? ⟨w.heap.size, 0, none⟩ = some (.int .i64 rw) ∧ w'.cell? ⟨w.heap.size, 1, none⟩ = some (.int .i64 rc) ∧ w'.cell? ⟨w.heap.size, 2, none⟩ = some (.int .i64 rl)) ∧
   (w'.cell? ⟨w.heap.size + 1, 0, none⟩ = some (.int .i64 32) ∧ w'.cell? ⟨w.heap.size + 1, 1, none⟩ = some (.int .i64 0) ∧ w'.cell? ⟨w.heap.size + 1, 2, none⟩ = some (.int .i64 0) ∧ w'.cell? ⟨w.heap.size + 1, 3, none⟩ = some (.slice (some p) len cap)) ∧
   (w'.cell? p = some (.int .i64 ka.op) ∧ w'.cell? ⟨p.block, p.off + 1, none⟩ = some (.int .i64 ka.n) ∧ w'.cell? ⟨p.block, p.off + 2, none⟩ = some (.int .i64 ka.m) ∧ w'.cell? ⟨p.block, p.off + 3, none⟩ = some (.slice ka.at_ ka.kids.length ka.cap))) from
  ⟨room_cells (blk_below k2 hb), core_cells (blk_below k3 hb), hl1.lit0 hb rfl⟩)
 have Lka := Lib.hid (LiesL.lies hl1 (k := ka) (by simp))
 have Kka := Lib.hid ihka
 have HE := Lib.hid e1
 have B1 := Lib.hid b1
 have HL := Lib.hid hl1
 obtain ⟨⟨y0, y1, y2⟩, ⟨x0, x1, x2, x3⟩, -⟩ := HC.out w1 (Below.refl _ _)
 clear hl hl1 k2 k3 e1 b1 s1 ihka
 have HA := Lib.hid (show (va == 1) = false by simp [h1])
 have HRR := Lib.hid (show (if false then (3 : Int) else 0) = 0 from rfl)
 clear h1
 have q1 : (2 ≤ (len : Int)) = True := eq_true (by omega)
 have q2 : (2 ≤ len) = True := eq_true h2
 have q3 : (len : Int).tmod 2 = 0 := by rw [Int.tmod_eq_emod_of_nonneg (by omega)]; omega
 have q4 : (1 ≤ len) = True := eq_true (by omega)
 have q5 : (1 ≤ (len : Int)) = True := eq_true (by omega)
 have q6 : (len ≤ cap) = True := eq_true hc
 have q7 : ((len : Int) ≤ (cap : Int)) = True := eq_true (by omega)
 have q8 : ((0 : Int) ≤ (len : Int)) = True := eq_true (by omega)
 have q9 : ((len : Int) == 3) = false := by simp; omega
 have q10 : ¬ cap = 1 := by omega
 have q11 : (0 < len) = True := eq_true (by omega)
 have q12 : ((0 : Int) < (len : Int)) = True := eq_true (by omega)
 clear h2 he hc
 go_enter Tryz.func80, Tryz.ntmps80
 go_wp2_with fail
 rw [HE.out]
 go_wp2_with fail
 clear y0 y1 y2 x0 x1 x2 x3
 refine wp_region_held_drew (S := fun w' => Aside0 (Below w1.heap.size w1 w')) (by kernel_rfl) ?_ (fun hHeld => ?_)
 ·exact ⟨(Below.refl _ _).drew⟩
 generalize World.drew _ = wDb at hHeld ⊢
 have HCr := HC
 refine' tk 0 ?_
 try simp only [pt]
 refine' tk 1 ?_
 try simp only [pt]
 refine' tk 2 ?_
 try simp only [pt]
 refine' tk 3 ?_
 try simp only [pt]
 refine' tk 4 ?_
 try simp only [pt]
 refine' cm 5 (fun K hK => ?_)
 go_simp
 have hHeld0 := hHeld
 refine hK.out _ _ ⟨hHeld.out.alloc hHeld.out.size _⟩ (fun hHeld => ?_)
 clear hK K
 try simp only [pt]
 refine' cm 6 (fun K hK => ?_)
 go_simp
 refine (all_one _ (liesL_new (Lka.out.below hHeld0.out)) Kka.out HA.out).mono ?_
 rintro e w7 ⟨rfl, hb2⟩
 refine hK.out _ _ ⟨hHeld.out.trans (hb2.mono hHeld.out.size)⟩ (fun hHeld => ?_)
 clear hK K
 try simp only [pt]
 refine' tk 7 ?_
 try simp only [pt]
 refine' tn 8 ?_
 try simp only [pt]
 refine' tn 9 ?_
 try simp only [pt]
 refine' tn 10 ?_
 try simp only [pt]
 refine' tn 11 ?_
 try simp only [pt]
 refine' tn 12 ?_
 try simp only [pt]
 refine' tk 13 ?_
 try simp only [pt]
 refine' cm 14 (fun K hK => ?_)
 go_simp
 refine (when_calls false _ HRR.out _).mono ?_
 rintro e w8 ⟨rfl, rfl⟩
 refine hK.out _ _ ⟨hHeld.out⟩ (fun hHeld => ?_)
 clear hK K
 try simp only [pt]
 refine' tk 15 ?_
 try simp only [pt]
 refine wpAnyH_done (by kernel_rfl) ?_ _
 go_wp2_with fail
 go_ret
 exact ⟨by first | rfl | simp, B1.out.trans (hHeld.out.mono B1.out.size)⟩
end
end Go.Proofs.YtpljkcakijkklaaGreatDoor

end
section
namespace Go.Proofs.YtpljkcakijkklaaGreatDoor
set_option linter.unusedVariables false
set_option linter.unusedSimpArgs false
open Go.RowKit Go.Proofs.YtpljkcakijkklaaGreatDoorW.PrintWords Go.Proofs.YtpljkcakijkklaaGreatDoorW.PrintLast Go.Proofs.YtpljkcakijkklaaGreatDoorW.PrintMore

section
variable {rw rc rl : Int} {p : Addr} {cap : Nat} {w : World}
theorem more_lad_t {va : Int} {s : Cr → Int} {ka : Cr} {t : List Cr} {len : Nat} (hlen : t.length + 1 = len) (h2 : 2 ≤ len) (he : len % 2 = 0) (hc : len ≤ cap) (hbig : len ≤ 4398046511104) (hl : LiesL w (some p) 0 (ka :: t)) (ihka : SortC rw rc rl ka va) (iht : ∀ k ∈ t, SortC rw rc rl k (s k)) (h1 : va = 1) {bc : Bool} (h3 : rungsP s none t = bc) {r : Int} (h4 : (if bc then (3 : Int) else 0) = r) :
  Calls Tryz.prog 80 #[.agg #[.int .i64 rw, .int .i64 rc, .int .i64 rl], .agg #[.int .i64 32, .int .i64 0, .int .i64 0, .slice (some p) len cap]] w fun e w' => e = .returned (.int .i64 (r)) ∧ Below w.heap.size w w' := by
 have IHT := Lib.hid iht
 have HLN := Lib.hid hlen
 have HBG := Lib.hid hbig
 have HTL := Lib.hid (show t.length ≤ 4398046511104 ∧ t.length % 2 = 1 by omega)
 have HEL := Lib.hid (show len - 1 = t.length by omega)
 clear iht hlen hbig
 obtain ⟨w1, e1, b1, k2, k3, s1⟩ := box2 w (.cells #[.int .i64 rw, .int .i64 rc, .int .i64 rl] 87) (.cells #[.int .i64 32, .int .i64 0, .int .i64 0, .slice (some p) len cap] 24)
 have hl1 := hl.below b1
 have HC := Lib.hid fun (w' : World) (hb : Below w1.heap.size w1 w') => (show ((w'.cell? ⟨w.heap.size, 0, none⟩ = some (.int .i64 rw) ∧ w'.cell? ⟨w.heap.size, 1, none⟩ = some (.int .i64 rc) ∧ w'.cell? ⟨w.heap.size, 2, none⟩ = some (.int .i64 rl)) ∧
   (w'.cell? ⟨w.heap.size + 1, 0, none⟩ = some (.int .i64 32) ∧ w'.cell? ⟨w.heap.size + 1, 1, none⟩ = some (.int .i64 0) ∧ w'.cell? ⟨w.heap.size + 1, 2, none⟩ = some (.int .i64 0) ∧ w'.cell? ⟨w.heap.size + 1, 3, none⟩ = some (.slice (some p) len cap)) ∧
   (w'.cell? p = some (.int .i64 ka.op) ∧ w'.cell? ⟨p.block, p.off + 1, none⟩ = some (.int .i64 ka.n) ∧ w'.cell? ⟨p.block, p.off + 2, none⟩ = some (.int .i64 ka.m) ∧ w'.cell? ⟨p.block, p.off + 3, none⟩ = some (.slice ka.at_ ka.kids.length ka.cap))) from
  ⟨room_cells (blk_below k2 hb), core_cells (blk_below k3 hb), hl1.lit0 hb rfl⟩)
 have Lka := Lib.hid (LiesL.lies hl1 (k := ka) (by simp))
 have Kka := Lib.hid ihka
 have HE := Lib.hid e1
 have B1 := Lib.hid b1
 have HL := Lib.hid hl1
 obtain ⟨⟨y0, y1, y2⟩, ⟨x0, x1, x2, x3⟩, -⟩ := HC.out w1 (Below.refl _ _)
 clear hl hl1 k2 k3 e1 b1 s1 ihka
 have HA := Lib.hid (show (va == 1) = true by simp [h1])
 have HBC := Lib.hid h3
 have HRR := Lib.hid h4
 clear h1 h3 h4
 have q1 : (2 ≤ (len : Int)) = True := eq_true (by omega)
 have q2 : (2 ≤ len) = True := eq_true h2
 have q3 : (len : Int).tmod 2 = 0 := by rw [Int.tmod_eq_emod_of_nonneg (by omega)]; omega
 have q4 : (1 ≤ len) = True := eq_true (by omega)
 have q5 : (1 ≤ (len : Int)) = True := eq_true (by omega)
 have q6 : (len ≤ cap) = True := eq_true hc
 have q7 : ((len : Int) ≤ (cap : Int)) = True := eq_true (by omega)
 have q8 : ((0 : Int) ≤ (len : Int)) = True := eq_true (by omega)
 have q9 : ((len : Int) == 3) = false := by simp; omega
 have q10 : ¬ cap = 1 := by omega
 have q11 : (0 < len) = True := eq_true (by omega)
 have q12 : ((0 : Int) < (len : Int)) = True := eq_true (by omega)
 clear h2 he hc
 go_enter Tryz.func80, Tryz.ntmps80
 go_wp2_with fail
 rw [HE.out]
 go_wp2_with fail
 clear y0 y1 y2 x0 x1 x2 x3
 refine wp_region_held_drew (S := fun w' => Aside0 (Below w1.heap.size w1 w')) (by kernel_rfl) ?_ (fun hHeld => ?_)
 ·exact ⟨(Below.refl _ _).drew⟩
 generalize World.drew _ = wDb at hHeld ⊢
 have HCr := HC
 refine' tk 0 ?_
 try simp only [pt]
 refine' tk 1 ?_
 try simp only [pt]
 refine' tk 2 ?_
 try simp only [pt]
 refine' tk 3 ?_
 try simp only [pt]
 refine' tk 4 ?_
 try simp only [pt]
 refine' cm 5 (fun K hK => ?_)
 go_simp
 have hHeld0 := hHeld
 refine hK.out _ _ ⟨hHeld.out.alloc hHeld.out.size _⟩ (fun hHeld => ?_)
 clear hK K
 try simp only [pt]
 refine' cm 6 (fun K hK => ?_)
 go_simp
 refine (all_one _ (liesL_new (Lka.out.below hHeld0.out)) Kka.out HA.out).mono ?_
 rintro e w7 ⟨rfl, hb2⟩
 refine hK.out _ _ ⟨hHeld.out.trans (hb2.mono hHeld.out.size)⟩ (fun hHeld => ?_)
 clear hK K
 try simp only [pt]
 refine' tk 7 ?_
 try simp only [pt]
 refine' tk 8 ?_
 try simp only [pt]
 refine' tk 9 ?_
 try simp only [pt]
 refine' tk 10 ?_
 try simp only [pt]
 refine' tk 11 ?_
 try simp only [pt]
 refine' cm 12 (fun K hK => ?_)
 go_simp
 rw [HEL.out]
 refine (rungs_calls _ (liesL_tail (HL.out.below hHeld.out)) HTL.out.1 HTL.out.2 s IHT.out HBC.out).mono ?_
 rintro e w7 ⟨rfl, hb2⟩
 refine hK.out _ _ ⟨hHeld.out.trans (hb2.mono hHeld.out.size)⟩ (fun hHeld => ?_)
 clear hK K
 try simp only [pt]
 refine' tk 13 ?_
 try simp only [pt]
 refine' cm 14 (fun K hK => ?_)
 go_simp
 refine (when_calls bc _ HRR.out _).mono ?_
 rintro e w8 ⟨rfl, rfl⟩
 refine hK.out _ _ ⟨hHeld.out⟩ (fun hHeld => ?_)
 clear hK K
 try simp only [pt]
 refine' tk 15 ?_
 try simp only [pt]
 refine wpAnyH_done (by kernel_rfl) ?_ _
 go_wp2_with fail
 go_ret
 exact ⟨by first | rfl | simp, B1.out.trans (hHeld.out.mono B1.out.size)⟩
end
end Go.Proofs.YtpljkcakijkklaaGreatDoor

end
section
namespace Go.Proofs.YtpljkcakijkklaaGreatDoor
set_option linter.unusedVariables false
set_option linter.unusedSimpArgs false
open Go.RowKit Go.Proofs.YtpljkcakijkklaaGreatDoorW.PrintWords Go.Proofs.YtpljkcakijkklaaGreatDoorW.PrintLast Go.Proofs.YtpljkcakijkklaaGreatDoorW.PrintMore

theorem more_calls {rw rc rl op n m : Int} {at_ : Option Addr} {cap : Nat} {l : List Cr} {w : World} (hl : Lies w (.node op n m at_ cap l)) (h2 : 2 ≤ l.length) (s : Cr → Int) (ih : ∀ k ∈ l, SortC rw rc rl k (s k)) :
  Calls Tryz.prog 80 #[.agg #[.int .i64 rw, .int .i64 rc, .int .i64 rl], .agg #[.int .i64 op, .int .i64 n, .int .i64 m, .slice at_ l.length cap]] w fun e w' => e = .returned (.int .i64 (moreS s op n m l)) ∧ Below w.heap.size w w' := by
 have hk := hl.kids
 have hr := hl.room
 simp only [Cr.at_, Cr.kids, Cr.cap] at hk hr
 obtain ⟨p, rfl⟩ : ∃ p, at_ = some p := by
  obtain ⟨b, hb, -⟩ := hk.cells (i := 0) (k := l[0]'(by omega)) (List.getElem?_eq_getElem _)
  exact ⟨b, hb⟩
 unfold moreS
 by_cases hn : n = 0
 ·by_cases hm : m = 0
  ·subst hn hm
   rw [if_pos ⟨rfl, rfl⟩]
   by_cases h28 : op = 28
   ·subst h28
    by_cases h3 : l.length = 3
    ·rw [if_pos ⟨rfl, h3⟩]
     match l, h3, hk, ih with
     | [a, b, c], _, hk, ih =>
      have ia := ih a (by simp)
      have ib := ih b (by simp)
      have ic := ih c (by simp)
      simp only [ifS, List.length_cons, List.length_nil]
      by_cases qa : s a = 2
      ·rw [if_pos qa]
       by_cases qb : s b = 1
       ·rw [if_pos qb]
        refine (more_if_1 hk ia ib ic qa qb rfl rfl).mono fun e w' h => ⟨h.1.trans ?_, h.2⟩
        simp only [beq_iff_eq]
       ·rw [if_neg qb]
        by_cases qb2 : s b = 2
        ·rw [if_pos qb2]
         refine (more_if_2 hk ia ib ic qa qb2 rfl rfl).mono fun e w' h => ⟨h.1.trans ?_, h.2⟩
         simp only [beq_iff_eq]
        ·rw [if_neg qb2]
         exact more_if_o hk ia ib ic qa qb qb2
      ·rw [if_neg qa]
       exact more_if_f hk ia ib ic qa
    ·rw [if_neg (by simp [h3]), if_neg (by simp)]
     by_cases hl2 : l.length = 2
     ·rw [if_pos hl2]
      have e : twoS s 28 l = 0 := by
       match l, hl2 with
       | [a, b], _ => simp [twoS]
      rw [e, hl2]
      exact more_high (len := 0) (by decide) (by decide)
     ·rw [if_neg hl2]
      exact more_28 hl2 h3
   ·rw [if_neg (by simp [h28])]
    by_cases h32 : op = 32
    ·subst h32
     by_cases he : l.length % 2 = 0
     ·rw [if_pos ⟨rfl, h2, he⟩]
      match l, hk, ih, h2, he, hr with
      | a :: t, hk, ih, h2, he, hr =>
       simp only [ladS]
       have hbig : (a :: t).length ≤ 4398046511104 := by omega
       by_cases qa : s a = 1
       ·rw [if_pos qa]
        exact more_lad_t (by simp) h2 he hr.1 hbig hk (ih a (by simp)) (fun k hk => ih k (by simp [hk])) qa rfl rfl
       ·rw [if_neg qa]
        exact more_lad_f (s := s) (by simp) h2 he hr.1 hbig hk (ih a (by simp)) (fun k hk => ih k (by simp [hk])) qa
     ·rw [if_neg (by simp [he]), if_neg (by omega)]
      exact more_32 (by omega) (by omega)
    ·rw [if_neg (by simp [h32])]
     by_cases hl2 : l.length = 2
     ·rw [if_pos hl2]
      match l, hl2, hk, ih with
      | [a, b], _, hk, ih =>
       have tw {sort r : Int} : (if ([a, b].all fun k => s k == sort) then r else 0) = if (s a == sort && s b == sort) then r else 0 := by simp
       by_cases k14 : op = 14 ∨ op = 15 ∨ op = 16 ∨ op = 17 ∨ op = 23 ∨ op = 24
       ·simp only [twoS, if_pos k14]
        rw [← tw]
        rcases k14 with rfl | rfl | rfl | rfl | rfl | rfl
        ·exact more_k14 rfl hk ih
        ·exact more_k15 rfl hk ih
        ·exact more_k16 rfl hk ih
        ·exact more_k17 rfl hk ih
        ·exact more_k23 rfl hk ih
        ·exact more_k24 rfl hk ih
       ·by_cases k18 : op = 18 ∨ op = 19 ∨ op = 20 ∨ op = 21 ∨ op = 22
        ·simp only [twoS, if_neg k14, if_pos k18]
         rw [← tw]
         rcases k18 with rfl | rfl | rfl | rfl | rfl
         ·exact more_k18 rfl hk ih
         ·exact more_k19 rfl hk ih
         ·exact more_k20 rfl hk ih
         ·exact more_k21 rfl hk ih
         ·exact more_k22 rfl hk ih
        ·by_cases k25 : op = 25 ∨ op = 26
         ·simp only [twoS, if_neg k14, if_neg k18, if_pos k25]
          rw [← tw]
          rcases k25 with rfl | rfl
          ·exact more_k25 rfl hk ih
          ·exact more_k26 rfl hk ih
         ·simp only [twoS, if_neg k14, if_neg k18, if_neg k25]
          by_cases k27 : op = 27
          ·subst k27
           rw [if_pos rfl]
           have ia := ih a (by simp)
           have ib := ih b (by simp)
           by_cases q3 : s a = 3
           ·rw [if_pos q3]
            exact more_ei_3 hk ia ib q3
           ·rw [if_neg q3]
            by_cases q0 : s a = 0
            ·rw [if_pos q0]
             exact more_ei_0 hk ia ib q0
            ·rw [if_neg q0]
             refine (more_ei_o hk ia ib q3 q0 rfl rfl).mono fun e w' h => ⟨h.1.trans ?_, h.2⟩
             simp only [beq_iff_eq]
          ·rw [if_neg k27]
           rcases Int.lt_or_le op 14 with hlo | hlo
           ·exact more_low (len := 0) hlo
           ·exact more_high (len := 0) (by omega) h32
     ·rw [if_neg hl2]
      exact more_len hl2 h28 h32
  ·rw [if_neg (by simp [hm])]
   by_cases hn0 : n = 0
   ·subst hn0
    exact more_m hm
   ·exact more_n hn0
 ·rw [if_neg (by simp [hn])]
  exact more_n hn

def nodeS (rw rc rl : Int) (s : Cr → Int) (c : Cr) : Int :=
 match c.kids with
 | [] => leafS rw rc c.op c.n c.m
 | [k] => oneS rl c.op c.n c.m (s k)
 | l => moreS s c.op c.n c.m l
theorem rungsP_congr {s s' : Cr → Int} : ∀ {l : List Cr} {p : Option Int}, (∀ k ∈ l, s k = s' k) → rungsP s p l = rungsP s' p l
 | [], _, _ => rfl
 | [a], _, h => by rw [rungsP, rungsP, h a (by simp)]
 | x :: y :: l, p, h => by
  show (x.op == 1 && (s x == 1 && ((match p with | none => true | some q => decide (q < x.n)) && (s y == 3 && rungsP s (some x.n) l)))) = (x.op == 1 && (s' x == 1 && ((match p with | none => true | some q => decide (q < x.n)) && (s' y == 3 && rungsP s' (some x.n) l))))
  rw [h x (by simp), h y (by simp), rungsP_congr (l := l) (fun k hk => h k (by simp [hk]))]
theorem moreS_congr {s s' : Cr → Int} {op n m : Int} {l : List Cr} (h : ∀ k ∈ l, s k = s' k) : moreS s op n m l = moreS s' op n m l := by
 have e1 : ifS s l = ifS s' l := by
  match l, h with
  | [a, b, c], h => simp only [ifS, h a (by simp), h b (by simp), h c (by simp)]
  | [], _ => rfl
  | [_], _ => rfl
  | [_, _], _ => rfl
  | _ :: _ :: _ :: _ :: _, _ => rfl
 have e2 : ladS s l = ladS s' l := by
  match l, h with
  | [], _ => rfl
  | a :: t, h => simp only [ladS, h a (by simp), rungsP_congr (l := t) (fun k hk => h k (by simp [hk]))]
 have e3 : twoS s op l = twoS s' op l := by
  match l, h with
  | [a, b], h => simp only [twoS, h a (by simp), h b (by simp)]
  | [], _ => rfl
  | [_], _ => rfl
  | _ :: _ :: _ :: _, _ => rfl
 unfold moreS
 rw [e1, e2, e3]
theorem nodeS_congr {rw rc rl : Int} {s s' : Cr → Int} {c : Cr} (h : ∀ k ∈ c.kids, s k = s' k) : nodeS rw rc rl s c = nodeS rw rc rl s' c := by
 unfold nodeS
 split
 ·rfl
 ·rename_i k e
  rw [h k (by rw [e]; simp)]
 ·exact moreS_congr h
theorem Cr.kid_size {c k : Cr} (h : k ∈ c.kids) : SizeOf.sizeOf k < SizeOf.sizeOf c := by
 cases c with
 | node o x y a cap l =>
  have := List.sizeOf_lt_of_mem h
  simp only [Cr.kids] at this
  simp
  omega
open Classical in
noncomputable def sortS (rw rc rl : Int) (c : Cr) : Int := nodeS rw rc rl (fun k => if h : k ∈ c.kids then sortS rw rc rl k else 0) c
termination_by SizeOf.sizeOf c
decreasing_by exact Cr.kid_size h
theorem sortS_eq (rw rc rl : Int) (c : Cr) : sortS rw rc rl c = nodeS rw rc rl (sortS rw rc rl) c := by
 rw [sortS]
 exact nodeS_congr fun k hk => by simp [hk]

theorem sort_calls (rw rc rl : Int) (c : Cr) : SortC rw rc rl c (sortS rw rc rl c) := by
 refine Cr.ind (P := fun c => SortC rw rc rl c (sortS rw rc rl c)) (fun c ih => ?_) c
 intro w hl
 rw [sortS_eq]
 obtain ⟨op, n, m, at_, cap, l⟩ := c
 simp only [Cr.op, Cr.n, Cr.m, Cr.at_, Cr.cap, Cr.kids] at *
 obtain ⟨w1, e1, b1, k2, k3, s1⟩ := box2 w (.cells #[.int .i64 rw, .int .i64 rc, .int .i64 rl] 87) (.cells #[.int .i64 op, .int .i64 n, .int .i64 m, .slice at_ l.length cap] 24)
 obtain ⟨y0, y1, y2⟩ := room_cells k2
 obtain ⟨x0, x1, x2, x3⟩ := core_cells k3
 have HE := Lib.hid e1
 have B1 := Lib.hid b1
 have HL := Lib.hid (hl.below b1)
 have HI := Lib.hid ih
 clear hl ih k2 k3 e1 b1 s1
 match l, HL, HI with
 | [], HL, HI =>
  simp only [List.length_nil] at *
  go_enter Tryz.func44, Tryz.ntmps44
  go_wp2_with fail
  rw [HE.out]
  go_wp2_with fail
  refine (leaf_calls rw rc rl op n m at_ 0 cap _).mono ?_
  rintro e w2 ⟨rfl, hb2⟩
  go_wp2_with fail
  go_ret
  exact ⟨rfl, B1.out.trans (hb2.mono B1.out.size)⟩
 | [k], HL, HI =>
  simp only [List.length_cons, List.length_nil] at *
  go_enter Tryz.func44, Tryz.ntmps44
  go_wp2_with fail
  rw [HE.out]
  go_wp2_with fail
  refine (one_calls HL.out (HI.out k (by simp))).mono ?_
  rintro e w2 ⟨rfl, hb2⟩
  go_wp2_with fail
  go_ret
  exact ⟨rfl, B1.out.trans (hb2.mono B1.out.size)⟩
 | a :: b :: t, HL, HI =>
  have e9 : nodeS rw rc rl (sortS rw rc rl) (.node op n m at_ cap (a :: b :: t)) = moreS (sortS rw rc rl) op n m (a :: b :: t) := rfl
  rw [e9]
  obtain ⟨l, hl⟩ : ∃ l, a :: b :: t = l := ⟨_, rfl⟩
  rw [hl] at HL HI x3 ⊢
  rw [hl] at HE
  have h2 : 2 ≤ l.length := by rw [← hl]; simp
  obtain ⟨r, hr⟩ : ∃ r, moreS (sortS rw rc rl) op n m l = r := ⟨_, rfl⟩
  have hm := more_calls HL.out h2 (sortS rw rc rl) HI.out
  rw [hr] at hm ⊢
  obtain ⟨len, hlen⟩ : ∃ len, l.length = len := ⟨_, rfl⟩
  rw [hlen] at hm h2 x3 ⊢
  rw [hlen] at HE
  have q0 : ((len : Int) == 0) = false := by simp; omega
  have q1 : ((len : Int) == 1) = false := by simp; omega
  have q2 : (len == 0) = false := by simp; omega
  have q3 : ¬ len = 0 := by omega
  have q4 : ¬ len = 1 := by omega
  have HM := Lib.hid hm
  clear hm h2 hl hr hlen
  go_enter Tryz.func44, Tryz.ntmps44
  go_wp2_with fail
  rw [HE.out]
  go_wp2_with fail
  refine HM.out.mono ?_
  rintro e w2 ⟨rfl, hb2⟩
  go_wp2_with fail
  go_ret
  exact ⟨rfl, B1.out.trans (hb2.mono B1.out.size)⟩

theorem Sort_calls {rw rc rl : Int} {c : Cr} {w : World} (hl : Lies w c) : Calls Tryz.prog 21 #[.agg #[.int .i64 c.op, .int .i64 c.n, .int .i64 c.m, .slice c.at_ c.kids.length c.cap], .int .i64 rw, .int .i64 rc, .int .i64 rl] w fun e w' => e = .returned (.int .i64 (sortS rw rc rl c)) ∧ Below w.heap.size w w' := by
 obtain ⟨w1, e1, b1, k2, s1⟩ := box1 w (.cells #[.int .i64 c.op, .int .i64 c.n, .int .i64 c.m, .slice c.at_ c.kids.length c.cap] 24)
 obtain ⟨x0, x1, x2, x3⟩ := core_cells k2
 have HE := Lib.hid e1
 have HS := Lib.hid (sort_calls rw rc rl c _ (hl.below b1))
 have B1 := Lib.hid b1
 clear hl k2 e1 b1 s1
 go_enter Tryz.func21, Tryz.ntmps21
 go_wp2_with fail
 rw [HE.out]
 go_wp2_with fail
 refine HS.out.mono ?_
 rintro e w2 ⟨rfl, hb2⟩
 go_wp2_with fail
 go_ret
 exact ⟨rfl, B1.out.trans (hb2.mono B1.out.size)⟩
end Go.Proofs.YtpljkcakijkklaaGreatDoor

end
section
namespace Go.Proofs.YtpljkcakijkklaaGreatDoor
set_option linter.unusedVariables false
set_option linter.unusedSimpArgs false
open Go.RowKit Go.Proofs.YtpljkcakijkklaaGreatDoorW.PrintWords Go.Proofs.YtpljkcakijkklaaGreatDoorW.PrintLast Go.Proofs.YtpljkcakijkklaaGreatDoorW.PrintMore

mutual
def Cr.total : Cr → Nat
 | .node _ _ _ _ _ l => 1 + totalL l
def totalL : List Cr → Nat
 | [] => 0
 | c :: l => c.total + totalL l
end
theorem Cr.total_eq (c : Cr) : c.total = 1 + totalL c.kids := by cases c; rw [Cr.total]; rfl
theorem totalL_take : ∀ {l : List Cr} {i : Nat} {k : Cr}, l[i]? = some k → totalL (l.take (i + 1)) = totalL (l.take i) + k.total
 | [], _, _, h => by simp at h
 | c :: l, 0, k, h => by
  simp at h
  subst h
  simp [totalL]
 | c :: l, i + 1, k, h => by
  have := totalL_take (l := l) (i := i) (k := k) (by simpa using h)
  rw [List.take_succ_cons, List.take_succ_cons, totalL, totalL, this]
  omega
theorem totalL_take_le : ∀ (l : List Cr) (i : Nat), totalL (l.take i) ≤ totalL l
 | [], i => by simp
 | c :: l, 0 => by simp [totalL]
 | c :: l, i + 1 => by
  rw [List.take_succ_cons, totalL, totalL]
  have := totalL_take_le l i
  omega
theorem calls_at {P : Program} {f : Nat} {args : Array Value} {w1 X : World} {r : Ending} {K : Ending → World → Prop} (hX : Below w1.heap.size w1 X) (h : ∀ W, Below w1.heap.size w1 W → Calls P f args W fun e w' => e = r ∧ Below W.heap.size W w')
  (k : ∀ w', Below w1.heap.size w1 w' → K r w') : Calls P f args X K :=
 (h X hX).mono fun e w' he => by
  obtain ⟨rfl, hb⟩ := he
  exact k w' (hX.trans (hb.mono hX.size))

theorem count_calls (c : Cr) : ∀ (left : Nat), left ≤ 4096 → ∀ w, Lies w c → Calls Tryz.prog 95 #[.agg #[.int .i64 c.op, .int .i64 c.n, .int .i64 c.m, .slice c.at_ c.kids.length c.cap], .int .i64 left] w fun e w' => e = .returned (.int .i64 (min c.total (left + 1) : Nat)) ∧ Below w.heap.size w w' := by
 refine Cr.ind (P := fun c => ∀ (left : Nat), left ≤ 4096 → ∀ w, Lies w c → Calls Tryz.prog 95 #[.agg #[.int .i64 c.op, .int .i64 c.n, .int .i64 c.m, .slice c.at_ c.kids.length c.cap], .int .i64 left] w fun e w' => e = .returned (.int .i64 (min c.total (left + 1) : Nat)) ∧ Below w.heap.size w w') (fun c ih => ?_) c
 intro left hleft w hl
 obtain ⟨w1, e1, b1, k2, s1⟩ := box1 w (.cells #[.int .i64 c.op, .int .i64 c.n, .int .i64 c.m, .slice c.at_ c.kids.length c.cap] 24)
 obtain ⟨x0, x1, x2, x3⟩ := core_cells k2
 have HE := Lib.hid e1
 have B1 := Lib.hid b1
 have HL := Lib.hid (hl.below b1).kids
 have HRM := Lib.hid hl.room
 have HIH := Lib.hid ih
 have HLF := Lib.hid hleft
 obtain ⟨r, hr⟩ : ∃ r, min c.total (left + 1) = r := ⟨_, rfl⟩
 have HR := Lib.hid hr
 rw [hr]
 have HT := Lib.hid (show c.total = 1 + totalL c.kids from c.total_eq)
 obtain ⟨op, n, m, at_, cap, l⟩ := c
 simp only [Cr.op, Cr.n, Cr.m, Cr.at_, Cr.cap, Cr.kids] at *
 obtain ⟨T, hT⟩ : ∃ T, (Cr.node op n m at_ cap l).total = T := ⟨_, rfl⟩
 rw [hT] at HR HT
 obtain ⟨len, hlen⟩ : ∃ n, l.length = n := ⟨_, rfl⟩
 have HN := Lib.hid hlen
 rw [hlen] at x3 HE HRM ⊢
 clear hl ih hleft hr hT hlen k2 e1 b1 s1
 go_enter Tryz.func95, Tryz.ntmps95
 go_wp2_with fail
 rw [HE.out]
 go_wp2_with fail
 clear x0 x1 x2 x3
 go_loopg [5, 11] len (fun gg v5 v11 wr => ∃ (i k : Nat), v5 = .int .i64 k ∧ v11 = .int .i64 i ∧ Aside0 (i + gg = len ∧ k = min (1 + totalL (l.take i)) (left + 1)) ∧ Aside0 (Below w1.heap.size w1 wr))
 case atStart => exact ⟨0, 1, rfl, rfl, ⟨by omega, by rw [List.take_zero, totalL]; omega⟩, ⟨Below.refl _ _⟩⟩
 case round =>
  obtain ⟨i, k, rfl, rfl, hi, BW⟩ := hrel
  have HI := Lib.hid hi.out
  have HB := Lib.hid BW.out
  clear hi BW
  by_cases hlt : i < len
  ·obtain ⟨y, hy⟩ : ∃ y, l[i]? = some y := ⟨_, List.getElem?_eq_getElem (by rw [HN.out]; exact hlt)⟩
   obtain ⟨b, rfl, hblk, c0, c1, c2, c3⟩ := HL.out.cellsB HB.out hy
   have HY := Lib.hid hy
   have HYL := Lib.hid (LiesL.lies HL.out (List.mem_of_getElem? hy))
   have HYC := Lib.hid (HIH.out y (List.mem_of_getElem? hy))
   have q0 := eq_true (show (0 : Int) ≤ (i : Int) by omega)
   have q1 : ((i : Int) < (len : Int)) = True := eq_true (by omega)
   have q2 : (i < len) = True := eq_true hlt
   have HLT := Lib.hid hlt
   clear hy hlt
   by_cases hk : left < k
   ·have q3 : ((left : Int) < (k : Int)) = True := eq_true (by omega)
    have q4 : (left < k) = True := eq_true hk
    have hrk : k = r := by
     have h1 := HI.out.2
     have h2 := HR.out
     have h3 := HT.out
     have h4 := totalL_take_le l i
     omega
    subst hrk
    clear hk
    go_wp2_with fail
    go_ret
    refine ⟨rfl, B1.out.trans (Below.mono ?_ B1.out.size)⟩
    repeat (first | exact HB.out | refine Below.setCell ?_ HB.out.size _ | refine Below.alloc ?_ HB.out.size _)
   ·have q3 : ((left : Int) < (k : Int)) = False := eq_false (by omega)
    have q4 : (left < k) = False := eq_false hk
    obtain ⟨d, hd⟩ : ∃ d, left - k = d := ⟨_, rfl⟩
    have HD := Lib.hid (show k + d = left by omega)
    have w3 : wrap64 ((left : Int) - (k : Int)) = (d : Int) := by have := HLF.out; have := HD.out; unfold wrap64; omega
    obtain ⟨t, ht⟩ : ∃ t, min y.total (d + 1) = t := ⟨_, rfl⟩
    obtain ⟨k2, hk2⟩ : ∃ k2, k + t = k2 := ⟨_, rfl⟩
    have HK2 := Lib.hid (show k2 = min (1 + totalL (l.take (i + 1))) (left + 1) by
     have h1 := HI.out.2
     have h2 := totalL_take HY.out
     have h3 := HD.out
     omega)
    have HTT := Lib.hid ht
    have w4 : wrap64 ((k : Int) + (t : Int)) = (k2 : Int) := by have := HLF.out; have := HD.out; unfold wrap64; omega
    have w5 : wrap64 ((i : Int) + 1) = ((i + 1 : Nat) : Int) := by have := HRM.out; have := HLT.out; unfold wrap64; omega
    clear hk hd ht hk2
    go_wp2_with fail
    refine calls_at (w1 := w1) ?hX (fun W hW => HYC.out d (by have := HD.out; have := HLF.out; omega) W (HYL.out.below hW)) ?_
    case hX => repeat (first | exact HB.out | refine Below.setCell ?_ HB.out.size _ | refine Below.alloc ?_ HB.out.size _)
    intro w7 hb7
    rw [HTT.out]
    go_wp2_with fail
    go_roundg (gk - 1)
    case measure => clear w3 w4 w5; have := HI.out; have := HLT.out; omega
    case rel => exact ⟨i + 1, k2, by first | rfl | simp [w4], by first | rfl | simp [w5], ⟨by clear w3 w4 w5; have := HI.out; have := HLT.out; omega, HK2.out⟩, ⟨hb7⟩⟩
  ·have q1 : ((i : Int) < (len : Int)) = False := eq_false (by omega)
   have q2 : (i < len) = False := eq_false hlt
   have hrk : k = r := by
    have h1 := HI.out
    have h2 := HR.out
    have h3 := HT.out
    rw [List.take_of_length_le (by rw [HN.out]; omega)] at h1
    omega
   subst hrk
   go_wp2_with fail
   go_ret
   exact ⟨rfl, B1.out.trans (HB.out.mono B1.out.size)⟩

theorem Nodes_calls {c : Cr} {w : World} (hl : Lies w c) : Calls Tryz.prog 62 #[.agg #[.int .i64 c.op, .int .i64 c.n, .int .i64 c.m, .slice c.at_ c.kids.length c.cap]] w fun e w' => e = .returned (.int .i64 (min c.total 4097 : Nat)) ∧ Below w.heap.size w w' := by
 obtain ⟨w1, e1, b1, k2, s1⟩ := box1 w (.cells #[.int .i64 c.op, .int .i64 c.n, .int .i64 c.m, .slice c.at_ c.kids.length c.cap] 24)
 obtain ⟨x0, x1, x2, x3⟩ := core_cells k2
 have HE := Lib.hid e1
 have hcl := count_calls c 4096 (by decide) _ (hl.below b1)
 have B1 := Lib.hid b1
 obtain ⟨r, hr⟩ : ∃ r, min c.total 4097 = r := ⟨_, rfl⟩
 have hr2 : min c.total (4096 + 1) = r := hr
 rw [hr2] at hcl
 rw [hr]
 have HS := Lib.hid hcl
 have q1 : min (r : Int) 4097 = (r : Int) := by omega
 have q2 : (r : Int) ≤ 4097 := by omega
 have q3 : ¬ (4097 : Int) < (r : Int) := by omega
 clear hl k2 e1 b1 s1 hcl hr hr2
 go_enter Tryz.func62, Tryz.ntmps62
 go_wp2_with fail
 rw [HE.out]
 go_wp2_with fail
 refine HS.out.mono ?_
 rintro e w2 ⟨rfl, hb2⟩
 go_wp2_with fail
 go_ret
 refine ⟨?_, B1.out.trans (hb2.mono B1.out.size)⟩
 first | rfl | (simp; omega) | simp

theorem rNodes_calls (c : Cr) : ∀ w, Lies w c → Calls Tryz.prog 22 #[.agg #[.int .i64 c.op, .int .i64 c.n, .int .i64 c.m, .slice c.at_ c.kids.length c.cap]] w fun e w' => e = .returned (.int .i64 (min c.total 4097 : Nat)) ∧ Below w.heap.size w w' := by
 refine Cr.ind (P := fun c => ∀ w, Lies w c → Calls Tryz.prog 22 #[.agg #[.int .i64 c.op, .int .i64 c.n, .int .i64 c.m, .slice c.at_ c.kids.length c.cap]] w fun e w' => e = .returned (.int .i64 (min c.total 4097 : Nat)) ∧ Below w.heap.size w w') (fun c ih => ?_) c
 intro w hl
 obtain ⟨w1, e1, b1, k2, s1⟩ := box1 w (.cells #[.int .i64 c.op, .int .i64 c.n, .int .i64 c.m, .slice c.at_ c.kids.length c.cap] 24)
 have HC := Lib.hid fun (w' : World) (hb : Below w1.heap.size w1 w') => core_cells (blk_below k2 hb)
 have HE := Lib.hid e1
 have B1 := Lib.hid b1
 have HL := Lib.hid (hl.below b1).kids
 have HRM := Lib.hid hl.room
 have HIH := Lib.hid ih
 obtain ⟨r, hr⟩ : ∃ r, min c.total 4097 = r := ⟨_, rfl⟩
 have HR := Lib.hid hr
 rw [hr]
 have HT := Lib.hid (show c.total = 1 + totalL c.kids from c.total_eq)
 obtain ⟨op, n, m, at_, cap, l⟩ := c
 simp only [Cr.op, Cr.n, Cr.m, Cr.at_, Cr.cap, Cr.kids] at *
 obtain ⟨T, hT⟩ : ∃ T, (Cr.node op n m at_ cap l).total = T := ⟨_, rfl⟩
 rw [hT] at HR HT
 obtain ⟨len, hlen⟩ : ∃ n, l.length = n := ⟨_, rfl⟩
 have HN := Lib.hid hlen
 rw [hlen] at HC HE HRM ⊢
 clear hl ih hr hT hlen k2 e1 b1 s1
 go_enter Tryz.func22, Tryz.ntmps22
 go_wp2_with fail
 rw [HE.out]
 go_loopg [3, 4] len (fun gg v5 v11 wr => ∃ (i k : Nat), v5 = .int .i64 k ∧ v11 = .int .i64 i ∧ Aside0 (i + gg = len ∧ k ≤ 8193 ∧ min k 4097 = min (1 + totalL (l.take i)) 4097) ∧ Aside0 (Below w1.heap.size w1 wr))
 case atStart => exact ⟨0, 1, rfl, rfl, ⟨by omega, by decide, by rw [List.take_zero, totalL]⟩, ⟨Below.refl _ _⟩⟩
 case round =>
  obtain ⟨i, k, rfl, rfl, hi, BW⟩ := hrel
  have HI := Lib.hid hi.out
  have HB := Lib.hid BW.out
  obtain ⟨x0, x1, x2, x3⟩ := HC.out _ BW.out
  clear hi BW
  by_cases hend : i < len ∧ k ≤ 4096
  ·obtain ⟨hlt, hk⟩ := hend
   obtain ⟨y, hy⟩ : ∃ y, l[i]? = some y := ⟨_, List.getElem?_eq_getElem (by rw [HN.out]; exact hlt)⟩
   obtain ⟨b, rfl, hblk, c0, c1, c2, c3⟩ := HL.out.cellsB HB.out hy
   have HY := Lib.hid hy
   have HYL := Lib.hid (LiesL.lies HL.out (List.mem_of_getElem? hy))
   have HYC := Lib.hid (HIH.out y (List.mem_of_getElem? hy))
   have q0 := eq_true (show (0 : Int) ≤ (i : Int) by omega)
   have q1 : ((i : Int) < (len : Int)) = True := eq_true (by omega)
   have q2 : (i < len) = True := eq_true hlt
   have q3 : ((k : Int) ≤ 4096) = True := eq_true (by omega)
   have q4 : (k ≤ 4096) = True := eq_true hk
   have HLT := Lib.hid (And.intro hlt hk)
   obtain ⟨t, ht⟩ : ∃ t, min y.total 4097 = t := ⟨_, rfl⟩
   obtain ⟨k2, hk2⟩ : ∃ k2, k + t = k2 := ⟨_, rfl⟩
   have HK2 := Lib.hid (show k2 ≤ 8193 ∧ min k2 4097 = min (1 + totalL (l.take (i + 1))) 4097 by
    have h1 := HI.out.2.2
    have h2 := totalL_take HY.out
    omega)
   have HTT := Lib.hid ht
   have w4 : wrap64 ((k : Int) + (t : Int)) = (k2 : Int) := by unfold wrap64; omega
   have w5 : wrap64 ((i : Int) + 1) = ((i + 1 : Nat) : Int) := by have := HRM.out; unfold wrap64; omega
   clear hy hlt hk ht hk2
   go_wp2_with fail
   refine calls_at (w1 := w1) HB.out (fun W hW => HYC.out W (HYL.out.below hW)) ?_
   intro w7 hb7
   rw [HTT.out]
   go_wp2_with fail
   go_roundg (gk - 1)
   case measure => clear w4 w5; have := HI.out; have := HLT.out; omega
   case rel => exact ⟨i + 1, k2, by first | rfl | simp [w4], by first | rfl | simp [w5], ⟨by clear w4 w5; have := HI.out; have := HLT.out; omega, HK2.out.1, HK2.out.2⟩, ⟨hb7⟩⟩
  ·have hrk : min k 4097 = r := by
    have h1 := HI.out
    have h2 := HR.out
    have h3 := HT.out
    have h4 := totalL_take_le l i
    by_cases hlt : i < len
    ·have : 4097 ≤ k := by omega
     omega
    ·rw [List.take_of_length_le (by rw [HN.out]; omega)] at h1
     omega
   have HRK := Lib.hid hrk
   by_cases hlt : i < len
   ·have q1 : ((i : Int) < (len : Int)) = True := eq_true (by omega)
    have q2 : (i < len) = True := eq_true hlt
    have q3 : ((k : Int) ≤ 4096) = False := eq_false (by omega)
    have q4 : (k ≤ 4096) = False := eq_false (by omega)
    have q5 : min (k : Int) 4097 = (r : Int) := by omega
    clear hrk hend hlt
    go_wp2_with fail
    all_goals
     go_ret
     refine ⟨?_, B1.out.trans (HB.out.mono B1.out.size)⟩
     have := HRK.out
     first | rfl | (show Ending.returned (.int .i64 _) = Ending.returned (.int .i64 _); congr 2; omega)
   ·have q1 : ((i : Int) < (len : Int)) = False := eq_false (by omega)
    have q2 : (i < len) = False := eq_false hlt
    have q5 : min (k : Int) 4097 = (r : Int) := by omega
    clear hrk hend hlt
    go_wp2_with fail
    all_goals
     go_ret
     refine ⟨?_, B1.out.trans (HB.out.mono B1.out.size)⟩
     have := HRK.out
     first | rfl | (show Ending.returned (.int .i64 _) = Ending.returned (.int .i64 _); congr 2; omega)
end Go.Proofs.YtpljkcakijkklaaGreatDoor

end
section
namespace Go.Proofs.YtpljkcakijkklaaGreatDoor
set_option linter.unusedVariables false
set_option linter.unusedSimpArgs false
open Go.RowKit Go.Proofs.YtpljkcakijkklaaGreatDoorW.PrintWords Go.Proofs.YtpljkcakijkklaaGreatDoorW.PrintLast Go.Proofs.YtpljkcakijkklaaGreatDoorW.PrintMore

mutual
def sameS : Cr → Cr → Bool
 | .node o x y _ _ l, .node o' x' y' _ _ l' => o == o' && (x == x' && (y == y' && sameL l l'))
def sameL : List Cr → List Cr → Bool
 | [], [] => true
 | a :: l, b :: l' => sameS a b && sameL l l'
 | [], _ :: _ => false
 | _ :: _, [] => false
end
theorem sameS_eq (a b : Cr) : sameS a b = (a.op == b.op && (a.n == b.n && (a.m == b.m && sameL a.kids b.kids))) := by
 cases a; cases b; rw [sameS]; rfl
theorem sameL_len : ∀ {l l' : List Cr}, ¬ l.length = l'.length → sameL l l' = false
 | [], [], h => absurd rfl h
 | [], _ :: _, _ => by rw [sameL]
 | _ :: _, [], _ => by rw [sameL]
 | a :: l, b :: l', h => by
  rw [sameL, sameL_len (l := l) (l' := l') (by simpa using h), Bool.and_false]
theorem sameL_drop {l l' : List Cr} {i : Nat} {a b : Cr} (ha : l[i]? = some a) (hb : l'[i]? = some b) : sameL (l.drop i) (l'.drop i) = (sameS a b && sameL (l.drop (i + 1)) (l'.drop (i + 1))) := by
 have h1 := (List.getElem?_eq_some_iff.1 ha).1
 have h2 := (List.getElem?_eq_some_iff.1 hb).1
 rw [List.getElem?_eq_getElem h1] at ha
 rw [List.getElem?_eq_getElem h2] at hb
 injection ha with ha
 injection hb with hb
 rw [List.drop_eq_getElem_cons h1, List.drop_eq_getElem_cons h2, sameL, ha, hb]
theorem sameL_end {l l' : List Cr} {i : Nat} (h : l.length ≤ i) (h' : l'.length ≤ i) : sameL (l.drop i) (l'.drop i) = true := by
 rw [List.drop_of_length_le h, List.drop_of_length_le h', sameL]
def SameC (a : Cr) : Prop := ∀ b W, Lies W a → Lies W b → Calls Tryz.prog 68 #[.agg #[.int .i64 a.op, .int .i64 a.n, .int .i64 a.m, .slice a.at_ a.kids.length a.cap], .agg #[.int .i64 b.op, .int .i64 b.n, .int .i64 b.m, .slice b.at_ b.kids.length b.cap]] W fun e w' => e = .returned (.bool (sameS a b)) ∧ Below W.heap.size W w'

theorem equalC_calls {A A' : Option Addr} {l l' : List Cr} (c c' : Nat) {w : World} (hl : LiesL w A 0 l) (hl' : LiesL w A' 0 l') (hbig : l.length ≤ 4398046511104) (ih : ∀ k ∈ l, SameC k) :
  Calls Tryz.prog 97 #[.slice A l.length c, .slice A' l'.length c', .func (.func 68) #[] #[]] w fun e w' => e = .returned (.bool (sameL l l')) ∧ Below w.heap.size w w' := by
 obtain ⟨r, hr⟩ : ∃ r, sameL l l' = r := ⟨_, rfl⟩
 have HR := Lib.hid hr
 have HL := Lib.hid hl
 have HL' := Lib.hid hl'
 have HI := Lib.hid ih
 obtain ⟨n, hn⟩ : ∃ n, l.length = n := ⟨_, rfl⟩
 obtain ⟨n', hn'⟩ : ∃ n, l'.length = n := ⟨_, rfl⟩
 have HN := Lib.hid hn
 have HN' := Lib.hid hn'
 rw [hr, hn, hn']
 rw [hn] at hbig
 have HBG := Lib.hid hbig
 by_cases hne : n = n'
 ·subst hne
  clear hl hl' ih hn hn' hr hbig
  go_enter Tryz.func97, Tryz.ntmps97
  go_wp2_with fail
  go_loopg [7, 8, 9, 17] n (fun gg _ _ _ v17 wr => ∃ i : Nat, v17 = .int .i64 i ∧ Aside0 (i + gg = n ∧ sameL (l.drop i) (l'.drop i) = r) ∧ Aside0 (Below w.heap.size w wr))
  case atStart => exact ⟨0, rfl, ⟨by omega, HR.out⟩, ⟨Below.refl _ _⟩⟩
  case round =>
   obtain ⟨i, rfl, hi, BW⟩ := hrel
   have HX := Lib.hid hi.out
   have HB := Lib.hid BW.out
   clear hi BW HR
   by_cases hlt : i < n
   ·obtain ⟨x, hx⟩ : ∃ x, l[i]? = some x := ⟨_, List.getElem?_eq_getElem (by rw [HN.out]; exact hlt)⟩
    obtain ⟨y, hy⟩ : ∃ y, l'[i]? = some y := ⟨_, List.getElem?_eq_getElem (by rw [HN'.out]; exact hlt)⟩
    have HD := Lib.hid (sameL_drop hx hy)
    obtain ⟨b, rfl, hblk, c0, c1, c2, c3⟩ := HL.out.cellsB HB.out hx
    obtain ⟨b', rfl, hblk', d0, d1, d2, d3⟩ := HL'.out.cellsB HB.out hy
    have HXL := Lib.hid (LiesL.lies HL.out (List.mem_of_getElem? hx))
    have HYL := Lib.hid (LiesL.lies HL'.out (List.mem_of_getElem? hy))
    have HXC := Lib.hid (HI.out x (List.mem_of_getElem? hx))
    have n1 : ¬ (b'.add (i * 4)).block = wr.heap.size := by have := HB.out.size; omega
    have n2 : ¬ wr.heap.size = (b'.add (i * 4)).block := by have := HB.out.size; omega
    have n3 : (b'.add (i * 4)).block < wr.heap.size := by have := HB.out.size; omega
    have n4 : (b'.add (i * 4)).block < wr.heap.size + 1 := by omega
    have q0 := eq_true (show (0 : Int) ≤ (i : Int) by omega)
    have q1 : ((i : Int) < (n : Int)) = True := eq_true (by omega)
    have q2 : (i < n) = True := eq_true hlt
    have HLT := Lib.hid hlt
    have w5 : wrap64 ((i : Int) + 1) = ((i + 1 : Nat) : Int) := by have := HBG.out; unfold wrap64; omega
    clear hx hy hlt
    cases hs : sameS x y with
    | false =>
     have HS := Lib.hid hs
     clear hs
     go_wp2_with fail
     refine calls_at (w1 := w) ?hX (fun W hW => HXC.out y W (HXL.out.below hW) (HYL.out.below hW)) ?_
     case hX => repeat (first | exact HB.out | refine Below.setCell ?_ HB.out.size _ | refine Below.setCell ?_ (Nat.le_succ_of_le HB.out.size) _ | refine Below.alloc ?_ HB.out.size _ | refine below_alloc ?_ _)
     intro w7 hb7
     rw [HS.out]
     go_wp2_with fail
     go_ret
     exact ⟨by rw [← HX.out.2, HD.out, HS.out]; rfl, hb7⟩
    | true =>
     have HS := Lib.hid hs
     clear hs
     go_wp2_with fail
     refine calls_at (w1 := w) ?hX (fun W hW => HXC.out y W (HXL.out.below hW) (HYL.out.below hW)) ?_
     case hX => repeat (first | exact HB.out | refine Below.setCell ?_ HB.out.size _ | refine Below.setCell ?_ (Nat.le_succ_of_le HB.out.size) _ | refine Below.alloc ?_ HB.out.size _ | refine below_alloc ?_ _)
     intro w7 hb7
     rw [HS.out]
     go_wp2_with fail
     go_roundg (gk - 1)
     case measure => clear w5; have := HX.out; have := HLT.out; omega
     case rel => exact ⟨i + 1, by first | rfl | simp [w5], ⟨by clear w5; have := HX.out; have := HLT.out; omega, by rw [← HX.out.2, HD.out, HS.out]; rfl⟩, ⟨hb7⟩⟩
   ·have q1 : ((i : Int) < (n : Int)) = False := eq_false (by omega)
    have q2 : (i < n) = False := eq_false hlt
    have hrr : r = true := by rw [← HX.out.2]; exact sameL_end (by rw [HN.out]; omega) (by rw [HN'.out]; omega)
    go_wp2_with fail
    go_ret
    exact ⟨by rw [hrr]; rfl, HB.out⟩
 ·have q1 : ((n : Int) != (n' : Int)) = true := by simp; omega
  have q2 : (n != n') = true := by simpa using hne
  have hrr : r = false := by rw [← hr]; exact sameL_len (by rw [hn, hn']; exact hne)
  subst hrr
  clear hl hl' ih hn hn' hr hbig
  go_enter Tryz.func97, Tryz.ntmps97
  go_wp2_with fail
  go_ret
  exact ⟨rfl, Below.refl _ _⟩

theorem same_heads {o n m o' n' m' : Int} {p p' : Option Addr} {k k' : Nat} {c c' : Nat} {w : World} (h : ¬ (o = o' ∧ n = n' ∧ m = m')) :
  Calls Tryz.prog 68 #[.agg #[.int .i64 o, .int .i64 n, .int .i64 m, .slice p k c], .agg #[.int .i64 o', .int .i64 n', .int .i64 m', .slice p' k' c']] w fun e w' => e = .returned (.bool false) ∧ Below w.heap.size w w' := by
 by_cases h1 : o = o'
 ·subst h1
  by_cases h2 : n = n'
  ·subst h2
   have h3 : (m == m') = false := by
    have : ¬ m = m' := fun e => h ⟨rfl, rfl, e⟩
    simpa using this
   have h4 : (m != m') = true := by simpa using h3
   clear h
   go_enter Tryz.func68, Tryz.ntmps68
   go_wp2_with fail
   go_ret
   exact ⟨rfl, below_alloc (below_alloc (Below.refl _ _) _) _⟩
  ·have h3 : (n == n') = false := by simpa using h2
   have h4 : (n != n') = true := by simpa using h2
   clear h
   go_enter Tryz.func68, Tryz.ntmps68
   go_wp2_with fail
   go_ret
   exact ⟨rfl, below_alloc (below_alloc (Below.refl _ _) _) _⟩
 ·have h3 : (o == o') = false := by simpa using h1
  have h4 : (o != o') = true := by simpa using h1
  clear h
  go_enter Tryz.func68, Tryz.ntmps68
  go_wp2_with fail
  go_ret
  exact ⟨rfl, below_alloc (below_alloc (Below.refl _ _) _) _⟩

theorem same_calls (a : Cr) : SameC a := by
 refine Cr.ind (P := SameC) (fun a ih => ?_) a
 intro b w ha hb
 by_cases h : a.op = b.op ∧ a.n = b.n ∧ a.m = b.m
 ·obtain ⟨h1, h2, h3⟩ := h
  have e : sameS a b = sameL a.kids b.kids := by rw [sameS_eq, h1, h2, h3]; simp
  rw [e, h1, h2, h3]
  obtain ⟨w1, e1, b1, k2, k3, s1⟩ := box2 w (.cells #[.int .i64 b.op, .int .i64 b.n, .int .i64 b.m, .slice a.at_ a.kids.length a.cap] 24) (.cells #[.int .i64 b.op, .int .i64 b.n, .int .i64 b.m, .slice b.at_ b.kids.length b.cap] 24)
  obtain ⟨y0, y1, y2, y3⟩ := core_cells k2
  obtain ⟨x0, x1, x2, x3⟩ := core_cells k3
  have HE := Lib.hid e1
  have B1 := Lib.hid b1
  have HQ := Lib.hid (equalC_calls a.cap b.cap (ha.below b1).kids (hb.below b1).kids (Nat.le_trans ha.room.2 (by decide)) ih)
  clear ha hb ih h1 h2 h3 e k2 k3 e1 b1 s1
  go_enter Tryz.func68, Tryz.ntmps68
  go_wp2_with fail
  rw [HE.out]
  go_wp2_with fail
  refine HQ.out.mono ?_
  rintro e w2 ⟨rfl, hb2⟩
  go_wp2_with fail
  go_ret
  exact ⟨rfl, B1.out.trans (hb2.mono B1.out.size)⟩
 ·have e : sameS a b = false := by
   rw [sameS_eq]
   cases h1 : (a.op == b.op)
   ·rfl
   ·cases h2 : (a.n == b.n)
    ·rfl
    ·cases h3 : (a.m == b.m)
     ·rfl
     ·exact absurd ⟨by simpa using h1, by simpa using h2, by simpa using h3⟩ h
  rw [e]
  exact same_heads h

theorem rsame_heads {o n m o' n' m' : Int} {p p' : Option Addr} {k k' : Nat} {c c' : Nat} {w : World} (h : ¬ (o = o' ∧ n = n' ∧ m = m')) :
  Calls Tryz.prog 75 #[.agg #[.int .i64 o, .int .i64 n, .int .i64 m, .slice p k c], .agg #[.int .i64 o', .int .i64 n', .int .i64 m', .slice p' k' c']] w fun e w' => e = .returned (.bool false) ∧ Below w.heap.size w w' := by
 by_cases h1 : o = o'
 ·subst h1
  by_cases h2 : n = n'
  ·subst h2
   have h3 : (m == m') = false := by
    have : ¬ m = m' := fun e => h ⟨rfl, rfl, e⟩
    simpa using this
   have h4 : (m != m') = true := by simpa using h3
   clear h
   go_enter Tryz.func75, Tryz.ntmps75
   go_wp2_with fail
   go_ret
   exact ⟨rfl, below_alloc (below_alloc (Below.refl _ _) _) _⟩
  ·have h3 : (n == n') = false := by simpa using h2
   have h4 : (n != n') = true := by simpa using h2
   clear h
   go_enter Tryz.func75, Tryz.ntmps75
   go_wp2_with fail
   go_ret
   exact ⟨rfl, below_alloc (below_alloc (Below.refl _ _) _) _⟩
 ·have h3 : (o == o') = false := by simpa using h1
  have h4 : (o != o') = true := by simpa using h1
  clear h
  go_enter Tryz.func75, Tryz.ntmps75
  go_wp2_with fail
  go_ret
  exact ⟨rfl, below_alloc (below_alloc (Below.refl _ _) _) _⟩

def SameR (a : Cr) : Prop := ∀ b W, Lies W a → Lies W b → Calls Tryz.prog 75 #[.agg #[.int .i64 a.op, .int .i64 a.n, .int .i64 a.m, .slice a.at_ a.kids.length a.cap], .agg #[.int .i64 b.op, .int .i64 b.n, .int .i64 b.m, .slice b.at_ b.kids.length b.cap]] W fun e w' => e = .returned (.bool (sameS a b)) ∧ Below W.heap.size W w'
theorem rsame_len {o n m : Int} {p p' : Option Addr} {k k' : Nat} {c c' : Nat} {w : World} (h : ¬ k = k') :
  Calls Tryz.prog 75 #[.agg #[.int .i64 o, .int .i64 n, .int .i64 m, .slice p k c], .agg #[.int .i64 o, .int .i64 n, .int .i64 m, .slice p' k' c']] w fun e w' => e = .returned (.bool false) ∧ Below w.heap.size w w' := by
 have h3 : ((k : Int) != (k' : Int)) = true := by simp; omega
 have h4 : (k != k') = true := by simpa using h
 clear h
 go_enter Tryz.func75, Tryz.ntmps75
 go_wp2_with fail
 go_ret
 exact ⟨rfl, below_alloc (below_alloc (Below.refl _ _) _) _⟩

theorem rsame_calls (a : Cr) : SameR a := by
 refine Cr.ind (P := SameR) (fun a ih => ?_) a
 intro b w ha hb
 by_cases h : a.op = b.op ∧ a.n = b.n ∧ a.m = b.m
 ·obtain ⟨h1, h2, h3⟩ := h
  have e : sameS a b = sameL a.kids b.kids := by rw [sameS_eq, h1, h2, h3]; simp
  rw [e, h1, h2, h3]
  by_cases hlen : a.kids.length = b.kids.length
  ·obtain ⟨r, hr⟩ : ∃ r, sameL a.kids b.kids = r := ⟨_, rfl⟩
   rw [hr]
   obtain ⟨w1, e1, b1, k2, k3, s1⟩ := box2 w (.cells #[.int .i64 b.op, .int .i64 b.n, .int .i64 b.m, .slice a.at_ a.kids.length a.cap] 24) (.cells #[.int .i64 b.op, .int .i64 b.n, .int .i64 b.m, .slice b.at_ b.kids.length b.cap] 24)
   have HR := Lib.hid (show sameL (a.kids.drop 0) (b.kids.drop 0) = r from hr)
   have HE := Lib.hid e1
   have B1 := Lib.hid b1
   have HL := Lib.hid (ha.below b1).kids
   have HL' := Lib.hid (hb.below b1).kids
   have HI := Lib.hid ih
   have HRM := Lib.hid ha.room.2
   obtain ⟨n, hn⟩ : ∃ n, a.kids.length = n := ⟨_, rfl⟩
   have HN := Lib.hid hn
   have HN' := Lib.hid (hlen.symm.trans hn)
   rw [← hlen] at HE k3 ⊢
   rw [hn] at HE k2 k3 HRM ⊢
   have HC := Lib.hid fun (w' : World) (hb : Below w1.heap.size w1 w') => (show _ ∧ _ from ⟨core_cells (blk_below k2 hb), core_cells (blk_below k3 hb)⟩)
   obtain ⟨⟨y0, y1, y2, y3⟩, ⟨x0, x1, x2, x3⟩⟩ := HC.out w1 (Below.refl _ _)
   clear ha hb ih h1 h2 h3 e k2 k3 e1 b1 s1 hn hlen hr
   go_enter Tryz.func75, Tryz.ntmps75
   go_wp2_with fail
   rw [HE.out]
   go_wp2_with fail
   clear y0 y1 y2 y3 x0 x1 x2 x3
   go_loopg [5] n (fun gg v5 wr => ∃ i : Nat, v5 = .int .i64 i ∧ Aside0 (i + gg = n ∧ sameL (a.kids.drop i) (b.kids.drop i) = r) ∧ Aside0 (Below w1.heap.size w1 wr))
   case atStart => exact ⟨0, rfl, ⟨by omega, HR.out⟩, ⟨Below.refl _ _⟩⟩
   case round =>
    obtain ⟨i, rfl, hi, BW⟩ := hrel
    have HX := Lib.hid hi.out
    have HB := Lib.hid BW.out
    clear hi BW HR
    obtain ⟨⟨y0, y1, y2, y3⟩, ⟨x0, x1, x2, x3⟩⟩ := HC.out wr HB.out
    by_cases hlt : i < n
    ·obtain ⟨x, hx⟩ : ∃ x, a.kids[i]? = some x := ⟨_, List.getElem?_eq_getElem (by rw [HN.out]; exact hlt)⟩
     obtain ⟨y, hy⟩ : ∃ y, b.kids[i]? = some y := ⟨_, List.getElem?_eq_getElem (by rw [HN'.out]; exact hlt)⟩
     have HD := Lib.hid (sameL_drop hx hy)
     obtain ⟨p, hp, -⟩ := HL.out.cellsB HB.out hx
     obtain ⟨p', hp', -⟩ := HL'.out.cellsB HB.out hy
     have HK := Lib.hid fun (w' : World) (hb : Below w1.heap.size w1 w') => (show _ ∧ _ from ⟨HL.out.cellsB hb hx, HL'.out.cellsB hb hy⟩)
     rw [hp] at HC HK y3
     rw [hp'] at HC HK x3
     have HC2 := Lib.hid fun (w' : World) (hb : Below w1.heap.size w1 w') => (show (_ ∧ _) ∧ (w'.cell? (p.add (i * 4)) = some (.int .i64 x.op) ∧ w'.cell? ⟨(p.add (i * 4)).block, (p.add (i * 4)).off + 1, none⟩ = some (.int .i64 x.n) ∧ w'.cell? ⟨(p.add (i * 4)).block, (p.add (i * 4)).off + 2, none⟩ = some (.int .i64 x.m) ∧ w'.cell? ⟨(p.add (i * 4)).block, (p.add (i * 4)).off + 3, none⟩ = some (.slice x.at_ x.kids.length x.cap)) ∧ (w'.cell? (p'.add (i * 4)) = some (.int .i64 y.op) ∧ w'.cell? ⟨(p'.add (i * 4)).block, (p'.add (i * 4)).off + 1, none⟩ = some (.int .i64 y.n) ∧ w'.cell? ⟨(p'.add (i * 4)).block, (p'.add (i * 4)).off + 2, none⟩ = some (.int .i64 y.m) ∧ w'.cell? ⟨(p'.add (i * 4)).block, (p'.add (i * 4)).off + 3, none⟩ = some (.slice y.at_ y.kids.length y.cap)) from by
      obtain ⟨⟨q, hq, -, c0, c1, c2, c3⟩, ⟨q', hq', -, d0, d1, d2, d3⟩⟩ := HK.out w' hb
      injection hq with hq
      injection hq' with hq'
      subst hq hq'
      exact ⟨HC.out w' hb, ⟨c0, c1, c2, c3⟩, ⟨d0, d1, d2, d3⟩⟩)
     have HXL := Lib.hid (LiesL.lies HL.out (List.mem_of_getElem? hx))
     have HYL := Lib.hid (LiesL.lies HL'.out (List.mem_of_getElem? hy))
     have HXC := Lib.hid (HI.out x (List.mem_of_getElem? hx))
     have q0 := eq_true (show (0 : Int) ≤ (i : Int) by omega)
     have q1 : ((i : Int) < (n : Int)) = True := eq_true (by omega)
     have q2 : (i < n) = True := eq_true hlt
     have HLT := Lib.hid hlt
     have w5 : wrap64 ((i : Int) + 1) = ((i + 1 : Nat) : Int) := by have := HRM.out; unfold wrap64; omega
     obtain ⟨bs, hbs⟩ : ∃ bs, sameS x y = bs := ⟨_, rfl⟩
     have HS := Lib.hid hbs
     clear hx hy hlt hbs HK HC hp hp'
     go_wp2_with fail
     clear y0 y1 y2 y3 x0 x1 x2 x3
     refine wp_region_held_drew (S := fun w' => Aside0 (Below w1.heap.size w1 w')) (by kernel_rfl) ?_ (fun hHeld => ?_)
     ·exact ⟨HB.out.drew⟩
     generalize World.drew _ = wDs at hHeld ⊢
     have HCr := HC2
     refine' tk 0 ?_
     try simp only [pt]
     refine' tk 1 ?_
     try simp only [pt]
     refine' tk 2 ?_
     try simp only [pt]
     refine' tk 3 ?_
     try simp only [pt]
     refine' tk 4 ?_
     try simp only [pt]
     refine' tk 5 ?_
     try simp only [pt]
     refine' tk 6 ?_
     try simp only [pt]
     refine' tk 7 ?_
     try simp only [pt]
     refine' tk 8 ?_
     try simp only [pt]
     refine' tk 9 ?_
     try simp only [pt]
     refine' cm 10 (fun K hK => ?_)
     go_simp
     refine (HXC.out y _ (HXL.out.below hHeld.out) (HYL.out.below hHeld.out)).mono ?_
     rintro e w7 ⟨rfl, hb2⟩
     rw [HS.out]
     refine hK.out _ _ ⟨hHeld.out.trans (hb2.mono hHeld.out.size)⟩ (fun hHeld => ?_)
     clear hK K
     try simp only [pt]
     refine' tk 11 ?_
     try simp only [pt]
     refine wpAnyH_done (by kernel_rfl) ?_ _
     cases bs with
     | false =>
      go_wp2_with fail
      go_ret
      exact ⟨by rw [← HX.out.2, HD.out, HS.out]; rfl, B1.out.trans (hHeld.out.mono B1.out.size)⟩
     | true =>
      go_wp2_with fail
      go_roundg (gk - 1)
      case measure => clear w5; have := HX.out; have := HLT.out; omega
      case rel => exact ⟨i + 1, by first | rfl | simp [w5], ⟨by clear w5; have := HX.out; have := HLT.out; omega, by rw [← HX.out.2, HD.out, HS.out]; rfl⟩, ⟨hHeld.out⟩⟩
    ·have q1 : ((i : Int) < (n : Int)) = False := eq_false (by omega)
     have q2 : (i < n) = False := eq_false hlt
     have hrr : r = true := by rw [← HX.out.2]; exact sameL_end (by rw [HN.out]; omega) (by rw [HN'.out]; omega)
     go_wp2_with fail
     go_ret
     exact ⟨by rw [hrr]; rfl, B1.out.trans (HB.out.mono B1.out.size)⟩
  ·rw [sameL_len hlen]
   exact rsame_len hlen
 ·have e : sameS a b = false := by
   rw [sameS_eq]
   cases h1 : (a.op == b.op)
   ·rfl
   ·cases h2 : (a.n == b.n)
    ·rfl
    ·cases h3 : (a.m == b.m)
     ·rfl
     ·exact absurd ⟨by simpa using h1, by simpa using h2, by simpa using h3⟩ h
  rw [e]
  exact rsame_heads h
end Go.Proofs.YtpljkcakijkklaaGreatDoor

end
section
namespace Go.Proofs.YtpljkcakijkklaaGreatDoor
set_option linter.unusedVariables false
set_option linter.unusedSimpArgs false
open Go.RowKit Go.Proofs.YtpljkcakijkklaaGreatDoorW.PrintWords Go.Proofs.YtpljkcakijkklaaGreatDoorW.PrintLast Go.Proofs.YtpljkcakijkklaaGreatDoorW.PrintMore

def StepS (g : Nat) (lb : Array Value) (St : Nat → World → Prop) (Fin : World → Prop) (l : List Cr) : Prop :=
 ∀ i k, l[i]? = some k → ∀ W, St i W → Calls Tryz.prog g (#[.agg #[.int .i64 k.op, .int .i64 k.n, .int .i64 k.m, .slice k.at_ k.kids.length k.cap]] ++ lb) W fun e w' => (e = .returned (.bool true) ∧ Fin w') ∨ (e = .returned (.bool false) ∧ St (i + 1) w')

theorem indexS_calls {g : Nat} {lb : Array Value} (eg : ∀ args w, (callFunc g args).run Tryz.prog w = .ok (.enter g args) w) {St : Nat → World → Prop} {Fin : World → Prop} {A : Option Addr} {l : List Cr} (c : Nat) {w : World} (hL : ∀ i W, St i W → LiesL W A 0 l) (hbig : l.length ≤ 4398046511104)
  (h0 : St 0 w) (hp : StepS g lb St Fin l) :
  Calls Tryz.prog 96 #[.slice A l.length c, .func (.func g) #[] lb] w fun e w' => ∃ r : Int, e = .returned (.int .i64 r) ∧ ((0 ≤ r ∧ Fin w') ∨ (r < 0 ∧ St l.length w')) := by
 obtain ⟨n, hn⟩ : ∃ n, l.length = n := ⟨_, rfl⟩
 have HL := Lib.hid hL
 have HP := Lib.hid hp
 have HN := Lib.hid hn
 have H0 := Lib.hid h0
 rw [hn]
 rw [hn] at hbig
 clear hL hp hn h0
 go_enter Tryz.func96, Tryz.ntmps96
 go_wp2
 go_loopg [5, 8] n (fun gg _ s8 wr => ∃ kk : Nat, kk ≤ n ∧ n - kk ≤ gg ∧ s8 = .int .i64 kk ∧ Aside0 (St kk wr))
 case atStart => exact ⟨0, Nat.zero_le _, by omega, rfl, ⟨H0.out⟩⟩
 case round =>
  obtain ⟨kk, hkk, hg, rfl, BW⟩ := hrel
  have HB := Lib.hid BW.out
  clear BW
  by_cases hlt : kk < n
  ·have hltz : ((kk : Int) < (n : Int)) = True := eq_true (by omega)
   have h0 := eq_true (show (0 : Int) ≤ (kk : Int) by omega)
   obtain ⟨y, hy⟩ : ∃ y, l[kk]? = some y := ⟨_, List.getElem?_eq_getElem (by rw [HN.out]; exact hlt)⟩
   obtain ⟨b, rfl, hblk, c0, c1, c2, c3⟩ := (HL.out kk _ HB.out).cellsB (Below.refl _ _) hy
   have hcall := HP.out kk y hy _ HB.out
   have HQ := Lib.hid hcall
   have hw : wrap64 ((kk : Int) + 1) = ((kk + 1 : Nat) : Int) := by unfold wrap64; omega
   clear hy hcall
   go_wp2_with fail
   refine HQ.out.mono ?_
   rintro e w' (⟨rfl, hf⟩ | ⟨rfl, hf⟩)
   ·have HF := Lib.hid hf
    clear hf
    go_wp2_with fail
    go_ret
    exact ⟨_, rfl, .inl ⟨Int.natCast_nonneg _, HF.out⟩⟩
   ·have HF := Lib.hid hf
    clear hf
    go_wp2_with fail
    go_roundg (n - (kk + 1))
    case measure => clear hw; omega
    case rel =>
     have e9 : ((kk : Int) + 1) = ((kk + 1 : Nat) : Int) := rfl
     clear hw
     exact ⟨kk + 1, by omega, by omega, by first | rfl | simp, ⟨HF.out⟩⟩
  ·have hltz : ((kk : Int) < (n : Int)) = False := eq_false (by omega)
   have : kk = n := by omega
   subst this
   go_wp2
   go_ret
   exact ⟨_, rfl, .inr ⟨by decide, HB.out⟩⟩
theorem containsS_calls {g : Nat} {lb : Array Value} (eg : ∀ args w, (callFunc g args).run Tryz.prog w = .ok (.enter g args) w) {St : Nat → World → Prop} {Fin : World → Prop} {A : Option Addr} {l : List Cr} (c : Nat) {w : World} (hL : ∀ i W, St i W → LiesL W A 0 l) (hbig : l.length ≤ 4398046511104)
  (h0 : St 0 w) (hp : StepS g lb St Fin l) :
  Calls Tryz.prog 65 #[.slice A l.length c, .func (.func g) #[] lb] w fun e w' => (e = .returned (.bool true) ∧ Fin w') ∨ (e = .returned (.bool false) ∧ St l.length w') := by
 have hi := indexS_calls eg c hL hbig h0 hp
 have HI := Lib.hid hi
 clear hi hp hL h0
 go_enter Tryz.func65, Tryz.ntmps65
 go_wp2_with fail
 refine HI.out.mono ?_
 rintro e w' ⟨r, rfl, ⟨hr, hf⟩ | ⟨hr, hf⟩⟩
 ·have HF := Lib.hid hf
  have q0 : (0 ≤ r) = True := eq_true hr
  clear hf hr
  go_wp2
  go_ret
  exact .inl ⟨by first | rfl | simp, HF.out⟩
 ·have HF := Lib.hid hf
  have q0 : (0 ≤ r) = False := eq_false (by omega)
  clear hf hr
  go_wp2
  go_ret
  exact .inr ⟨by first | rfl | simp, HF.out⟩
end Go.Proofs.YtpljkcakijkklaaGreatDoor

end
section
namespace Go.Proofs.YtpljkcakijkklaaGreatDoor
set_option linter.unusedVariables false
set_option linter.unusedSimpArgs false
open Go.RowKit Go.Proofs.YtpljkcakijkklaaGreatDoorW.PrintWords Go.Proofs.YtpljkcakijkklaaGreatDoorW.PrintLast Go.Proofs.YtpljkcakijkklaaGreatDoorW.PrintMore

def arityS (op : Int) : Int :=
 if 1 ≤ op ∧ op ≤ 6 ∨ op = 29 then 0 else if 7 ≤ op ∧ op ≤ 13 ∨ op = 30 ∨ op = 31 then 1 else if 14 ≤ op ∧ op ≤ 27 then 2 else if op = 28 then 3 else if op = 32 then -1 else -2
theorem arity_calls (op : Int) (w : World) : Calls Tryz.prog 25 #[.int .i64 op] w fun e w' => e = .returned (.int .i64 (arityS op)) ∧ w' = w := by
 go_enter Tryz.func25, Tryz.ntmps25
 go_wp2
 all_goals
  go_ret
  refine ⟨?_, rfl⟩
  first | (simp_all [arityS]; done) | (simp_all [arityS]; omega) | (simp only [arityS]; congr 2; simp_all; (repeat' split) <;> first | rfl | omega)

def fieldsS (rw rc rl op n m : Int) : Bool :=
 if op = 1 then decide (m = 0)
 else if op = 2 then decide ((n = 0 ∨ n = 1) ∧ m = 0)
 else if op = 4 then decide (0 ≤ n ∧ n < rw ∧ m = 0)
 else if op = 5 then decide (0 ≤ n ∧ n < rc ∧ m = 0)
 else if op = 7 then decide (0 ≤ n ∧ n < rl ∧ m = 0)
 else if op = 6 then decide (1 ≤ n ∧ n ≤ 3 ∧ (m = 1 ∨ m = 2))
 else if op = 13 then decide (0 ≤ n ∧ 1 ≤ m)
 else decide (n = 0 ∧ m = 0)
theorem fields_calls (rw rc rl op n m : Int) (a : Option Addr) (l k : Nat) (w : World) : Calls Tryz.prog 26 #[.agg #[.int .i64 rw, .int .i64 rc, .int .i64 rl], .agg #[.int .i64 op, .int .i64 n, .int .i64 m, .slice a l k]] w fun e w' => e = .returned (.bool (fieldsS rw rc rl op n m)) ∧ Below w.heap.size w w' := by
 go_enter Tryz.func26, Tryz.ntmps26
 go_wp2
 all_goals
  go_ret
  refine ⟨?_, below_alloc (below_alloc (Below.refl _ _) _) _⟩
  first | (simp_all [fieldsS]; done) | (simp_all [fieldsS]; omega) | (simp_all [fieldsS]; rw [Bool.eq_iff_iff]; simp; done) | (simp_all [fieldsS]; rw [Bool.eq_iff_iff]; simp; omega)
end Go.Proofs.YtpljkcakijkklaaGreatDoor

end
section
namespace Go.Proofs.YtpljkcakijkklaaGreatDoor
set_option linter.unusedVariables false
set_option linter.unusedSimpArgs false
open Go.RowKit Go.Proofs.YtpljkcakijkklaaGreatDoorW.PrintWords Go.Proofs.YtpljkcakijkklaaGreatDoorW.PrintLast Go.Proofs.YtpljkcakijkklaaGreatDoorW.PrintMore

def SortR (rw rc rl : Int) (k : Cr) (v : Int) : Prop :=
 ∀ W, Lies W k → Calls Tryz.prog 10 #[.agg #[.int .i64 rw, .int .i64 rc, .int .i64 rl], .agg #[.int .i64 k.op, .int .i64 k.n, .int .i64 k.m, .slice k.at_ k.kids.length k.cap]] W fun e w' => e = .returned (.int .i64 v) ∧ Below W.heap.size W w'
theorem room2_cells {w : World} {g : Nat} {a b c : Int} (h : w.heap[g]? = some (.cells #[.int .i64 a, .int .i64 b, .int .i64 c] 38 (0, 0))) :
  w.cell? ⟨g, 0, none⟩ = some (.int .i64 a) ∧ w.cell? ⟨g, 1, none⟩ = some (.int .i64 b) ∧ w.cell? ⟨g, 2, none⟩ = some (.int .i64 c) :=
 ⟨(blk_cell h 0).trans rfl, (blk_cell h 1).trans rfl, (blk_cell h 2).trans rfl⟩
def ladB (s : Cr → Int) (l : List Cr) : Bool := decide (2 ≤ l.length) && (decide (l.length % 2 = 0) && (match l with | a :: t => s a == 1 && rungsP s none t | [] => false))
def prvL (l : List Cr) (i : Nat) : Option Int := if i = 1 then none else (l[i - 2]?).map Cr.n

section
variable {rw rc rl : Int} {A : Option Addr} {l : List Cr} {w : World}
theorem rlad_short {len : Nat} (h : len < 2) (c : Nat) : Calls Tryz.prog 27 #[.agg #[.int .i64 rw, .int .i64 rc, .int .i64 rl], .slice A len c] w fun e w' => e = .returned (.bool false) ∧ Below w.heap.size w w' := by
 obtain ⟨w1, e1, b1, k2, s1⟩ := box1 w (.cells #[.int .i64 rw, .int .i64 rc, .int .i64 rl] 38)
 have HE := Lib.hid e1
 have B1 := Lib.hid b1
 have HC := Lib.hid fun (w' : World) (hb : Below w1.heap.size w1 w') => (show (w'.cell? ⟨w.heap.size, 0, none⟩ = some (.int .i64 rw) ∧ w'.cell? ⟨w.heap.size, 1, none⟩ = some (.int .i64 rc) ∧ w'.cell? ⟨w.heap.size, 2, none⟩ = some (.int .i64 rl)) from room2_cells (blk_below k2 hb))
 have q1 : ((len : Int) < 2) = True := eq_true (by omega)
 have q2 : (len < 2) = True := eq_true h
 clear k2 e1 b1 s1 h
 go_enter Tryz.func27, Tryz.ntmps27
 go_wp2_with fail
 rw [HE.out]
 refine wp_region_held_drew (S := fun w' => Aside0 (Below w1.heap.size w1 w')) (by kernel_rfl) ?_ (fun hHeld => ?_)
 ·exact ⟨(Below.refl _ _).drew⟩
 generalize World.drew _ = wDa at hHeld ⊢
 have HCr := HC
 refine' tk 0 ?_
 try simp only [pt]
 refine' tk 1 ?_
 try simp only [pt]
 refine' tk 2 ?_
 try simp only [pt]
 refine' tn 3 ?_
 try simp only [pt]
 refine' tn 4 ?_
 try simp only [pt]
 refine' tn 5 ?_
 try simp only [pt]
 refine' tk 6 ?_
 try simp only [pt]
 refine' tk 7 ?_
 try simp only [pt]
 refine' tn 8 ?_
 try simp only [pt]
 refine' tn 9 ?_
 try simp only [pt]
 refine' tn 10 ?_
 try simp only [pt]
 refine' tn 11 ?_
 try simp only [pt]
 refine' tn 12 ?_
 try simp only [pt]
 refine' tn 13 ?_
 try simp only [pt]
 refine' tk 14 ?_
 try simp only [pt]
 refine wpAnyH_done (by kernel_rfl) ?_ _
 go_wp2_with fail
 go_ret
 exact ⟨rfl, B1.out.trans (hHeld.out.mono B1.out.size)⟩
theorem rlad_odd {len : Nat} (h : 2 ≤ len) (h1 : len % 2 = 1) (c : Nat) : Calls Tryz.prog 27 #[.agg #[.int .i64 rw, .int .i64 rc, .int .i64 rl], .slice A len c] w fun e w' => e = .returned (.bool false) ∧ Below w.heap.size w w' := by
 obtain ⟨w1, e1, b1, k2, s1⟩ := box1 w (.cells #[.int .i64 rw, .int .i64 rc, .int .i64 rl] 38)
 have HE := Lib.hid e1
 have B1 := Lib.hid b1
 have HC := Lib.hid fun (w' : World) (hb : Below w1.heap.size w1 w') => (show (w'.cell? ⟨w.heap.size, 0, none⟩ = some (.int .i64 rw) ∧ w'.cell? ⟨w.heap.size, 1, none⟩ = some (.int .i64 rc) ∧ w'.cell? ⟨w.heap.size, 2, none⟩ = some (.int .i64 rl)) from room2_cells (blk_below k2 hb))
 have q1 : ((len : Int) < 2) = False := eq_false (by omega)
 have q2 : (len < 2) = False := eq_false (by omega)
 have q3 : (len : Int).tmod 2 = 1 := by rw [Int.tmod_eq_emod_of_nonneg (by omega)]; omega
 clear k2 e1 b1 s1 h h1
 go_enter Tryz.func27, Tryz.ntmps27
 go_wp2_with fail
 rw [HE.out]
 refine wp_region_held_drew (S := fun w' => Aside0 (Below w1.heap.size w1 w')) (by kernel_rfl) ?_ (fun hHeld => ?_)
 ·exact ⟨(Below.refl _ _).drew⟩
 generalize World.drew _ = wDa at hHeld ⊢
 have HCr := HC
 refine' tk 0 ?_
 try simp only [pt]
 refine' tk 1 ?_
 try simp only [pt]
 refine' tk 2 ?_
 try simp only [pt]
 refine' tk 3 ?_
 try simp only [pt]
 refine' tk 4 ?_
 try simp only [pt]
 refine' tk 5 ?_
 try simp only [pt]
 refine' tk 6 ?_
 try simp only [pt]
 refine' tk 7 ?_
 try simp only [pt]
 refine' tn 8 ?_
 try simp only [pt]
 refine' tn 9 ?_
 try simp only [pt]
 refine' tn 10 ?_
 try simp only [pt]
 refine' tn 11 ?_
 try simp only [pt]
 refine' tn 12 ?_
 try simp only [pt]
 refine' tn 13 ?_
 try simp only [pt]
 refine' tk 14 ?_
 try simp only [pt]
 refine wpAnyH_done (by kernel_rfl) ?_ _
 go_wp2_with fail
 go_ret
 exact ⟨rfl, B1.out.trans (hHeld.out.mono B1.out.size)⟩
theorem rlad_first (s : Cr → Int) (h : 2 ≤ l.length) (he : l.length % 2 = 0) (hbig : l.length ≤ 4398046511104) (hl : LiesL w A 0 l) (ih : ∀ k ∈ l, SortR rw rc rl k (s k)) (h1 : ∀ a t, l = a :: t → ¬ s a = 1) (c : Nat) : Calls Tryz.prog 27 #[.agg #[.int .i64 rw, .int .i64 rc, .int .i64 rl], .slice A l.length c] w fun e w' => e = .returned (.bool false) ∧ Below w.heap.size w w' := by
 obtain ⟨a, t, rfl⟩ : ∃ a t, l = a :: t := by
  match l, h with
  | a :: t, _ => exact ⟨a, t, rfl⟩
 obtain ⟨b, rfl⟩ : ∃ b, A = some b := by
  obtain ⟨b, hb, -⟩ := hl.cells (i := 0) (k := a) rfl
  exact ⟨b, hb⟩
 obtain ⟨w1, e1, b1, k2, s1⟩ := box1 w (.cells #[.int .i64 rw, .int .i64 rc, .int .i64 rl] 38)
 have HE := Lib.hid e1
 have B1 := Lib.hid b1
 have HL := Lib.hid (hl.below b1)
 have HK2 := Lib.hid k2
 have HIH := Lib.hid ih
 have KA := Lib.hid (ih a (by simp))
 have LA := Lib.hid (LiesL.lies (hl.below b1) (k := a) (by simp))
 have HC := Lib.hid fun (w' : World) (hb : Below w1.heap.size w1 w') => (show (w'.cell? ⟨w.heap.size, 0, none⟩ = some (.int .i64 rw) ∧ w'.cell? ⟨w.heap.size, 1, none⟩ = some (.int .i64 rc) ∧ w'.cell? ⟨w.heap.size, 2, none⟩ = some (.int .i64 rl)) ∧ (w'.cell? b = some (.int .i64 a.op) ∧ w'.cell? ⟨b.block, b.off + 1, none⟩ = some (.int .i64 a.n) ∧ w'.cell? ⟨b.block, b.off + 2, none⟩ = some (.int .i64 a.m) ∧ w'.cell? ⟨b.block, b.off + 3, none⟩ = some (.slice a.at_ a.kids.length a.cap)) from ⟨room2_cells (blk_below HK2.out hb), HL.out.lit0 hb rfl⟩)
 obtain ⟨len, hlen⟩ : ∃ n, (a :: t).length = n := ⟨_, rfl⟩
 have HN := Lib.hid hlen
 rw [hlen] at h he hbig ⊢
 have q1 : ((len : Int) < 2) = False := eq_false (by omega)
 have q2 : (len < 2) = False := eq_false (by omega)
 have q4 : (0 < len) = True := eq_true (by omega)
 have q5 : ((0 : Int) < (len : Int)) = True := eq_true (by omega)
 have HBG := Lib.hid (show len ≤ 4398046511104 ∧ len % 2 = 0 ∧ 2 ≤ len from ⟨hbig, he, h⟩)
 have q3 : (len : Int).tmod 2 = 0 := by rw [Int.tmod_eq_emod_of_nonneg (by omega)]; omega
 have q6 : (s a != 1) = true := by simpa using h1 a t rfl
 clear k2 e1 b1 s1 h h1 he hbig hl ih hlen
 go_enter Tryz.func27, Tryz.ntmps27
 go_wp2_with fail
 rw [HE.out]
 refine wp_region_held_drew (S := fun w' => Aside0 (Below w1.heap.size w1 w')) (by kernel_rfl) ?_ (fun hHeld => ?_)
 ·exact ⟨(Below.refl _ _).drew⟩
 generalize World.drew _ = wDa at hHeld ⊢
 have HCr := HC
 refine' tk 0 ?_
 try simp only [pt]
 refine' tk 1 ?_
 try simp only [pt]
 refine' tk 2 ?_
 try simp only [pt]
 refine' tk 3 ?_
 try simp only [pt]
 refine' tk 4 ?_
 try simp only [pt]
 refine' tk 5 ?_
 try simp only [pt]
 refine' tk 6 ?_
 try simp only [pt]
 refine' tk 7 ?_
 try simp only [pt]
 refine' tk 8 ?_
 try simp only [pt]
 refine' tk 9 ?_
 try simp only [pt]
 refine' tk 10 ?_
 try simp only [pt]
 refine' tk 11 ?_
 try simp only [pt]
 refine' cm 12 (fun K hK => ?_)
 go_simp
 refine (KA.out _ (LA.out.below hHeld.out)).mono ?_
 rintro e w7 ⟨rfl, hb2⟩
 refine hK.out _ _ ⟨hHeld.out.trans (hb2.mono hHeld.out.size)⟩ (fun hHeld => ?_)
 clear hK K
 try simp only [pt]
 refine' tk 13 ?_
 try simp only [pt]
 refine' tk 14 ?_
 try simp only [pt]
 refine wpAnyH_done (by kernel_rfl) ?_ _
 go_wp2_with fail
 go_ret
 exact ⟨rfl, B1.out.trans (hHeld.out.mono B1.out.size)⟩
theorem prvL_step {l : List Cr} {i : Nat} {x : Cr} (hx : l[i]? = some x) (hi : 1 ≤ i) : prvL l (i + 2) = some x.n := by
 unfold prvL
 rw [if_neg (by omega), Nat.add_sub_cancel, hx]
 rfl
theorem rlad_rungs (s : Cr → Int) (h : 2 ≤ l.length) (he : l.length % 2 = 0) (hbig : l.length ≤ 4398046511104) (hl : LiesL w A 0 l) (ih : ∀ k ∈ l, SortR rw rc rl k (s k)) (h1 : ∀ a t, l = a :: t → s a = 1) {r : Bool} (hr : ∀ a t, l = a :: t → rungsP s none t = r) (c : Nat) : Calls Tryz.prog 27 #[.agg #[.int .i64 rw, .int .i64 rc, .int .i64 rl], .slice A l.length c] w fun e w' => e = .returned (.bool r) ∧ Below w.heap.size w w' := by
 obtain ⟨a, t, rfl⟩ : ∃ a t, l = a :: t := by
  match l, h with
  | a :: t, _ => exact ⟨a, t, rfl⟩
 obtain ⟨b, rfl⟩ : ∃ b, A = some b := by
  obtain ⟨b, hb, -⟩ := hl.cells (i := 0) (k := a) rfl
  exact ⟨b, hb⟩
 obtain ⟨w1, e1, b1, k2, s1⟩ := box1 w (.cells #[.int .i64 rw, .int .i64 rc, .int .i64 rl] 38)
 have HE := Lib.hid e1
 have B1 := Lib.hid b1
 have HL := Lib.hid (hl.below b1)
 have HK2 := Lib.hid k2
 have HIH := Lib.hid ih
 have KA := Lib.hid (ih a (by simp))
 have LA := Lib.hid (LiesL.lies (hl.below b1) (k := a) (by simp))
 have HC := Lib.hid fun (w' : World) (hb : Below w1.heap.size w1 w') => (show (w'.cell? ⟨w.heap.size, 0, none⟩ = some (.int .i64 rw) ∧ w'.cell? ⟨w.heap.size, 1, none⟩ = some (.int .i64 rc) ∧ w'.cell? ⟨w.heap.size, 2, none⟩ = some (.int .i64 rl)) ∧ (w'.cell? b = some (.int .i64 a.op) ∧ w'.cell? ⟨b.block, b.off + 1, none⟩ = some (.int .i64 a.n) ∧ w'.cell? ⟨b.block, b.off + 2, none⟩ = some (.int .i64 a.m) ∧ w'.cell? ⟨b.block, b.off + 3, none⟩ = some (.slice a.at_ a.kids.length a.cap)) from ⟨room2_cells (blk_below HK2.out hb), HL.out.lit0 hb rfl⟩)
 obtain ⟨len, hlen⟩ : ∃ n, (a :: t).length = n := ⟨_, rfl⟩
 have HN := Lib.hid hlen
 rw [hlen] at h he hbig ⊢
 have q1 : ((len : Int) < 2) = False := eq_false (by omega)
 have q2 : (len < 2) = False := eq_false (by omega)
 have q4 : (0 < len) = True := eq_true (by omega)
 have q5 : ((0 : Int) < (len : Int)) = True := eq_true (by omega)
 have HBG := Lib.hid (show len ≤ 4398046511104 ∧ len % 2 = 0 ∧ 2 ≤ len from ⟨hbig, he, h⟩)
 have q3 : (len : Int).tmod 2 = 0 := by rw [Int.tmod_eq_emod_of_nonneg (by omega)]; omega
 have q6 : (s a != 1) = false := by simpa using h1 a t rfl
 have HR := Lib.hid (show rungsP s (prvL (a :: t) 1) ((a :: t).drop 1) = r from hr a t rfl)
 obtain ⟨l, hll⟩ : ∃ l, a :: t = l := ⟨_, rfl⟩
 rw [hll] at HR HN HL HIH
 have HOD := Lib.hid (show 2 ≤ len from h)
 have w9 : wrap64 ((len : Int) - 1) = ((len - 1 : Nat) : Int) := by unfold wrap64; omega
 obtain ⟨ln1, hln1⟩ : ∃ n, len - 1 = n := ⟨_, rfl⟩
 rw [hln1] at w9
 have HLN1 := Lib.hid hln1
 have w10 : IntKind.i64.wrap ((len : Int) - 1) = (ln1 : Int) := by rw [i64_w]; exact w9
 clear k2 e1 b1 s1 h h1 he hbig hl ih hlen hr hln1 hll
 go_enter Tryz.func27, Tryz.ntmps27
 go_wp2_with fail
 rw [HE.out]
 refine wp_region_held_drew (S := fun w' => Aside0 (Below w1.heap.size w1 w')) (by kernel_rfl) ?_ (fun hHeld => ?_)
 ·exact ⟨(Below.refl _ _).drew⟩
 generalize World.drew _ = wDa at hHeld ⊢
 have HCr := HC
 refine' tk 0 ?_
 try simp only [pt]
 refine' tk 1 ?_
 try simp only [pt]
 refine' tk 2 ?_
 try simp only [pt]
 refine' tk 3 ?_
 try simp only [pt]
 refine' tk 4 ?_
 try simp only [pt]
 refine' tk 5 ?_
 try simp only [pt]
 refine' tk 6 ?_
 try simp only [pt]
 refine' tk 7 ?_
 try simp only [pt]
 refine' tk 8 ?_
 try simp only [pt]
 refine' tk 9 ?_
 try simp only [pt]
 refine' tk 10 ?_
 try simp only [pt]
 refine' tk 11 ?_
 try simp only [pt]
 refine' cm 12 (fun K hK => ?_)
 go_simp
 refine (KA.out _ (LA.out.below hHeld.out)).mono ?_
 rintro e w7 ⟨rfl, hb2⟩
 refine hK.out _ _ ⟨hHeld.out.trans (hb2.mono hHeld.out.size)⟩ (fun hHeld => ?_)
 clear hK K
 try simp only [pt]
 refine' tk 13 ?_
 try simp only [pt]
 refine' tk 14 ?_
 try simp only [pt]
 refine wpAnyH_done (by kernel_rfl) ?_ _
 go_wp2_with fail
 clear HC KA LA q1 q2 q3 q4 q5 q6
 go_loopg [6] len (fun gg v6 wr => ∃ i : Nat, v6 = .int .i64 i ∧ Aside0 (i % 2 = 1 ∧ 1 ≤ i ∧ i < len ∧ len - i ≤ gg) ∧ Aside0 (Below w1.heap.size w1 wr) ∧ Aside0 (rungsP s (prvL l i) (l.drop i) = r))
 case atStart => exact ⟨1, rfl, ⟨by have := HOD.out; omega⟩, ⟨hHeld.out⟩, ⟨HR.out⟩⟩
 case round =>
  clear hHeld
  obtain ⟨i, rfl, hi, BW, HRR⟩ := hrel
  have HI := Lib.hid hi.out
  have HB := Lib.hid BW.out
  have HQ := Lib.hid HRR.out
  clear hi BW HRR HR
  obtain ⟨j, hj⟩ : ∃ j, i + 1 = j := ⟨_, rfl⟩
  have HJ := Lib.hid hj
  have hiR : i ≤ 4398046511104 := by have := HI.out; have := HBG.out; omega
  obtain ⟨x, hx⟩ : ∃ x, l[i]? = some x := ⟨_, List.getElem?_eq_getElem (by rw [HN.out]; exact HI.out.2.2.1)⟩
  have HX := Lib.hid hx
  have HXK := Lib.hid (HIH.out x (List.mem_of_getElem? hx))
  have HXL := Lib.hid (LiesL.lies HL.out (List.mem_of_getElem? hx))
  have hi0 := eq_true (show (0 : Int) ≤ (i : Int) by omega)
  have hi1 : ((i : Int) < (len : Int)) = True := eq_true (by have := HI.out; omega)
  by_cases hlt : j < len
  ·have hi2 : ((i : Int) < (ln1 : Int)) = True := eq_true (by have := HLN1.out; omega)
   have hi3 : (i < ln1) = True := eq_true (by have := HLN1.out; omega)
   obtain ⟨y, hy⟩ : ∃ y, l[j]? = some y := ⟨_, List.getElem?_eq_getElem (by rw [HN.out]; exact hlt)⟩
   have HY := Lib.hid hy
   have HYK := Lib.hid (HIH.out y (List.mem_of_getElem? hy))
   have HYL := Lib.hid (LiesL.lies HL.out (List.mem_of_getElem? hy))
   have hST := rungsP_step (s := s) hx (by rw [hj]; exact hy) (prvL l i)
   rw [HQ.out] at hST
   have HST := Lib.hid hST
   have hj0 := eq_true (show (0 : Int) ≤ (j : Int) by omega)
   have hj1 : ((j : Int) < (len : Int)) = True := eq_true (by omega)
   have HC := Lib.hid fun (w' : World) (hb : Below wr.heap.size wr w') => (show ((w'.cell? ⟨w.heap.size, 0, none⟩ = some (.int .i64 rw) ∧ w'.cell? ⟨w.heap.size, 1, none⟩ = some (.int .i64 rc) ∧ w'.cell? ⟨w.heap.size, 2, none⟩ = some (.int .i64 rl)) ∧
     (w'.cell? (b.add (i * 4)) = some (.int .i64 x.op) ∧ w'.cell? ⟨(b.add (i * 4)).block, (b.add (i * 4)).off + 1, none⟩ = some (.int .i64 x.n) ∧ w'.cell? ⟨(b.add (i * 4)).block, (b.add (i * 4)).off + 2, none⟩ = some (.int .i64 x.m) ∧ w'.cell? ⟨(b.add (i * 4)).block, (b.add (i * 4)).off + 3, none⟩ = some (.slice x.at_ x.kids.length x.cap)) ∧
     (w'.cell? (b.add (j * 4)) = some (.int .i64 y.op) ∧ w'.cell? ⟨(b.add (j * 4)).block, (b.add (j * 4)).off + 1, none⟩ = some (.int .i64 y.n) ∧ w'.cell? ⟨(b.add (j * 4)).block, (b.add (j * 4)).off + 2, none⟩ = some (.int .i64 y.m) ∧ w'.cell? ⟨(b.add (j * 4)).block, (b.add (j * 4)).off + 3, none⟩ = some (.slice y.at_ y.kids.length y.cap)) ∧
     (∀ (h : Nat) (z : Cr), l[h]? = some z → w'.cell? ⟨(b.add (h * 4)).block, (b.add (h * 4)).off + 1, none⟩ = some (.int .i64 z.n))) from by
    have hb' := HB.out.trans (hb.mono HB.out.size)
    obtain ⟨p, hp, -, c0, c1, c2, c3⟩ := HL.out.cellsB hb' HX.out
    injection hp with hp
    subst hp
    obtain ⟨p, hp, -, d0, d1, d2, d3⟩ := HL.out.cellsB hb' HY.out
    injection hp with hp
    subst hp
    refine ⟨room2_cells (blk_below HK2.out hb'), ⟨c0, c1, c2, c3⟩, ⟨d0, d1, d2, d3⟩, fun h z hz => ?_⟩
    obtain ⟨p, hp, -, -, a1, -⟩ := HL.out.cellsB hb' hz
    injection hp with hp
    subst hp
    exact a1)
   obtain ⟨bd, hbd⟩ : ∃ bd, (s y != 3) = bd := ⟨_, rfl⟩
   have HBD := Lib.hid hbd
   obtain ⟨i2, hi2⟩ : ∃ i2, i + 2 = i2 := ⟨_, rfl⟩
   have HI2 := Lib.hid hi2
   have wj : wrap64 ((i : Int) + 1) = (j : Int) := by unfold wrap64; omega
   have wi2 : wrap64 ((i : Int) + 2) = (i2 : Int) := by unfold wrap64; omega
   have wj2 : IntKind.i64.wrap ((i : Int) + 1) = (j : Int) := by rw [i64_w]; exact wj
   have HLT := Lib.hid hlt
   clear hx hy hj hlt hST hiR hi2
   by_cases q1 : x.op = 1
   ·have q1b : (x.op != 1) = false := by simp [q1]
    have HQ1 := Lib.hid q1
    clear q1
    by_cases q2 : s x = 1
    ·have q2b : (s x != 1) = false := by simp [q2]
     by_cases q3 : i = 1
     ·have hgt : ((1 : Int) < (i : Int)) = False := eq_false (by omega)
      have hgt2 : (1 < i) = False := eq_false (by omega)
      have HPZ := Lib.hid (show prvL l i = none by unfold prvL; rw [if_pos q3])
      clear q3
      go_wp2_with fail
      refine wp_region_held_drew (S := fun w' => Aside0 (Below wr.heap.size wr w')) (by kernel_rfl) ?_ (fun hHeld => ?_)
      ·exact ⟨(Below.refl _ _).drew⟩
      generalize World.drew _ = wDc at hHeld ⊢
      have HCr := HC
      refine' tk 0 ?_
      try simp only [pt]
      refine' tk 1 ?_
      try simp only [pt]
      refine' tk 2 ?_
      try simp only [pt]
      refine' tk 3 ?_
      try simp only [pt]
      refine' tk 4 ?_
      try simp only [pt]
      refine' tk 5 ?_
      try simp only [pt]
      refine' tk 6 ?_
      try simp only [pt]
      refine' tk 7 ?_
      try simp only [pt]
      refine' tk 8 ?_
      try simp only [pt]
      refine' tk 9 ?_
      try simp only [pt]
      refine' tk 10 ?_
      try simp only [pt]
      refine' tk 11 ?_
      try simp only [pt]
      refine' cm 12 (fun K hK => ?_)
      go_simp
      refine (HXK.out _ (HXL.out.below (HB.out.trans (hHeld.out.mono HB.out.size)))).mono ?_
      rintro e w7 ⟨rfl, hb2⟩
      refine hK.out _ _ ⟨hHeld.out.trans (hb2.mono hHeld.out.size)⟩ (fun hHeld => ?_)
      clear hK K
      try simp only [pt]
      refine' tk 13 ?_
      try simp only [pt]
      refine' tk 14 ?_
      try simp only [pt]
      refine' tk 15 ?_
      try simp only [pt]
      refine' tk 16 ?_
      try simp only [pt]
      refine' tk 17 ?_
      try simp only [pt]
      refine' tk 18 ?_
      try simp only [pt]
      refine' tn 19 ?_
      try simp only [pt]
      refine' tn 20 ?_
      try simp only [pt]
      refine' tn 21 ?_
      try simp only [pt]
      refine' tn 22 ?_
      try simp only [pt]
      refine' tn 23 ?_
      try simp only [pt]
      refine' tn 24 ?_
      try simp only [pt]
      refine' tn 25 ?_
      try simp only [pt]
      refine' tn 26 ?_
      try simp only [pt]
      refine' tn 27 ?_
      try simp only [pt]
      refine' tn 28 ?_
      try simp only [pt]
      refine' tn 29 ?_
      try simp only [pt]
      refine' tn 30 ?_
      try simp only [pt]
      refine' tk 31 ?_
      try simp only [pt]
      refine' tk 32 ?_
      try simp only [pt]
      refine' tk 33 ?_
      try simp only [pt]
      refine' tk 34 ?_
      try simp only [pt]
      refine' tk 35 ?_
      try simp only [pt]
      refine' tk 36 ?_
      try simp only [pt]
      refine' tk 37 ?_
      try simp only [pt]
      refine' tk 38 ?_
      try simp only [pt]
      refine' tk 39 ?_
      try simp only [pt]
      refine' cm 40 (fun K hK => ?_)
      go_simp
      refine (HYK.out _ (HYL.out.below (HB.out.trans (hHeld.out.mono HB.out.size)))).mono ?_
      rintro e w7 ⟨rfl, hb2⟩
      refine hK.out _ _ ⟨hHeld.out.trans (hb2.mono hHeld.out.size)⟩ (fun hHeld => ?_)
      clear hK K
      try simp only [pt]
      refine' tk 41 ?_
      try simp only [pt]
      refine' tk 42 ?_
      try simp only [pt]
      refine wpAnyH_done (by kernel_rfl) ?_ _
      cases bd with
      | true =>
       go_wp2_with fail
       go_ret
       refine ⟨?_, B1.out.trans ((HB.out.trans (hHeld.out.mono HB.out.size)).mono B1.out.size)⟩
       have e5 : (s y == 3) = false := by simpa using HBD.out
       rw [HST.out, e5]
       simp
      | false =>
       go_wp2_with fail
       go_roundg (gk - 2)
       case measure => clear wi2 wj wj2 w9 w10 ; have := HI.out; have := HJ.out; omega
       case rel =>
        have e5 : (s y == 3) = true := by simpa using HBD.out
        refine ⟨i2, by first | rfl | simp [wi2], ⟨by clear wi2 wj wj2 w9 w10 ; have := HI.out; have := HI2.out; have := HJ.out; have := HBG.out; have := HLT.out; omega⟩, ⟨HB.out.trans (hHeld.out.mono HB.out.size)⟩, ⟨?_⟩⟩
        rw [HST.out, e5, HPZ.out, HQ1.out, q2, ← HI2.out, prvL_step HX.out HI.out.2.1]
        simp
     ·obtain ⟨h, hh⟩ : ∃ h, h + 2 = i := ⟨i - 2, by clear wj wj2 wi2 w9 w10; have := HI.out; omega⟩
      obtain ⟨z, hz⟩ : ∃ z, l[h]? = some z := ⟨_, List.getElem?_eq_getElem (by rw [HN.out]; clear wj wj2 wi2 w9 w10; have := HI.out; omega)⟩
      have HZ := Lib.hid hz
      have hpz : prvL l i = some z.n := by
       unfold prvL
       rw [if_neg q3, show i - 2 = h by omega, hz]
       rfl
      have HPZ := Lib.hid hpz
      have hh0 := eq_true (show (0 : Int) ≤ (h : Int) by omega)
      have hh1 : ((h : Int) < (len : Int)) = True := eq_true z10_0
      have hgt : ((1 : Int) < (i : Int)) = True := eq_true z10_0
      have hgt2 : (1 < i) = True := eq_true z10_0
      have wh : wrap64 ((i : Int) - 2) = (h : Int) := by clear wj wj2 wi2 w9 w10; have := HI.out; have := HBG.out; unfold wrap64; omega
      have wh2 : IntKind.i64.wrap ((i : Int) - 2) = (h : Int) := by rw [i64_w]; exact wh
      have HC2 := Lib.hid fun (w' : World) (hb : Below wr.heap.size wr w') => (show _ ∧ _ ∧ _ ∧ w'.cell? ⟨(b.add (h * 4)).block, (b.add (h * 4)).off + 1, none⟩ = some (.int .i64 z.n) from ⟨(HC.out w' hb).1, (HC.out w' hb).2.1, (HC.out w' hb).2.2.1, (HC.out w' hb).2.2.2 h z HZ.out⟩)
      clear hz hpz hh q3
      by_cases q4 : x.n ≤ z.n
      ·go_wp2_with fail
       refine wp_region_held_drew (S := fun w' => Aside0 (Below wr.heap.size wr w')) (by kernel_rfl) ?_ (fun hHeld => ?_)
       ·exact ⟨(Below.refl _ _).drew⟩
       generalize World.drew _ = wDd at hHeld ⊢
       have HCr := HC2
       refine' tk 0 ?_
       try simp only [pt]
       refine' tk 1 ?_
       try simp only [pt]
       refine' tk 2 ?_
       try simp only [pt]
       refine' tk 3 ?_
       try simp only [pt]
       refine' tk 4 ?_
       try simp only [pt]
       refine' tk 5 ?_
       try simp only [pt]
       refine' tk 6 ?_
       try simp only [pt]
       refine' tk 7 ?_
       try simp only [pt]
       refine' tk 8 ?_
       try simp only [pt]
       refine' tk 9 ?_
       try simp only [pt]
       refine' tk 10 ?_
       try simp only [pt]
       refine' tk 11 ?_
       try simp only [pt]
       refine' cm 12 (fun K hK => ?_)
       go_simp
       refine (HXK.out _ (HXL.out.below (HB.out.trans (hHeld.out.mono HB.out.size)))).mono ?_
       rintro e w7 ⟨rfl, hb2⟩
       refine hK.out _ _ ⟨hHeld.out.trans (hb2.mono hHeld.out.size)⟩ (fun hHeld => ?_)
       clear hK K
       try simp only [pt]
       refine' tk 13 ?_
       try simp only [pt]
       refine' tk 14 ?_
       try simp only [pt]
       refine' tk 15 ?_
       try simp only [pt]
       refine' tk 16 ?_
       try simp only [pt]
       refine' tk 17 ?_
       try simp only [pt]
       refine' tk 18 ?_
       try simp only [pt]
       refine' tk 19 ?_
       try simp only [pt]
       refine' tk 20 ?_
       try simp only [pt]
       refine' tk 21 ?_
       try simp only [pt]
       refine' tk 22 ?_
       try simp only [pt]
       refine' tk 23 ?_
       try simp only [pt]
       refine' tk 24 ?_
       try simp only [pt]
       refine' tk 25 ?_
       try simp only [pt]
       refine' tk 26 ?_
       try simp only [pt]
       refine' tk 27 ?_
       try simp only [pt]
       refine' tk 28 ?_
       try simp only [pt]
       refine' tk 29 ?_
       try simp only [pt]
       refine' tk 30 ?_
       try simp only [pt]
       refine' tk 31 ?_
       try simp only [pt]
       refine' tk 32 ?_
       try simp only [pt]
       refine' tk 33 ?_
       try simp only [pt]
       refine' tn 34 ?_
       try simp only [pt]
       refine' tn 35 ?_
       try simp only [pt]
       refine' tn 36 ?_
       try simp only [pt]
       refine' tn 37 ?_
       try simp only [pt]
       refine' tn 38 ?_
       try simp only [pt]
       refine' tn 39 ?_
       try simp only [pt]
       refine' tn 40 ?_
       try simp only [pt]
       refine' tn 41 ?_
       try simp only [pt]
       refine' tk 42 ?_
       try simp only [pt]
       refine wpAnyH_done (by kernel_rfl) ?_ _
       go_wp2_with fail
       go_ret
       refine ⟨?_, B1.out.trans ((HB.out.trans (hHeld.out.mono HB.out.size)).mono B1.out.size)⟩
       rw [HST.out, HPZ.out]
       have e : decide (z.n < x.n) = false := decide_eq_false (Int.not_lt.2 q4)
       simp [e]
      ·have q4b : (x.n ≤ z.n) = False := eq_false q4
       go_wp2_with fail
       refine wp_region_held_drew (S := fun w' => Aside0 (Below wr.heap.size wr w')) (by kernel_rfl) ?_ (fun hHeld => ?_)
       ·exact ⟨(Below.refl _ _).drew⟩
       generalize World.drew _ = wDe at hHeld ⊢
       have HCr := HC2
       refine' tk 0 ?_
       try simp only [pt]
       refine' tk 1 ?_
       try simp only [pt]
       refine' tk 2 ?_
       try simp only [pt]
       refine' tk 3 ?_
       try simp only [pt]
       refine' tk 4 ?_
       try simp only [pt]
       refine' tk 5 ?_
       try simp only [pt]
       refine' tk 6 ?_
       try simp only [pt]
       refine' tk 7 ?_
       try simp only [pt]
       refine' tk 8 ?_
       try simp only [pt]
       refine' tk 9 ?_
       try simp only [pt]
       refine' tk 10 ?_
       try simp only [pt]
       refine' tk 11 ?_
       try simp only [pt]
       refine' cm 12 (fun K hK => ?_)
       go_simp
       refine (HXK.out _ (HXL.out.below (HB.out.trans (hHeld.out.mono HB.out.size)))).mono ?_
       rintro e w7 ⟨rfl, hb2⟩
       refine hK.out _ _ ⟨hHeld.out.trans (hb2.mono hHeld.out.size)⟩ (fun hHeld => ?_)
       clear hK K
       try simp only [pt]
       refine' tk 13 ?_
       try simp only [pt]
       refine' tk 14 ?_
       try simp only [pt]
       refine' tk 15 ?_
       try simp only [pt]
       refine' tk 16 ?_
       try simp only [pt]
       refine' tk 17 ?_
       try simp only [pt]
       refine' tk 18 ?_
       try simp only [pt]
       refine' tk 19 ?_
       try simp only [pt]
       refine' tk 20 ?_
       try simp only [pt]
       refine' tk 21 ?_
       try simp only [pt]
       refine' tk 22 ?_
       try simp only [pt]
       refine' tk 23 ?_
       try simp only [pt]
       refine' tk 24 ?_
       try simp only [pt]
       refine' tk 25 ?_
       try simp only [pt]
       refine' tk 26 ?_
       try simp only [pt]
       refine' tk 27 ?_
       try simp only [pt]
       refine' tk 28 ?_
       try simp only [pt]
       refine' tk 29 ?_
       try simp only [pt]
       refine' tk 30 ?_
       try simp only [pt]
       refine' tk 31 ?_
       try simp only [pt]
       refine' tk 32 ?_
       try simp only [pt]
       refine' tk 33 ?_
       try simp only [pt]
       refine' tk 34 ?_
       try simp only [pt]
       refine' tk 35 ?_
       try simp only [pt]
       refine' tk 36 ?_
       try simp only [pt]
       refine' tk 37 ?_
       try simp only [pt]
       refine' tk 38 ?_
       try simp only [pt]
       refine' tk 39 ?_
       try simp only [pt]
       refine' cm 40 (fun K hK => ?_)
       go_simp
       refine (HYK.out _ (HYL.out.below (HB.out.trans (hHeld.out.mono HB.out.size)))).mono ?_
       rintro e w7 ⟨rfl, hb2⟩
       refine hK.out _ _ ⟨hHeld.out.trans (hb2.mono hHeld.out.size)⟩ (fun hHeld => ?_)
       clear hK K
       try simp only [pt]
       refine' tk 41 ?_
       try simp only [pt]
       refine' tk 42 ?_
       try simp only [pt]
       refine wpAnyH_done (by kernel_rfl) ?_ _
       cases bd with
       | true =>
        go_wp2_with fail
        go_ret
        refine ⟨?_, B1.out.trans ((HB.out.trans (hHeld.out.mono HB.out.size)).mono B1.out.size)⟩
        have e5 : (s y == 3) = false := by simpa using HBD.out
        rw [HST.out, e5]
        simp
       | false =>
        go_wp2_with fail
        go_roundg (gk - 2)
        case measure => clear wi2 wj wj2 w9 w10 wh wh2; have := HI.out; have := HJ.out; omega
        case rel =>
         have e5 : (s y == 3) = true := by simpa using HBD.out
         refine ⟨i2, by first | rfl | simp [wi2], ⟨by clear wi2 wj wj2 w9 w10 wh wh2; have := HI.out; have := HI2.out; have := HJ.out; have := HBG.out; have := HLT.out; omega⟩, ⟨HB.out.trans (hHeld.out.mono HB.out.size)⟩, ⟨?_⟩⟩
         rw [HST.out, e5, HPZ.out, HQ1.out, q2, ← HI2.out, prvL_step HX.out HI.out.2.1]
         have e2 : decide (z.n < x.n) = true := by first | exact decide_eq_true q4 | exact decide_eq_true (Int.not_le.1 q4)
         simp [e2]
    ·have q2b : (s x != 1) = true := by simp [q2]
     go_wp2_with fail
     refine wp_region_held_drew (S := fun w' => Aside0 (Below wr.heap.size wr w')) (by kernel_rfl) ?_ (fun hHeld => ?_)
     ·exact ⟨(Below.refl _ _).drew⟩
     generalize World.drew _ = wDb at hHeld ⊢
     have HCr := HC
     refine' tk 0 ?_
     try simp only [pt]
     refine' tk 1 ?_
     try simp only [pt]
     refine' tk 2 ?_
     try simp only [pt]
     refine' tk 3 ?_
     try simp only [pt]
     refine' tk 4 ?_
     try simp only [pt]
     refine' tk 5 ?_
     try simp only [pt]
     refine' tk 6 ?_
     try simp only [pt]
     refine' tk 7 ?_
     try simp only [pt]
     refine' tk 8 ?_
     try simp only [pt]
     refine' tk 9 ?_
     try simp only [pt]
     refine' tk 10 ?_
     try simp only [pt]
     refine' tk 11 ?_
     try simp only [pt]
     refine' cm 12 (fun K hK => ?_)
     go_simp
     refine (HXK.out _ (HXL.out.below (HB.out.trans (hHeld.out.mono HB.out.size)))).mono ?_
     rintro e w7 ⟨rfl, hb2⟩
     refine hK.out _ _ ⟨hHeld.out.trans (hb2.mono hHeld.out.size)⟩ (fun hHeld => ?_)
     clear hK K
     try simp only [pt]
     refine' tk 13 ?_
     try simp only [pt]
     refine' tk 14 ?_
     try simp only [pt]
     refine' tk 15 ?_
     try simp only [pt]
     refine' tn 16 ?_
     try simp only [pt]
     refine' tn 17 ?_
     try simp only [pt]
     refine' tn 18 ?_
     try simp only [pt]
     refine' tn 19 ?_
     try simp only [pt]
     refine' tn 20 ?_
     try simp only [pt]
     refine' tn 21 ?_
     try simp only [pt]
     refine' tn 22 ?_
     try simp only [pt]
     refine' tn 23 ?_
     try simp only [pt]
     refine' tn 24 ?_
     try simp only [pt]
     refine' tn 25 ?_
     try simp only [pt]
     refine' tn 26 ?_
     try simp only [pt]
     refine' tn 27 ?_
     try simp only [pt]
     refine' tn 28 ?_
     try simp only [pt]
     refine' tn 29 ?_
     try simp only [pt]
     refine' tn 30 ?_
     try simp only [pt]
     refine' tn 31 ?_
     try simp only [pt]
     refine' tk 32 ?_
     try simp only [pt]
     refine' tk 33 ?_
     try simp only [pt]
     refine' tn 34 ?_
     try simp only [pt]
     refine' tn 35 ?_
     try simp only [pt]
     refine' tn 36 ?_
     try simp only [pt]
     refine' tn 37 ?_
     try simp only [pt]
     refine' tn 38 ?_
     try simp only [pt]
     refine' tn 39 ?_
     try simp only [pt]
     refine' tn 40 ?_
     try simp only [pt]
     refine' tn 41 ?_
     try simp only [pt]
     refine' tk 42 ?_
     try simp only [pt]
     refine wpAnyH_done (by kernel_rfl) ?_ _
     go_wp2_with fail
     go_ret
     refine ⟨?_, B1.out.trans ((HB.out.trans (hHeld.out.mono HB.out.size)).mono B1.out.size)⟩
     rw [HST.out]
     simp [q2]
   ·have q1b : (x.op != 1) = true := by simp [q1]
    go_wp2_with fail
    refine wp_region_held_drew (S := fun w' => Aside0 (Below wr.heap.size wr w')) (by kernel_rfl) ?_ (fun hHeld => ?_)
    ·exact ⟨(Below.refl _ _).drew⟩
    generalize World.drew _ = wDg at hHeld ⊢
    have HCr := HC
    refine' tk 0 ?_
    try simp only [pt]
    refine' tk 1 ?_
    try simp only [pt]
    refine' tk 2 ?_
    try simp only [pt]
    refine' tk 3 ?_
    try simp only [pt]
    refine' tk 4 ?_
    try simp only [pt]
    refine' tk 5 ?_
    try simp only [pt]
    refine' tk 6 ?_
    try simp only [pt]
    refine' tn 7 ?_
    try simp only [pt]
    refine' tn 8 ?_
    try simp only [pt]
    refine' tn 9 ?_
    try simp only [pt]
    refine' tn 10 ?_
    try simp only [pt]
    refine' tn 11 ?_
    try simp only [pt]
    refine' tn 12 ?_
    try simp only [pt]
    refine' tn 13 ?_
    try simp only [pt]
    refine' tk 14 ?_
    try simp only [pt]
    refine' tk 15 ?_
    try simp only [pt]
    refine' tn 16 ?_
    try simp only [pt]
    refine' tn 17 ?_
    try simp only [pt]
    refine' tn 18 ?_
    try simp only [pt]
    refine' tn 19 ?_
    try simp only [pt]
    refine' tn 20 ?_
    try simp only [pt]
    refine' tn 21 ?_
    try simp only [pt]
    refine' tn 22 ?_
    try simp only [pt]
    refine' tn 23 ?_
    try simp only [pt]
    refine' tn 24 ?_
    try simp only [pt]
    refine' tn 25 ?_
    try simp only [pt]
    refine' tn 26 ?_
    try simp only [pt]
    refine' tn 27 ?_
    try simp only [pt]
    refine' tn 28 ?_
    try simp only [pt]
    refine' tn 29 ?_
    try simp only [pt]
    refine' tn 30 ?_
    try simp only [pt]
    refine' tn 31 ?_
    try simp only [pt]
    refine' tk 32 ?_
    try simp only [pt]
    refine' tk 33 ?_
    try simp only [pt]
    refine' tn 34 ?_
    try simp only [pt]
    refine' tn 35 ?_
    try simp only [pt]
    refine' tn 36 ?_
    try simp only [pt]
    refine' tn 37 ?_
    try simp only [pt]
    refine' tn 38 ?_
    try simp only [pt]
    refine' tn 39 ?_
    try simp only [pt]
    refine' tn 40 ?_
    try simp only [pt]
    refine' tn 41 ?_
    try simp only [pt]
    refine' tk 42 ?_
    try simp only [pt]
    refine wpAnyH_done (by kernel_rfl) ?_ _
    go_wp2_with fail
    go_ret
    refine ⟨?_, B1.out.trans ((HB.out.trans (hHeld.out.mono HB.out.size)).mono B1.out.size)⟩
    rw [HST.out]
    simp [q1]
  ·have hi2 : ((i : Int) < (ln1 : Int)) = False := eq_false (by have := HLN1.out; have := HI.out; omega)
   have hi3 : (i < ln1) = False := eq_false (by have := HLN1.out; have := HI.out; omega)
   have hjn : j = len := by have := HI.out; omega
   have hin : ln1 = i := by have := HI.out; have := HLN1.out; omega
   have hLA := rungsP_last (s := s) hx (by rw [HN.out, ← hjn, ← hj]) (prvL l i)
   rw [HQ.out] at hLA
   have HLA := Lib.hid hLA
   have HC := Lib.hid fun (w' : World) (hb : Below wr.heap.size wr w') => (show ((w'.cell? ⟨w.heap.size, 0, none⟩ = some (.int .i64 rw) ∧ w'.cell? ⟨w.heap.size, 1, none⟩ = some (.int .i64 rc) ∧ w'.cell? ⟨w.heap.size, 2, none⟩ = some (.int .i64 rl)) ∧
     (w'.cell? (b.add (i * 4)) = some (.int .i64 x.op) ∧ w'.cell? ⟨(b.add (i * 4)).block, (b.add (i * 4)).off + 1, none⟩ = some (.int .i64 x.n) ∧ w'.cell? ⟨(b.add (i * 4)).block, (b.add (i * 4)).off + 2, none⟩ = some (.int .i64 x.m) ∧ w'.cell? ⟨(b.add (i * 4)).block, (b.add (i * 4)).off + 3, none⟩ = some (.slice x.at_ x.kids.length x.cap))) from by
    have hb' := HB.out.trans (hb.mono HB.out.size)
    obtain ⟨p, hp, -, c0, c1, c2, c3⟩ := HL.out.cellsB hb' HX.out
    injection hp with hp
    subst hp
    exact ⟨room2_cells (blk_below HK2.out hb'), ⟨c0, c1, c2, c3⟩⟩)
   subst hin
   clear hx hj hlt hLA hiR hjn
   go_wp2_with fail
   refine wp_region_held_drew (S := fun w' => Aside0 (Below wr.heap.size wr w')) (by kernel_rfl) ?_ (fun hHeld => ?_)
   ·exact ⟨(Below.refl _ _).drew⟩
   generalize World.drew _ = wDl at hHeld ⊢
   have HCr := HC
   refine' tk 0 ?_
   try simp only [pt]
   refine' tk 1 ?_
   try simp only [pt]
   refine' tk 2 ?_
   try simp only [pt]
   refine' tk 3 ?_
   try simp only [pt]
   refine' tk 4 ?_
   try simp only [pt]
   refine' tk 5 ?_
   try simp only [pt]
   refine' cm 6 (fun K hK => ?_)
   go_simp
   refine (HXK.out _ (HXL.out.below (HB.out.trans (hHeld.out.mono HB.out.size)))).mono ?_
   rintro e w7 ⟨rfl, hb2⟩
   refine hK.out _ _ ⟨hHeld.out.trans (hb2.mono hHeld.out.size)⟩ (fun hHeld => ?_)
   clear hK K
   try simp only [pt]
   refine' tk 7 ?_
   try simp only [pt]
   refine' tk 8 ?_
   try simp only [pt]
   refine wpAnyH_done (by kernel_rfl) ?_ _
   go_wp2_with fail
   go_ret
   exact ⟨by first | (simp [HLA.out]; done) | (rw [HLA.out]; simp; done) | rfl, B1.out.trans ((HB.out.trans (hHeld.out.mono HB.out.size)).mono B1.out.size)⟩
end
theorem rladder_calls {rw rc rl : Int} {A : Option Addr} {l : List Cr} {w : World} (s : Cr → Int) (hbig : l.length ≤ 4398046511104) (hl : LiesL w A 0 l) (ih : ∀ k ∈ l, SortR rw rc rl k (s k)) (c : Nat) :
  Calls Tryz.prog 27 #[.agg #[.int .i64 rw, .int .i64 rc, .int .i64 rl], .slice A l.length c] w fun e w' => e = .returned (.bool (ladB s l)) ∧ Below w.heap.size w w' := by
 by_cases h : 2 ≤ l.length
 ·by_cases he : l.length % 2 = 0
  ·match l, h, he, hbig, hl, ih with
   | a :: t, h, he, hbig, hl, ih =>
    by_cases q : s a = 1
    ·have e : ladB s (a :: t) = rungsP s none t := by
      unfold ladB
      rw [decide_eq_true h, decide_eq_true he]
      simp [q]
     rw [e]
     exact rlad_rungs s h he hbig hl ih (fun x y e => by injection e with e1 e2; rw [← e1]; exact q) (fun x y e => by injection e with e1 e2; rw [← e2]) c
    ·have e : ladB s (a :: t) = false := by
      unfold ladB
      simp [q]
     rw [e]
     exact rlad_first s h he hbig hl ih (fun x y e => by injection e with e1 e2; rw [← e1]; exact q) c
  ·have e : ladB s l = false := by
    unfold ladB
    simp [he]
   rw [e]
   exact rlad_odd h (by omega) c
 ·have e : ladB s l = false := by
   unfold ladB
   simp [h]
  rw [e]
  exact rlad_short (by omega) c
end Go.Proofs.YtpljkcakijkklaaGreatDoor

end
section
namespace Go.Proofs.YtpljkcakijkklaaGreatDoor
set_option linter.unusedVariables false
set_option linter.unusedSimpArgs false
open Go.RowKit Go.Proofs.YtpljkcakijkklaaGreatDoorW.PrintWords Go.Proofs.YtpljkcakijkklaaGreatDoorW.PrintLast Go.Proofs.YtpljkcakijkklaaGreatDoorW.PrintMore

section
variable {rw rc rl op n m : Int} {at_ : Option Addr} {cap : Nat} {w : World}
theorem rs_none {len : Nat} (har : arityS op = -2) : Calls Tryz.prog 10 #[.agg #[.int .i64 rw, .int .i64 rc, .int .i64 rl], .agg #[.int .i64 op, .int .i64 n, .int .i64 m, .slice at_ len cap]] w fun e w' => e = .returned (.int .i64 (0)) ∧ Below w.heap.size w w' := by
 obtain ⟨w1, e1, b1, k2, k3, s1⟩ := box2 w (.cells #[.int .i64 rw, .int .i64 rc, .int .i64 rl] 38) (.cells #[.int .i64 op, .int .i64 n, .int .i64 m, .slice at_ len cap] 24)
 have HE := Lib.hid e1
 have B1 := Lib.hid b1
 obtain ⟨y0, y1, y2⟩ := room2_cells k2
 obtain ⟨x0, x1, x2, x3⟩ := core_cells k3
 have HAR := Lib.hid har
 clear har k2 k3 e1 b1 s1
 go_enter Tryz.func10, Tryz.ntmps10
 go_wp2_with fail
 rw [HE.out]
 go_wp2_with fail
 refine (arity_calls op _).mono ?_
 rintro e w9 ⟨rfl, hw9⟩
 rw [hw9, HAR.out]
 clear hw9 w9
 go_wp2_with fail
 go_ret
 exact ⟨rfl, B1.out⟩
theorem rs_fields {len : Nat} {ar : Int} (har : arityS op = ar) (h2 : ¬ ar = -2) (hf : fieldsS rw rc rl op n m = false) : Calls Tryz.prog 10 #[.agg #[.int .i64 rw, .int .i64 rc, .int .i64 rl], .agg #[.int .i64 op, .int .i64 n, .int .i64 m, .slice at_ len cap]] w fun e w' => e = .returned (.int .i64 (0)) ∧ Below w.heap.size w w' := by
 obtain ⟨w1, e1, b1, k2, k3, s1⟩ := box2 w (.cells #[.int .i64 rw, .int .i64 rc, .int .i64 rl] 38) (.cells #[.int .i64 op, .int .i64 n, .int .i64 m, .slice at_ len cap] 24)
 have HE := Lib.hid e1
 have B1 := Lib.hid b1
 obtain ⟨y0, y1, y2⟩ := room2_cells k2
 obtain ⟨x0, x1, x2, x3⟩ := core_cells k3
 have HAR := Lib.hid har
 have HF := Lib.hid hf
 have q1 : (ar == -2) = false := by simpa using h2
 clear har hf h2 k2 k3 e1 b1 s1
 go_enter Tryz.func10, Tryz.ntmps10
 go_wp2_with fail
 rw [HE.out]
 go_wp2_with fail
 refine (arity_calls op _).mono ?_
 rintro e w9 ⟨rfl, hw9⟩
 rw [hw9, HAR.out]
 clear hw9 w9
 go_wp2_with fail
 refine (fields_calls rw rc rl op n m at_ len cap _).mono ?_
 rintro e w2 ⟨rfl, hb2⟩
 rw [HF.out]
 go_wp2_with fail
 go_ret
 exact ⟨rfl, B1.out.trans (hb2.mono B1.out.size)⟩
theorem rs_parts {len : Nat} {ar : Int} (har : arityS op = ar) (h2 : 0 ≤ ar) (h3 : ¬ (len : Int) = ar) (hf : fieldsS rw rc rl op n m = true) : Calls Tryz.prog 10 #[.agg #[.int .i64 rw, .int .i64 rc, .int .i64 rl], .agg #[.int .i64 op, .int .i64 n, .int .i64 m, .slice at_ len cap]] w fun e w' => e = .returned (.int .i64 (0)) ∧ Below w.heap.size w w' := by
 obtain ⟨w1, e1, b1, k2, k3, s1⟩ := box2 w (.cells #[.int .i64 rw, .int .i64 rc, .int .i64 rl] 38) (.cells #[.int .i64 op, .int .i64 n, .int .i64 m, .slice at_ len cap] 24)
 have HE := Lib.hid e1
 have B1 := Lib.hid b1
 obtain ⟨y0, y1, y2⟩ := room2_cells k2
 obtain ⟨x0, x1, x2, x3⟩ := core_cells k3
 have HC := Lib.hid fun (w' : World) (hb : Below w1.heap.size w1 w') => core_cells (blk_below k3 hb)
 have HAR := Lib.hid har
 have HF := Lib.hid hf
 have q1 : (ar == -2) = false := by simp; omega
 have q2 : (0 ≤ ar) = True := eq_true h2
 have q3 : ((len : Int) != ar) = true := by simpa using h3
 clear har hf h2 h3 k2 k3 e1 b1 s1
 go_enter Tryz.func10, Tryz.ntmps10
 go_wp2_with fail
 rw [HE.out]
 go_wp2_with fail
 refine (arity_calls op _).mono ?_
 rintro e w9 ⟨rfl, hw9⟩
 rw [hw9, HAR.out]
 clear hw9 w9
 go_wp2_with fail
 refine (fields_calls rw rc rl op n m at_ len cap _).mono ?_
 rintro e w2 ⟨rfl, hb2⟩
 rw [HF.out]
 obtain ⟨x0, x1, x2, x3⟩ := HC.out w2 hb2
 go_wp2_with fail
 go_ret
 exact ⟨rfl, B1.out.trans (hb2.mono B1.out.size)⟩
theorem rs_lad {l : List Cr} (hop : op = 32) (s : Cr → Int) (hl : Lies w (.node op n m at_ cap l)) (ih : ∀ k ∈ l, SortR rw rc rl k (s k)) (hf : fieldsS rw rc rl op n m = true) {r : Int} (hr : (if ladB s l then (3 : Int) else 0) = r) : Calls Tryz.prog 10 #[.agg #[.int .i64 rw, .int .i64 rc, .int .i64 rl], .agg #[.int .i64 op, .int .i64 n, .int .i64 m, .slice at_ l.length cap]] w fun e w' => e = .returned (.int .i64 (r)) ∧ Below w.heap.size w w' := by
 obtain ⟨w1, e1, b1, k2, k3, s1⟩ := box2 w (.cells #[.int .i64 rw, .int .i64 rc, .int .i64 rl] 38) (.cells #[.int .i64 op, .int .i64 n, .int .i64 m, .slice at_ l.length cap] 24)
 have HE := Lib.hid e1
 have B1 := Lib.hid b1
 obtain ⟨y0, y1, y2⟩ := room2_cells k2
 obtain ⟨x0, x1, x2, x3⟩ := core_cells k3
 have HC := Lib.hid fun (w' : World) (hb : Below w1.heap.size w1 w') => (show _ ∧ _ from ⟨core_cells (blk_below k3 hb), room2_cells (blk_below k2 hb)⟩)
 have HAR := Lib.hid (show arityS op = -1 by rw [hop]; rfl)
 have HF := Lib.hid hf
 have HL := Lib.hid (hl.below b1)
 have HI := Lib.hid ih
 have HR := Lib.hid hr
 obtain ⟨len, hlen⟩ : ∃ n, l.length = n := ⟨_, rfl⟩
 have HN := Lib.hid hlen
 have HLC := Lib.hid fun (W : World) (hb : Below w1.heap.size w1 W) => rladder_calls s (Nat.le_trans HL.out.room.2 (by decide)) (HL.out.below hb).kids HI.out cap
 simp only [Cr.at_, Cr.kids, hlen] at HLC
 rw [hlen] at x3 HC HE ⊢
 clear hop hf hl ih hr hlen k2 k3 e1 b1 s1
 go_enter Tryz.func10, Tryz.ntmps10
 go_wp2_with fail
 rw [HE.out]
 go_wp2_with fail
 refine (arity_calls op _).mono ?_
 rintro e w9 ⟨rfl, hw9⟩
 rw [hw9, HAR.out]
 clear hw9 w9
 go_wp2_with fail
 refine (fields_calls rw rc rl op n m at_ len cap _).mono ?_
 rintro e w2 ⟨rfl, hb2⟩
 rw [HF.out]
 obtain ⟨⟨x0, x1, x2, x3⟩, ⟨y0, y1, y2⟩⟩ := HC.out w2 hb2
 go_wp2_with fail
 refine (HLC.out _ hb2).mono ?_
 rintro e w3 ⟨rfl, hb3⟩
 have BB := Lib.hid (B1.out.trans ((hb2.trans (hb3.mono hb2.size)).mono B1.out.size))
 cases hb : ladB s l
 ·go_wp2_with fail
  go_ret
  exact ⟨by rw [← HR.out, hb]; rfl, BB.out⟩
 ·go_wp2_with fail
  go_ret
  exact ⟨by rw [← HR.out, hb]; rfl, BB.out⟩
theorem rs_node0 (hop : op = 1 ∨ op = 2 ∨ op = 3 ∨ op = 4 ∨ op = 5 ∨ op = 6 ∨ op = 29) (hf : fieldsS rw rc rl op n m = true) :
  Calls Tryz.prog 10 #[.agg #[.int .i64 rw, .int .i64 rc, .int .i64 rl], .agg #[.int .i64 op, .int .i64 n, .int .i64 m, .slice at_ 0 cap]] w fun e w' => e = .returned (.int .i64 (leafS rw rc op n m)) ∧ Below w.heap.size w w' := by
 obtain ⟨w1, e1, b1, k2, k3, s1⟩ := box2 w (.cells #[.int .i64 rw, .int .i64 rc, .int .i64 rl] 38) (.cells #[.int .i64 op, .int .i64 n, .int .i64 m, .slice at_ 0 cap] 24)
 have HE := Lib.hid e1
 have B1 := Lib.hid b1
 obtain ⟨y0, y1, y2⟩ := room2_cells k2
 obtain ⟨x0, x1, x2, x3⟩ := core_cells k3
 have HC := Lib.hid fun (w' : World) (hb : Below w1.heap.size w1 w') => (show ((w'.cell? ⟨w.heap.size, 0, none⟩ = some (.int .i64 rw) ∧ w'.cell? ⟨w.heap.size, 1, none⟩ = some (.int .i64 rc) ∧ w'.cell? ⟨w.heap.size, 2, none⟩ = some (.int .i64 rl)) ∧ (w'.cell? ⟨w.heap.size + 1, 0, none⟩ = some (.int .i64 op) ∧ w'.cell? ⟨w.heap.size + 1, 1, none⟩ = some (.int .i64 n) ∧ w'.cell? ⟨w.heap.size + 1, 2, none⟩ = some (.int .i64 m) ∧ w'.cell? ⟨w.heap.size + 1, 3, none⟩ = some (.slice at_ 0 cap))) from ⟨room2_cells (blk_below k2 hb), core_cells (blk_below k3 hb)⟩)
 have HAR := Lib.hid (show arityS op = 0 by rcases hop with rfl | rfl | rfl | rfl | rfl | rfl | rfl <;> rfl)
 have HF := Lib.hid hf
 have HOP := Lib.hid hop
 clear hop hf k2 k3 e1 b1 s1
 go_enter Tryz.func10, Tryz.ntmps10
 go_wp2_with fail
 rw [HE.out]
 go_wp2_with fail
 refine (arity_calls op _).mono ?_
 rintro e w9 ⟨rfl, hw9⟩
 rw [hw9, HAR.out]
 clear hw9 w9
 go_wp2_with fail
 refine (fields_calls rw rc rl op n m at_ 0 cap _).mono ?_
 rintro e w2 ⟨rfl, hb2⟩
 rw [HF.out]
 obtain ⟨⟨y0, y1, y2⟩, ⟨x0, x1, x2, x3⟩⟩ := HC.out w2 hb2
 go_wp2_with fail
 obtain ⟨gA, hgA⟩ : ∃ g, w2.heap.size = g := ⟨_, rfl⟩
 have HGA := Lib.hid (show w1.heap.size ≤ gA by rw [← hgA]; exact hb2.size)
 obtain ⟨wA, eA, bA, kA, sA⟩ := box1 w2 (.cells #[.int .i64 0, .int .i64 0, .int .i64 0] 72)
 rw [eA, hgA]
 rw [hgA] at kA
 have HBA := Lib.hid (hb2.trans (bA.mono hb2.size))
 have HKA := Lib.hid kA
 clear eA bA kA sA hgA hb2 y0 y1 y2 x0 x1 x2 x3
 go_loopg [7] 0 (fun gg v7 wr => ∃ i : Nat, v7 = .int .i64 i ∧ Aside0 (i ≤ 0 ∧ 0 - i ≤ gg) ∧ Aside0 (Below w1.heap.size w1 wr) ∧ Aside0 (wr.heap[gA]? = some (.cells #[.int .i64 0, .int .i64 0, .int .i64 0] 72 (0, 0))))
 case atStart => exact ⟨0, rfl, ⟨by omega⟩, ⟨HBA.out⟩, ⟨by simpa using HKA.out⟩⟩
 case round =>
  clear HKA HBA
  obtain ⟨i, rfl, hi, BW, hKA⟩ := hrel
  have HI := Lib.hid hi.out
  have HB := Lib.hid BW.out
  have HKA := Lib.hid hKA.out
  clear hi BW hKA
  rcases (show i = 0 by have := HI.out; omega) with rfl
  ·have kA : wr.heap[gA]? = some (.cells #[.int .i64 0, .int .i64 0, .int .i64 0] 72 (0, 0)) := by simpa using HKA.out
   obtain ⟨⟨y0, y1, y2⟩, ⟨x0, x1, x2, x3⟩⟩ := HC.out wr HB.out
   have a0 := (blk_cell kA 0).trans rfl
   have a1 := (blk_cell kA 1).trans rfl
   have a2 := (blk_cell kA 2).trans rfl
   have BB := Lib.hid (B1.out.trans (HB.out.mono B1.out.size))
   clear HC HB HE HAR HI HGA HKA kA B1 y0 y1 y2
   rcases HOP.out with rfl | rfl | rfl | rfl | rfl | rfl | rfl
   all_goals go_wp2
   all_goals
    go_ret
    refine ⟨?_, BB.out⟩
    have hf := HF.out
    have hop := HOP.out
    clear HF HOP BB x0 x1 x2 x3 a0 a1 a2
    first | (simp_all [leafS, fieldsS]; done) | (simp_all [leafS, fieldsS]; omega) | (rcases hop with rfl | rfl | rfl | rfl | rfl | rfl | rfl <;> simp_all [leafS, fieldsS]; done) | (rcases hop with rfl | rfl | rfl | rfl | rfl | rfl | rfl <;> simp_all [leafS, fieldsS] <;> omega)
end
end Go.Proofs.YtpljkcakijkklaaGreatDoor

end
section
namespace Go.Proofs.YtpljkcakijkklaaGreatDoor
set_option linter.unusedVariables false
set_option linter.unusedSimpArgs false
open Go.RowKit Go.Proofs.YtpljkcakijkklaaGreatDoorW.PrintWords Go.Proofs.YtpljkcakijkklaaGreatDoorW.PrintLast Go.Proofs.YtpljkcakijkklaaGreatDoorW.PrintMore

section
variable {rw rc rl op n m : Int} {at_ : Option Addr} {cap : Nat} {w : World}
theorem rs_node2_a (hop : op = 14 ∨ op = 15 ∨ op = 16 ∨ op = 17) (hf : fieldsS rw rc rl op n m = true) {ka kb : Cr} {va vb : Int} (hl : Lies w (.node op n m at_ cap [ka, kb])) (ika : SortR rw rc rl ka va) (ikb : SortR rw rc rl kb vb) {s : Cr → Int} (eka : s ka = va) (ekb : s kb = vb) :
  Calls Tryz.prog 10 #[.agg #[.int .i64 rw, .int .i64 rc, .int .i64 rl], .agg #[.int .i64 op, .int .i64 n, .int .i64 m, .slice at_ 2 cap]] w fun e w' => e = .returned (.int .i64 (moreS s op n m [ka, kb])) ∧ Below w.heap.size w w' := by
 obtain ⟨p, rfl⟩ : ∃ p, at_ = some p := by
  obtain ⟨b, hb, -⟩ := hl.kids.cells (i := 0) (k := ka) rfl
  exact ⟨b, hb⟩
 obtain ⟨w1, e1, b1, k2, k3, s1⟩ := box2 w (.cells #[.int .i64 rw, .int .i64 rc, .int .i64 rl] 38) (.cells #[.int .i64 op, .int .i64 n, .int .i64 m, .slice (some p) 2 cap] 24)
 have HE := Lib.hid e1
 have B1 := Lib.hid b1
 obtain ⟨y0, y1, y2⟩ := room2_cells k2
 obtain ⟨x0, x1, x2, x3⟩ := core_cells k3
 have HK := Lib.hid (hl.below b1).kids
 simp only [Cr.at_, Cr.kids] at HK
 have HC := Lib.hid fun (w' : World) (hb : Below w1.heap.size w1 w') => (show ((w'.cell? ⟨w.heap.size, 0, none⟩ = some (.int .i64 rw) ∧ w'.cell? ⟨w.heap.size, 1, none⟩ = some (.int .i64 rc) ∧ w'.cell? ⟨w.heap.size, 2, none⟩ = some (.int .i64 rl)) ∧ (w'.cell? ⟨w.heap.size + 1, 0, none⟩ = some (.int .i64 op) ∧ w'.cell? ⟨w.heap.size + 1, 1, none⟩ = some (.int .i64 n) ∧ w'.cell? ⟨w.heap.size + 1, 2, none⟩ = some (.int .i64 m) ∧ w'.cell? ⟨w.heap.size + 1, 3, none⟩ = some (.slice (some p) 2 cap))) ∧ (w'.cell? p = some (.int .i64 ka.op) ∧ w'.cell? ⟨p.block, p.off + 1, none⟩ = some (.int .i64 ka.n) ∧ w'.cell? ⟨p.block, p.off + 2, none⟩ = some (.int .i64 ka.m) ∧ w'.cell? ⟨p.block, p.off + 3, none⟩ = some (.slice ka.at_ ka.kids.length ka.cap)) ∧ (w'.cell? ⟨p.block, p.off + 4, none⟩ = some (.int .i64 kb.op) ∧ w'.cell? ⟨p.block, p.off + 4 + 1, none⟩ = some (.int .i64 kb.n) ∧ w'.cell? ⟨p.block, p.off + 4 + 2, none⟩ = some (.int .i64 kb.m) ∧ w'.cell? ⟨p.block, p.off + 4 + 3, none⟩ = some (.slice kb.at_ kb.kids.length kb.cap)) from ⟨⟨room2_cells (blk_below k2 hb), core_cells (blk_below k3 hb)⟩, HK.out.lit0 hb rfl, HK.out.lit hb 0 rfl⟩)
 have Lka := Lib.hid (LiesL.lies HK.out (k := ka) (by simp))
 have Ika := Lib.hid ika
 have Lkb := Lib.hid (LiesL.lies HK.out (k := kb) (by simp))
 have Ikb := Lib.hid ikb
 have HAR := Lib.hid (show arityS op = 2 by rcases hop with rfl | rfl | rfl | rfl <;> rfl)
 have HF := Lib.hid hf
 have HOP := Lib.hid hop
 have p1 : (op == 1) = false := by simp; omega
 have p2 : (op == 2) = false := by simp; omega
 have p3 : (op == 3) = false := by simp; omega
 have p4 : (op == 4) = false := by simp; omega
 have p5 : (op == 5) = false := by simp; omega
 have p6 : (op == 6) = false := by simp; omega
 have p7 : (op == 7) = false := by simp; omega
 have p9 : (op == 9) = false := by simp; omega
 have p23 : (op == 23) = false := by simp; omega
 have p24 : (op == 24) = false := by simp; omega
 have p25 : (op == 25) = false := by simp; omega
 have p26 : (op == 26) = false := by simp; omega
 have p27 : (op == 27) = false := by simp; omega
 have p28 : (op == 28) = false := by simp; omega
 have p29 : (op == 29) = false := by simp; omega
 have p30 : (op == 30) = false := by simp; omega
 have p31 : (op == 31) = false := by simp; omega
 have p90 : (op != 9) = true := by simp; omega
 have r1 : (18 ≤ op) = False := eq_false (by omega)
 have r2 : (8 ≤ op) = True := eq_true (by omega)
 have r3 : (op ≤ 17) = True := eq_true (by omega)
 have Eka := Lib.hid eka
 have Ekb := Lib.hid ekb
 clear eka ekb
 clear hop hf k2 k3 e1 b1 s1 hl ika ikb
 go_enter Tryz.func10, Tryz.ntmps10
 go_wp2_with fail
 rw [HE.out]
 go_wp2_with fail
 refine (arity_calls op _).mono ?_
 rintro e w9 ⟨rfl, hw9⟩
 rw [hw9, HAR.out]
 clear hw9 w9
 go_wp2_with fail
 refine (fields_calls rw rc rl op n m (some p) 2 cap _).mono ?_
 rintro e w2 ⟨rfl, hb2⟩
 rw [HF.out]
 obtain ⟨⟨⟨y0, y1, y2⟩, ⟨x0, x1, x2, x3⟩⟩, z0, z1⟩ := HC.out w2 hb2
 go_wp2_with fail
 obtain ⟨gA, hgA⟩ : ∃ g, w2.heap.size = g := ⟨_, rfl⟩
 have HGA := Lib.hid (show w1.heap.size ≤ gA by rw [← hgA]; exact hb2.size)
 obtain ⟨wA, eA, bA, kA, sA⟩ := box1 w2 (.cells #[.int .i64 0, .int .i64 0, .int .i64 0] 72)
 rw [eA, hgA]
 rw [hgA] at kA
 have HBA := Lib.hid (hb2.trans (bA.mono hb2.size))
 have HKA := Lib.hid kA
 clear eA bA kA sA hgA hb2 y0 y1 y2 x0 x1 x2 x3 z0 z1
 go_loopg [7] 2 (fun gg v7 wr => ∃ i : Nat, v7 = .int .i64 i ∧ Aside0 (i ≤ 2 ∧ 2 - i ≤ gg) ∧ Aside0 (Below w1.heap.size w1 wr) ∧ Aside0 (wr.heap[gA]? = some (.cells #[.int .i64 (if 0 < i then va else 0), .int .i64 (if 1 < i then vb else 0), .int .i64 0] 72 (0, 0))))
 case atStart => exact ⟨0, rfl, ⟨by omega⟩, ⟨HBA.out⟩, ⟨by simpa using HKA.out⟩⟩
 case round =>
  clear HKA HBA
  obtain ⟨i, rfl, hi, BW, hKA⟩ := hrel
  have HI := Lib.hid hi.out
  have HB := Lib.hid BW.out
  have HKA := Lib.hid hKA.out
  clear hi BW hKA
  rcases (show i = 0 ∨ i = 1 ∨ i = 2 by have := HI.out; omega) with rfl | rfl | rfl
  ·have kA : wr.heap[gA]? = some (.cells #[.int .i64 0, .int .i64 0, .int .i64 0] 72 (0, 0)) := by simpa using HKA.out
   have kAd : wr.drew.heap[gA]? = some (.cells #[.int .i64 0, .int .i64 0, .int .i64 0] 72 (0, 0)) := kA
   clear HKA kA
   go_wp2_with fail
   refine wp_region_held_drew (S := fun w' => Aside0 (Below w1.heap.size w1 w')) (by kernel_rfl) ?_ (fun hHeld => ?_)
   ·exact ⟨HB.out.drew⟩
   generalize World.drew _ = wDa at hHeld kAd ⊢
   have HCr := HC
   refine' tk 0 ?_
   try simp only [pt]
   refine' tk 1 ?_
   try simp only [pt]
   refine' tk 2 ?_
   try simp only [pt]
   refine' tk 3 ?_
   try simp only [pt]
   refine' tk 4 ?_
   try simp only [pt]
   refine' tk 5 ?_
   try simp only [pt]
   refine' tk 6 ?_
   try simp only [pt]
   refine' cm 7 (fun K hK => ?_)
   go_simp
   refine (Ika.out _ (Lka.out.below hHeld.out)).mono ?_
   rintro e w7 ⟨rfl, hb2⟩
   have kA7 := blk_below kAd hb2
   have xA := (blk_cell kA7 0).trans rfl
   have fA := blk_frozen kA7 0
   refine hK.out _ _ ⟨hHeld.out.trans (hb2.mono hHeld.out.size)⟩ (fun hHeld => ?_)
   clear hK K
   try simp only [pt]
   refine' tk 8 ?_
   try simp only [pt]
   refine' cm 9 (fun K hK => ?_)
   go_simp
   have kA8 := blk_put kA7 0 (.int .i64 va) rfl
   refine hK.out _ _ ⟨hHeld.out.setCell (p := ⟨gA, 0, none⟩) HGA.out (.int .i64 va)⟩ (fun hHeld => ?_)
   clear hK K
   try simp only [pt]
   refine wpAnyH_done (by kernel_rfl) ?_ _
   go_wp2_with fail
   go_roundg (gk - 1)
   case measure => have := HI.out; omega
   case rel => exact ⟨1, by first | rfl | simp, ⟨by have := HI.out; omega⟩, ⟨hHeld.out⟩, ⟨by simpa using kA8⟩⟩
  ·have kA : wr.heap[gA]? = some (.cells #[.int .i64 va, .int .i64 0, .int .i64 0] 72 (0, 0)) := by simpa using HKA.out
   have kAd : wr.drew.heap[gA]? = some (.cells #[.int .i64 va, .int .i64 0, .int .i64 0] 72 (0, 0)) := kA
   clear HKA kA
   go_wp2_with fail
   refine wp_region_held_drew (S := fun w' => Aside0 (Below w1.heap.size w1 w')) (by kernel_rfl) ?_ (fun hHeld => ?_)
   ·exact ⟨HB.out.drew⟩
   generalize World.drew _ = wDb at hHeld kAd ⊢
   have HCr := HC
   refine' tk 0 ?_
   try simp only [pt]
   refine' tk 1 ?_
   try simp only [pt]
   refine' tk 2 ?_
   try simp only [pt]
   refine' tk 3 ?_
   try simp only [pt]
   refine' tk 4 ?_
   try simp only [pt]
   refine' tk 5 ?_
   try simp only [pt]
   refine' tk 6 ?_
   try simp only [pt]
   refine' cm 7 (fun K hK => ?_)
   go_simp
   refine (Ikb.out _ (Lkb.out.below hHeld.out)).mono ?_
   rintro e w7 ⟨rfl, hb2⟩
   have kA7 := blk_below kAd hb2
   have xA := (blk_cell kA7 1).trans rfl
   have fA := blk_frozen kA7 1
   refine hK.out _ _ ⟨hHeld.out.trans (hb2.mono hHeld.out.size)⟩ (fun hHeld => ?_)
   clear hK K
   try simp only [pt]
   refine' tk 8 ?_
   try simp only [pt]
   refine' cm 9 (fun K hK => ?_)
   go_simp
   have kA8 := blk_put kA7 1 (.int .i64 vb) rfl
   refine hK.out _ _ ⟨hHeld.out.setCell (p := ⟨gA, 1, none⟩) HGA.out (.int .i64 vb)⟩ (fun hHeld => ?_)
   clear hK K
   try simp only [pt]
   refine wpAnyH_done (by kernel_rfl) ?_ _
   go_wp2_with fail
   go_roundg (gk - 1)
   case measure => have := HI.out; omega
   case rel => exact ⟨2, by first | rfl | simp, ⟨by have := HI.out; omega⟩, ⟨hHeld.out⟩, ⟨by simpa using kA8⟩⟩
  ·have kA : wr.heap[gA]? = some (.cells #[.int .i64 va, .int .i64 vb, .int .i64 0] 72 (0, 0)) := by simpa using HKA.out
   obtain ⟨⟨⟨y0, y1, y2⟩, ⟨x0, x1, x2, x3⟩⟩, z0, z1⟩ := HC.out wr HB.out
   have a0 := (blk_cell kA 0).trans rfl
   have a1 := (blk_cell kA 1).trans rfl
   have a2 := (blk_cell kA 2).trans rfl
   have BB := Lib.hid (B1.out.trans (HB.out.mono B1.out.size))
   clear HC HB HE HAR HI HGA HKA kA B1 Lka Ika Lkb Ikb HK z0 z1 y0 y1 y2
   all_goals go_wp2
   all_goals
    go_ret
    refine ⟨?_, BB.out⟩
    have hf := HF.out
    have hop := HOP.out
    have eka := Eka.out
    have ekb := Ekb.out
    clear HF HOP BB x0 x1 x2 x3 a0 a1 a2
    first | (simp_all [moreS, twoS, fieldsS]; done) | (simp_all [moreS, twoS, fieldsS]; omega) | (rcases hop with rfl | rfl | rfl | rfl <;> simp_all [moreS, twoS, fieldsS]; done) | (rcases hop with rfl | rfl | rfl | rfl <;> simp_all [moreS, twoS, fieldsS] <;> omega)
theorem rs_node2_b (hop : op = 18 ∨ op = 19 ∨ op = 20 ∨ op = 21 ∨ op = 22) (hf : fieldsS rw rc rl op n m = true) {ka kb : Cr} {va vb : Int} (hl : Lies w (.node op n m at_ cap [ka, kb])) (ika : SortR rw rc rl ka va) (ikb : SortR rw rc rl kb vb) {s : Cr → Int} (eka : s ka = va) (ekb : s kb = vb) :
  Calls Tryz.prog 10 #[.agg #[.int .i64 rw, .int .i64 rc, .int .i64 rl], .agg #[.int .i64 op, .int .i64 n, .int .i64 m, .slice at_ 2 cap]] w fun e w' => e = .returned (.int .i64 (moreS s op n m [ka, kb])) ∧ Below w.heap.size w w' := by
 obtain ⟨p, rfl⟩ : ∃ p, at_ = some p := by
  obtain ⟨b, hb, -⟩ := hl.kids.cells (i := 0) (k := ka) rfl
  exact ⟨b, hb⟩
 obtain ⟨w1, e1, b1, k2, k3, s1⟩ := box2 w (.cells #[.int .i64 rw, .int .i64 rc, .int .i64 rl] 38) (.cells #[.int .i64 op, .int .i64 n, .int .i64 m, .slice (some p) 2 cap] 24)
 have HE := Lib.hid e1
 have B1 := Lib.hid b1
 obtain ⟨y0, y1, y2⟩ := room2_cells k2
 obtain ⟨x0, x1, x2, x3⟩ := core_cells k3
 have HK := Lib.hid (hl.below b1).kids
 simp only [Cr.at_, Cr.kids] at HK
 have HC := Lib.hid fun (w' : World) (hb : Below w1.heap.size w1 w') => (show ((w'.cell? ⟨w.heap.size, 0, none⟩ = some (.int .i64 rw) ∧ w'.cell? ⟨w.heap.size, 1, none⟩ = some (.int .i64 rc) ∧ w'.cell? ⟨w.heap.size, 2, none⟩ = some (.int .i64 rl)) ∧ (w'.cell? ⟨w.heap.size + 1, 0, none⟩ = some (.int .i64 op) ∧ w'.cell? ⟨w.heap.size + 1, 1, none⟩ = some (.int .i64 n) ∧ w'.cell? ⟨w.heap.size + 1, 2, none⟩ = some (.int .i64 m) ∧ w'.cell? ⟨w.heap.size + 1, 3, none⟩ = some (.slice (some p) 2 cap))) ∧ (w'.cell? p = some (.int .i64 ka.op) ∧ w'.cell? ⟨p.block, p.off + 1, none⟩ = some (.int .i64 ka.n) ∧ w'.cell? ⟨p.block, p.off + 2, none⟩ = some (.int .i64 ka.m) ∧ w'.cell? ⟨p.block, p.off + 3, none⟩ = some (.slice ka.at_ ka.kids.length ka.cap)) ∧ (w'.cell? ⟨p.block, p.off + 4, none⟩ = some (.int .i64 kb.op) ∧ w'.cell? ⟨p.block, p.off + 4 + 1, none⟩ = some (.int .i64 kb.n) ∧ w'.cell? ⟨p.block, p.off + 4 + 2, none⟩ = some (.int .i64 kb.m) ∧ w'.cell? ⟨p.block, p.off + 4 + 3, none⟩ = some (.slice kb.at_ kb.kids.length kb.cap)) from ⟨⟨room2_cells (blk_below k2 hb), core_cells (blk_below k3 hb)⟩, HK.out.lit0 hb rfl, HK.out.lit hb 0 rfl⟩)
 have Lka := Lib.hid (LiesL.lies HK.out (k := ka) (by simp))
 have Ika := Lib.hid ika
 have Lkb := Lib.hid (LiesL.lies HK.out (k := kb) (by simp))
 have Ikb := Lib.hid ikb
 have HAR := Lib.hid (show arityS op = 2 by rcases hop with rfl | rfl | rfl | rfl | rfl <;> rfl)
 have HF := Lib.hid hf
 have HOP := Lib.hid hop
 have p1 : (op == 1) = false := by simp; omega
 have p2 : (op == 2) = false := by simp; omega
 have p3 : (op == 3) = false := by simp; omega
 have p4 : (op == 4) = false := by simp; omega
 have p5 : (op == 5) = false := by simp; omega
 have p6 : (op == 6) = false := by simp; omega
 have p7 : (op == 7) = false := by simp; omega
 have p9 : (op == 9) = false := by simp; omega
 have p23 : (op == 23) = false := by simp; omega
 have p24 : (op == 24) = false := by simp; omega
 have p25 : (op == 25) = false := by simp; omega
 have p26 : (op == 26) = false := by simp; omega
 have p27 : (op == 27) = false := by simp; omega
 have p28 : (op == 28) = false := by simp; omega
 have p29 : (op == 29) = false := by simp; omega
 have p30 : (op == 30) = false := by simp; omega
 have p31 : (op == 31) = false := by simp; omega
 have p90 : (op != 9) = true := by simp; omega
 have r1 : (18 ≤ op) = True := eq_true (by omega)
 have r2 : (8 ≤ op) = True := eq_true (by omega)
 have r3 : (op ≤ 17) = False := eq_false (by omega)
 have r4 : (op ≤ 22) = True := eq_true (by omega)
 have Eka := Lib.hid eka
 have Ekb := Lib.hid ekb
 clear eka ekb
 clear hop hf k2 k3 e1 b1 s1 hl ika ikb
 go_enter Tryz.func10, Tryz.ntmps10
 go_wp2_with fail
 rw [HE.out]
 go_wp2_with fail
 refine (arity_calls op _).mono ?_
 rintro e w9 ⟨rfl, hw9⟩
 rw [hw9, HAR.out]
 clear hw9 w9
 go_wp2_with fail
 refine (fields_calls rw rc rl op n m (some p) 2 cap _).mono ?_
 rintro e w2 ⟨rfl, hb2⟩
 rw [HF.out]
 obtain ⟨⟨⟨y0, y1, y2⟩, ⟨x0, x1, x2, x3⟩⟩, z0, z1⟩ := HC.out w2 hb2
 go_wp2_with fail
 obtain ⟨gA, hgA⟩ : ∃ g, w2.heap.size = g := ⟨_, rfl⟩
 have HGA := Lib.hid (show w1.heap.size ≤ gA by rw [← hgA]; exact hb2.size)
 obtain ⟨wA, eA, bA, kA, sA⟩ := box1 w2 (.cells #[.int .i64 0, .int .i64 0, .int .i64 0] 72)
 rw [eA, hgA]
 rw [hgA] at kA
 have HBA := Lib.hid (hb2.trans (bA.mono hb2.size))
 have HKA := Lib.hid kA
 clear eA bA kA sA hgA hb2 y0 y1 y2 x0 x1 x2 x3 z0 z1
 go_loopg [7] 2 (fun gg v7 wr => ∃ i : Nat, v7 = .int .i64 i ∧ Aside0 (i ≤ 2 ∧ 2 - i ≤ gg) ∧ Aside0 (Below w1.heap.size w1 wr) ∧ Aside0 (wr.heap[gA]? = some (.cells #[.int .i64 (if 0 < i then va else 0), .int .i64 (if 1 < i then vb else 0), .int .i64 0] 72 (0, 0))))
 case atStart => exact ⟨0, rfl, ⟨by omega⟩, ⟨HBA.out⟩, ⟨by simpa using HKA.out⟩⟩
 case round =>
  clear HKA HBA
  obtain ⟨i, rfl, hi, BW, hKA⟩ := hrel
  have HI := Lib.hid hi.out
  have HB := Lib.hid BW.out
  have HKA := Lib.hid hKA.out
  clear hi BW hKA
  rcases (show i = 0 ∨ i = 1 ∨ i = 2 by have := HI.out; omega) with rfl | rfl | rfl
  ·have kA : wr.heap[gA]? = some (.cells #[.int .i64 0, .int .i64 0, .int .i64 0] 72 (0, 0)) := by simpa using HKA.out
   have kAd : wr.drew.heap[gA]? = some (.cells #[.int .i64 0, .int .i64 0, .int .i64 0] 72 (0, 0)) := kA
   clear HKA kA
   go_wp2_with fail
   refine wp_region_held_drew (S := fun w' => Aside0 (Below w1.heap.size w1 w')) (by kernel_rfl) ?_ (fun hHeld => ?_)
   ·exact ⟨HB.out.drew⟩
   generalize World.drew _ = wDa at hHeld kAd ⊢
   have HCr := HC
   refine' tk 0 ?_
   try simp only [pt]
   refine' tk 1 ?_
   try simp only [pt]
   refine' tk 2 ?_
   try simp only [pt]
   refine' tk 3 ?_
   try simp only [pt]
   refine' tk 4 ?_
   try simp only [pt]
   refine' tk 5 ?_
   try simp only [pt]
   refine' tk 6 ?_
   try simp only [pt]
   refine' cm 7 (fun K hK => ?_)
   go_simp
   refine (Ika.out _ (Lka.out.below hHeld.out)).mono ?_
   rintro e w7 ⟨rfl, hb2⟩
   have kA7 := blk_below kAd hb2
   have xA := (blk_cell kA7 0).trans rfl
   have fA := blk_frozen kA7 0
   refine hK.out _ _ ⟨hHeld.out.trans (hb2.mono hHeld.out.size)⟩ (fun hHeld => ?_)
   clear hK K
   try simp only [pt]
   refine' tk 8 ?_
   try simp only [pt]
   refine' cm 9 (fun K hK => ?_)
   go_simp
   have kA8 := blk_put kA7 0 (.int .i64 va) rfl
   refine hK.out _ _ ⟨hHeld.out.setCell (p := ⟨gA, 0, none⟩) HGA.out (.int .i64 va)⟩ (fun hHeld => ?_)
   clear hK K
   try simp only [pt]
   refine wpAnyH_done (by kernel_rfl) ?_ _
   go_wp2_with fail
   go_roundg (gk - 1)
   case measure => have := HI.out; omega
   case rel => exact ⟨1, by first | rfl | simp, ⟨by have := HI.out; omega⟩, ⟨hHeld.out⟩, ⟨by simpa using kA8⟩⟩
  ·have kA : wr.heap[gA]? = some (.cells #[.int .i64 va, .int .i64 0, .int .i64 0] 72 (0, 0)) := by simpa using HKA.out
   have kAd : wr.drew.heap[gA]? = some (.cells #[.int .i64 va, .int .i64 0, .int .i64 0] 72 (0, 0)) := kA
   clear HKA kA
   go_wp2_with fail
   refine wp_region_held_drew (S := fun w' => Aside0 (Below w1.heap.size w1 w')) (by kernel_rfl) ?_ (fun hHeld => ?_)
   ·exact ⟨HB.out.drew⟩
   generalize World.drew _ = wDb at hHeld kAd ⊢
   have HCr := HC
   refine' tk 0 ?_
   try simp only [pt]
   refine' tk 1 ?_
   try simp only [pt]
   refine' tk 2 ?_
   try simp only [pt]
   refine' tk 3 ?_
   try simp only [pt]
   refine' tk 4 ?_
   try simp only [pt]
   refine' tk 5 ?_
   try simp only [pt]
   refine' tk 6 ?_
   try simp only [pt]
   refine' cm 7 (fun K hK => ?_)
   go_simp
   refine (Ikb.out _ (Lkb.out.below hHeld.out)).mono ?_
   rintro e w7 ⟨rfl, hb2⟩
   have kA7 := blk_below kAd hb2
   have xA := (blk_cell kA7 1).trans rfl
   have fA := blk_frozen kA7 1
   refine hK.out _ _ ⟨hHeld.out.trans (hb2.mono hHeld.out.size)⟩ (fun hHeld => ?_)
   clear hK K
   try simp only [pt]
   refine' tk 8 ?_
   try simp only [pt]
   refine' cm 9 (fun K hK => ?_)
   go_simp
   have kA8 := blk_put kA7 1 (.int .i64 vb) rfl
   refine hK.out _ _ ⟨hHeld.out.setCell (p := ⟨gA, 1, none⟩) HGA.out (.int .i64 vb)⟩ (fun hHeld => ?_)
   clear hK K
   try simp only [pt]
   refine wpAnyH_done (by kernel_rfl) ?_ _
   go_wp2_with fail
   go_roundg (gk - 1)
   case measure => have := HI.out; omega
   case rel => exact ⟨2, by first | rfl | simp, ⟨by have := HI.out; omega⟩, ⟨hHeld.out⟩, ⟨by simpa using kA8⟩⟩
  ·have kA : wr.heap[gA]? = some (.cells #[.int .i64 va, .int .i64 vb, .int .i64 0] 72 (0, 0)) := by simpa using HKA.out
   obtain ⟨⟨⟨y0, y1, y2⟩, ⟨x0, x1, x2, x3⟩⟩, z0, z1⟩ := HC.out wr HB.out
   have a0 := (blk_cell kA 0).trans rfl
   have a1 := (blk_cell kA 1).trans rfl
   have a2 := (blk_cell kA 2).trans rfl
   have BB := Lib.hid (B1.out.trans (HB.out.mono B1.out.size))
   clear HC HB HE HAR HI HGA HKA kA B1 Lka Ika Lkb Ikb HK z0 z1 y0 y1 y2
   all_goals go_wp2
   all_goals
    go_ret
    refine ⟨?_, BB.out⟩
    have hf := HF.out
    have hop := HOP.out
    have eka := Eka.out
    have ekb := Ekb.out
    clear HF HOP BB x0 x1 x2 x3 a0 a1 a2
    first | (simp_all [moreS, twoS, fieldsS]; done) | (simp_all [moreS, twoS, fieldsS]; omega) | (rcases hop with rfl | rfl | rfl | rfl | rfl <;> simp_all [moreS, twoS, fieldsS]; done) | (rcases hop with rfl | rfl | rfl | rfl | rfl <;> simp_all [moreS, twoS, fieldsS] <;> omega)
theorem rs_node2_23 (hop : op = 23) (hf : fieldsS rw rc rl op n m = true) {ka kb : Cr} {va vb : Int} (hl : Lies w (.node op n m at_ cap [ka, kb])) (ika : SortR rw rc rl ka va) (ikb : SortR rw rc rl kb vb) {s : Cr → Int} (eka : s ka = va) (ekb : s kb = vb) :
  Calls Tryz.prog 10 #[.agg #[.int .i64 rw, .int .i64 rc, .int .i64 rl], .agg #[.int .i64 op, .int .i64 n, .int .i64 m, .slice at_ 2 cap]] w fun e w' => e = .returned (.int .i64 (moreS s op n m [ka, kb])) ∧ Below w.heap.size w w' := by
 obtain ⟨p, rfl⟩ : ∃ p, at_ = some p := by
  obtain ⟨b, hb, -⟩ := hl.kids.cells (i := 0) (k := ka) rfl
  exact ⟨b, hb⟩
 obtain ⟨w1, e1, b1, k2, k3, s1⟩ := box2 w (.cells #[.int .i64 rw, .int .i64 rc, .int .i64 rl] 38) (.cells #[.int .i64 op, .int .i64 n, .int .i64 m, .slice (some p) 2 cap] 24)
 have HE := Lib.hid e1
 have B1 := Lib.hid b1
 obtain ⟨y0, y1, y2⟩ := room2_cells k2
 obtain ⟨x0, x1, x2, x3⟩ := core_cells k3
 have HK := Lib.hid (hl.below b1).kids
 simp only [Cr.at_, Cr.kids] at HK
 have HC := Lib.hid fun (w' : World) (hb : Below w1.heap.size w1 w') => (show ((w'.cell? ⟨w.heap.size, 0, none⟩ = some (.int .i64 rw) ∧ w'.cell? ⟨w.heap.size, 1, none⟩ = some (.int .i64 rc) ∧ w'.cell? ⟨w.heap.size, 2, none⟩ = some (.int .i64 rl)) ∧ (w'.cell? ⟨w.heap.size + 1, 0, none⟩ = some (.int .i64 op) ∧ w'.cell? ⟨w.heap.size + 1, 1, none⟩ = some (.int .i64 n) ∧ w'.cell? ⟨w.heap.size + 1, 2, none⟩ = some (.int .i64 m) ∧ w'.cell? ⟨w.heap.size + 1, 3, none⟩ = some (.slice (some p) 2 cap))) ∧ (w'.cell? p = some (.int .i64 ka.op) ∧ w'.cell? ⟨p.block, p.off + 1, none⟩ = some (.int .i64 ka.n) ∧ w'.cell? ⟨p.block, p.off + 2, none⟩ = some (.int .i64 ka.m) ∧ w'.cell? ⟨p.block, p.off + 3, none⟩ = some (.slice ka.at_ ka.kids.length ka.cap)) ∧ (w'.cell? ⟨p.block, p.off + 4, none⟩ = some (.int .i64 kb.op) ∧ w'.cell? ⟨p.block, p.off + 4 + 1, none⟩ = some (.int .i64 kb.n) ∧ w'.cell? ⟨p.block, p.off + 4 + 2, none⟩ = some (.int .i64 kb.m) ∧ w'.cell? ⟨p.block, p.off + 4 + 3, none⟩ = some (.slice kb.at_ kb.kids.length kb.cap)) from ⟨⟨room2_cells (blk_below k2 hb), core_cells (blk_below k3 hb)⟩, HK.out.lit0 hb rfl, HK.out.lit hb 0 rfl⟩)
 have Lka := Lib.hid (LiesL.lies HK.out (k := ka) (by simp))
 have Ika := Lib.hid ika
 have Lkb := Lib.hid (LiesL.lies HK.out (k := kb) (by simp))
 have Ikb := Lib.hid ikb
 have HAR := Lib.hid (show arityS op = 2 by rcases hop with rfl <;> rfl)
 have HF := Lib.hid hf
 have HOP := Lib.hid hop
 have Eka := Lib.hid eka
 have Ekb := Lib.hid ekb
 clear eka ekb
 clear hop hf k2 k3 e1 b1 s1 hl ika ikb
 go_enter Tryz.func10, Tryz.ntmps10
 go_wp2_with fail
 rw [HE.out]
 go_wp2_with fail
 refine (arity_calls op _).mono ?_
 rintro e w9 ⟨rfl, hw9⟩
 rw [hw9, HAR.out]
 clear hw9 w9
 go_wp2_with fail
 refine (fields_calls rw rc rl op n m (some p) 2 cap _).mono ?_
 rintro e w2 ⟨rfl, hb2⟩
 rw [HF.out]
 obtain ⟨⟨⟨y0, y1, y2⟩, ⟨x0, x1, x2, x3⟩⟩, z0, z1⟩ := HC.out w2 hb2
 go_wp2_with fail
 obtain ⟨gA, hgA⟩ : ∃ g, w2.heap.size = g := ⟨_, rfl⟩
 have HGA := Lib.hid (show w1.heap.size ≤ gA by rw [← hgA]; exact hb2.size)
 obtain ⟨wA, eA, bA, kA, sA⟩ := box1 w2 (.cells #[.int .i64 0, .int .i64 0, .int .i64 0] 72)
 rw [eA, hgA]
 rw [hgA] at kA
 have HBA := Lib.hid (hb2.trans (bA.mono hb2.size))
 have HKA := Lib.hid kA
 clear eA bA kA sA hgA hb2 y0 y1 y2 x0 x1 x2 x3 z0 z1
 go_loopg [7] 2 (fun gg v7 wr => ∃ i : Nat, v7 = .int .i64 i ∧ Aside0 (i ≤ 2 ∧ 2 - i ≤ gg) ∧ Aside0 (Below w1.heap.size w1 wr) ∧ Aside0 (wr.heap[gA]? = some (.cells #[.int .i64 (if 0 < i then va else 0), .int .i64 (if 1 < i then vb else 0), .int .i64 0] 72 (0, 0))))
 case atStart => exact ⟨0, rfl, ⟨by omega⟩, ⟨HBA.out⟩, ⟨by simpa using HKA.out⟩⟩
 case round =>
  clear HKA HBA
  obtain ⟨i, rfl, hi, BW, hKA⟩ := hrel
  have HI := Lib.hid hi.out
  have HB := Lib.hid BW.out
  have HKA := Lib.hid hKA.out
  clear hi BW hKA
  rcases (show i = 0 ∨ i = 1 ∨ i = 2 by have := HI.out; omega) with rfl | rfl | rfl
  ·have kA : wr.heap[gA]? = some (.cells #[.int .i64 0, .int .i64 0, .int .i64 0] 72 (0, 0)) := by simpa using HKA.out
   have kAd : wr.drew.heap[gA]? = some (.cells #[.int .i64 0, .int .i64 0, .int .i64 0] 72 (0, 0)) := kA
   clear HKA kA
   go_wp2_with fail
   refine wp_region_held_drew (S := fun w' => Aside0 (Below w1.heap.size w1 w')) (by kernel_rfl) ?_ (fun hHeld => ?_)
   ·exact ⟨HB.out.drew⟩
   generalize World.drew _ = wDa at hHeld kAd ⊢
   have HCr := HC
   refine' tk 0 ?_
   try simp only [pt]
   refine' tk 1 ?_
   try simp only [pt]
   refine' tk 2 ?_
   try simp only [pt]
   refine' tk 3 ?_
   try simp only [pt]
   refine' tk 4 ?_
   try simp only [pt]
   refine' tk 5 ?_
   try simp only [pt]
   refine' tk 6 ?_
   try simp only [pt]
   refine' cm 7 (fun K hK => ?_)
   go_simp
   refine (Ika.out _ (Lka.out.below hHeld.out)).mono ?_
   rintro e w7 ⟨rfl, hb2⟩
   have kA7 := blk_below kAd hb2
   have xA := (blk_cell kA7 0).trans rfl
   have fA := blk_frozen kA7 0
   refine hK.out _ _ ⟨hHeld.out.trans (hb2.mono hHeld.out.size)⟩ (fun hHeld => ?_)
   clear hK K
   try simp only [pt]
   refine' tk 8 ?_
   try simp only [pt]
   refine' cm 9 (fun K hK => ?_)
   go_simp
   have kA8 := blk_put kA7 0 (.int .i64 va) rfl
   refine hK.out _ _ ⟨hHeld.out.setCell (p := ⟨gA, 0, none⟩) HGA.out (.int .i64 va)⟩ (fun hHeld => ?_)
   clear hK K
   try simp only [pt]
   refine wpAnyH_done (by kernel_rfl) ?_ _
   go_wp2_with fail
   go_roundg (gk - 1)
   case measure => have := HI.out; omega
   case rel => exact ⟨1, by first | rfl | simp, ⟨by have := HI.out; omega⟩, ⟨hHeld.out⟩, ⟨by simpa using kA8⟩⟩
  ·have kA : wr.heap[gA]? = some (.cells #[.int .i64 va, .int .i64 0, .int .i64 0] 72 (0, 0)) := by simpa using HKA.out
   have kAd : wr.drew.heap[gA]? = some (.cells #[.int .i64 va, .int .i64 0, .int .i64 0] 72 (0, 0)) := kA
   clear HKA kA
   go_wp2_with fail
   refine wp_region_held_drew (S := fun w' => Aside0 (Below w1.heap.size w1 w')) (by kernel_rfl) ?_ (fun hHeld => ?_)
   ·exact ⟨HB.out.drew⟩
   generalize World.drew _ = wDb at hHeld kAd ⊢
   have HCr := HC
   refine' tk 0 ?_
   try simp only [pt]
   refine' tk 1 ?_
   try simp only [pt]
   refine' tk 2 ?_
   try simp only [pt]
   refine' tk 3 ?_
   try simp only [pt]
   refine' tk 4 ?_
   try simp only [pt]
   refine' tk 5 ?_
   try simp only [pt]
   refine' tk 6 ?_
   try simp only [pt]
   refine' cm 7 (fun K hK => ?_)
   go_simp
   refine (Ikb.out _ (Lkb.out.below hHeld.out)).mono ?_
   rintro e w7 ⟨rfl, hb2⟩
   have kA7 := blk_below kAd hb2
   have xA := (blk_cell kA7 1).trans rfl
   have fA := blk_frozen kA7 1
   refine hK.out _ _ ⟨hHeld.out.trans (hb2.mono hHeld.out.size)⟩ (fun hHeld => ?_)
   clear hK K
   try simp only [pt]
   refine' tk 8 ?_
   try simp only [pt]
   refine' cm 9 (fun K hK => ?_)
   go_simp
   have kA8 := blk_put kA7 1 (.int .i64 vb) rfl
   refine hK.out _ _ ⟨hHeld.out.setCell (p := ⟨gA, 1, none⟩) HGA.out (.int .i64 vb)⟩ (fun hHeld => ?_)
   clear hK K
   try simp only [pt]
   refine wpAnyH_done (by kernel_rfl) ?_ _
   go_wp2_with fail
   go_roundg (gk - 1)
   case measure => have := HI.out; omega
   case rel => exact ⟨2, by first | rfl | simp, ⟨by have := HI.out; omega⟩, ⟨hHeld.out⟩, ⟨by simpa using kA8⟩⟩
  ·have kA : wr.heap[gA]? = some (.cells #[.int .i64 va, .int .i64 vb, .int .i64 0] 72 (0, 0)) := by simpa using HKA.out
   obtain ⟨⟨⟨y0, y1, y2⟩, ⟨x0, x1, x2, x3⟩⟩, z0, z1⟩ := HC.out wr HB.out
   have a0 := (blk_cell kA 0).trans rfl
   have a1 := (blk_cell kA 1).trans rfl
   have a2 := (blk_cell kA 2).trans rfl
   have BB := Lib.hid (B1.out.trans (HB.out.mono B1.out.size))
   clear HC HB HE HAR HI HGA HKA kA B1 Lka Ika Lkb Ikb HK z0 z1 y0 y1 y2
   rcases HOP.out with rfl
   all_goals go_wp2
   all_goals
    go_ret
    refine ⟨?_, BB.out⟩
    have hf := HF.out
    have hop := HOP.out
    have eka := Eka.out
    have ekb := Ekb.out
    clear HF HOP BB x0 x1 x2 x3 a0 a1 a2
    first | (simp_all [moreS, twoS, fieldsS]; done) | (simp_all [moreS, twoS, fieldsS]; omega) | (rcases hop with rfl <;> simp_all [moreS, twoS, fieldsS]; done) | (rcases hop with rfl <;> simp_all [moreS, twoS, fieldsS] <;> omega)
theorem rs_node2_24 (hop : op = 24) (hf : fieldsS rw rc rl op n m = true) {ka kb : Cr} {va vb : Int} (hl : Lies w (.node op n m at_ cap [ka, kb])) (ika : SortR rw rc rl ka va) (ikb : SortR rw rc rl kb vb) {s : Cr → Int} (eka : s ka = va) (ekb : s kb = vb) :
  Calls Tryz.prog 10 #[.agg #[.int .i64 rw, .int .i64 rc, .int .i64 rl], .agg #[.int .i64 op, .int .i64 n, .int .i64 m, .slice at_ 2 cap]] w fun e w' => e = .returned (.int .i64 (moreS s op n m [ka, kb])) ∧ Below w.heap.size w w' := by
 obtain ⟨p, rfl⟩ : ∃ p, at_ = some p := by
  obtain ⟨b, hb, -⟩ := hl.kids.cells (i := 0) (k := ka) rfl
  exact ⟨b, hb⟩
 obtain ⟨w1, e1, b1, k2, k3, s1⟩ := box2 w (.cells #[.int .i64 rw, .int .i64 rc, .int .i64 rl] 38) (.cells #[.int .i64 op, .int .i64 n, .int .i64 m, .slice (some p) 2 cap] 24)
 have HE := Lib.hid e1
 have B1 := Lib.hid b1
 obtain ⟨y0, y1, y2⟩ := room2_cells k2
 obtain ⟨x0, x1, x2, x3⟩ := core_cells k3
 have HK := Lib.hid (hl.below b1).kids
 simp only [Cr.at_, Cr.kids] at HK
 have HC := Lib.hid fun (w' : World) (hb : Below w1.heap.size w1 w') => (show ((w'.cell? ⟨w.heap.size, 0, none⟩ = some (.int .i64 rw) ∧ w'.cell? ⟨w.heap.size, 1, none⟩ = some (.int .i64 rc) ∧ w'.cell? ⟨w.heap.size, 2, none⟩ = some (.int .i64 rl)) ∧ (w'.cell? ⟨w.heap.size + 1, 0, none⟩ = some (.int .i64 op) ∧ w'.cell? ⟨w.heap.size + 1, 1, none⟩ = some (.int .i64 n) ∧ w'.cell? ⟨w.heap.size + 1, 2, none⟩ = some (.int .i64 m) ∧ w'.cell? ⟨w.heap.size + 1, 3, none⟩ = some (.slice (some p) 2 cap))) ∧ (w'.cell? p = some (.int .i64 ka.op) ∧ w'.cell? ⟨p.block, p.off + 1, none⟩ = some (.int .i64 ka.n) ∧ w'.cell? ⟨p.block, p.off + 2, none⟩ = some (.int .i64 ka.m) ∧ w'.cell? ⟨p.block, p.off + 3, none⟩ = some (.slice ka.at_ ka.kids.length ka.cap)) ∧ (w'.cell? ⟨p.block, p.off + 4, none⟩ = some (.int .i64 kb.op) ∧ w'.cell? ⟨p.block, p.off + 4 + 1, none⟩ = some (.int .i64 kb.n) ∧ w'.cell? ⟨p.block, p.off + 4 + 2, none⟩ = some (.int .i64 kb.m) ∧ w'.cell? ⟨p.block, p.off + 4 + 3, none⟩ = some (.slice kb.at_ kb.kids.length kb.cap)) from ⟨⟨room2_cells (blk_below k2 hb), core_cells (blk_below k3 hb)⟩, HK.out.lit0 hb rfl, HK.out.lit hb 0 rfl⟩)
 have Lka := Lib.hid (LiesL.lies HK.out (k := ka) (by simp))
 have Ika := Lib.hid ika
 have Lkb := Lib.hid (LiesL.lies HK.out (k := kb) (by simp))
 have Ikb := Lib.hid ikb
 have HAR := Lib.hid (show arityS op = 2 by rcases hop with rfl <;> rfl)
 have HF := Lib.hid hf
 have HOP := Lib.hid hop
 have Eka := Lib.hid eka
 have Ekb := Lib.hid ekb
 clear eka ekb
 clear hop hf k2 k3 e1 b1 s1 hl ika ikb
 go_enter Tryz.func10, Tryz.ntmps10
 go_wp2_with fail
 rw [HE.out]
 go_wp2_with fail
 refine (arity_calls op _).mono ?_
 rintro e w9 ⟨rfl, hw9⟩
 rw [hw9, HAR.out]
 clear hw9 w9
 go_wp2_with fail
 refine (fields_calls rw rc rl op n m (some p) 2 cap _).mono ?_
 rintro e w2 ⟨rfl, hb2⟩
 rw [HF.out]
 obtain ⟨⟨⟨y0, y1, y2⟩, ⟨x0, x1, x2, x3⟩⟩, z0, z1⟩ := HC.out w2 hb2
 go_wp2_with fail
 obtain ⟨gA, hgA⟩ : ∃ g, w2.heap.size = g := ⟨_, rfl⟩
 have HGA := Lib.hid (show w1.heap.size ≤ gA by rw [← hgA]; exact hb2.size)
 obtain ⟨wA, eA, bA, kA, sA⟩ := box1 w2 (.cells #[.int .i64 0, .int .i64 0, .int .i64 0] 72)
 rw [eA, hgA]
 rw [hgA] at kA
 have HBA := Lib.hid (hb2.trans (bA.mono hb2.size))
 have HKA := Lib.hid kA
 clear eA bA kA sA hgA hb2 y0 y1 y2 x0 x1 x2 x3 z0 z1
 go_loopg [7] 2 (fun gg v7 wr => ∃ i : Nat, v7 = .int .i64 i ∧ Aside0 (i ≤ 2 ∧ 2 - i ≤ gg) ∧ Aside0 (Below w1.heap.size w1 wr) ∧ Aside0 (wr.heap[gA]? = some (.cells #[.int .i64 (if 0 < i then va else 0), .int .i64 (if 1 < i then vb else 0), .int .i64 0] 72 (0, 0))))
 case atStart => exact ⟨0, rfl, ⟨by omega⟩, ⟨HBA.out⟩, ⟨by simpa using HKA.out⟩⟩
 case round =>
  clear HKA HBA
  obtain ⟨i, rfl, hi, BW, hKA⟩ := hrel
  have HI := Lib.hid hi.out
  have HB := Lib.hid BW.out
  have HKA := Lib.hid hKA.out
  clear hi BW hKA
  rcases (show i = 0 ∨ i = 1 ∨ i = 2 by have := HI.out; omega) with rfl | rfl | rfl
  ·have kA : wr.heap[gA]? = some (.cells #[.int .i64 0, .int .i64 0, .int .i64 0] 72 (0, 0)) := by simpa using HKA.out
   have kAd : wr.drew.heap[gA]? = some (.cells #[.int .i64 0, .int .i64 0, .int .i64 0] 72 (0, 0)) := kA
   clear HKA kA
   go_wp2_with fail
   refine wp_region_held_drew (S := fun w' => Aside0 (Below w1.heap.size w1 w')) (by kernel_rfl) ?_ (fun hHeld => ?_)
   ·exact ⟨HB.out.drew⟩
   generalize World.drew _ = wDa at hHeld kAd ⊢
   have HCr := HC
   refine' tk 0 ?_
   try simp only [pt]
   refine' tk 1 ?_
   try simp only [pt]
   refine' tk 2 ?_
   try simp only [pt]
   refine' tk 3 ?_
   try simp only [pt]
   refine' tk 4 ?_
   try simp only [pt]
   refine' tk 5 ?_
   try simp only [pt]
   refine' tk 6 ?_
   try simp only [pt]
   refine' cm 7 (fun K hK => ?_)
   go_simp
   refine (Ika.out _ (Lka.out.below hHeld.out)).mono ?_
   rintro e w7 ⟨rfl, hb2⟩
   have kA7 := blk_below kAd hb2
   have xA := (blk_cell kA7 0).trans rfl
   have fA := blk_frozen kA7 0
   refine hK.out _ _ ⟨hHeld.out.trans (hb2.mono hHeld.out.size)⟩ (fun hHeld => ?_)
   clear hK K
   try simp only [pt]
   refine' tk 8 ?_
   try simp only [pt]
   refine' cm 9 (fun K hK => ?_)
   go_simp
   have kA8 := blk_put kA7 0 (.int .i64 va) rfl
   refine hK.out _ _ ⟨hHeld.out.setCell (p := ⟨gA, 0, none⟩) HGA.out (.int .i64 va)⟩ (fun hHeld => ?_)
   clear hK K
   try simp only [pt]
   refine wpAnyH_done (by kernel_rfl) ?_ _
   go_wp2_with fail
   go_roundg (gk - 1)
   case measure => have := HI.out; omega
   case rel => exact ⟨1, by first | rfl | simp, ⟨by have := HI.out; omega⟩, ⟨hHeld.out⟩, ⟨by simpa using kA8⟩⟩
  ·have kA : wr.heap[gA]? = some (.cells #[.int .i64 va, .int .i64 0, .int .i64 0] 72 (0, 0)) := by simpa using HKA.out
   have kAd : wr.drew.heap[gA]? = some (.cells #[.int .i64 va, .int .i64 0, .int .i64 0] 72 (0, 0)) := kA
   clear HKA kA
   go_wp2_with fail
   refine wp_region_held_drew (S := fun w' => Aside0 (Below w1.heap.size w1 w')) (by kernel_rfl) ?_ (fun hHeld => ?_)
   ·exact ⟨HB.out.drew⟩
   generalize World.drew _ = wDb at hHeld kAd ⊢
   have HCr := HC
   refine' tk 0 ?_
   try simp only [pt]
   refine' tk 1 ?_
   try simp only [pt]
   refine' tk 2 ?_
   try simp only [pt]
   refine' tk 3 ?_
   try simp only [pt]
   refine' tk 4 ?_
   try simp only [pt]
   refine' tk 5 ?_
   try simp only [pt]
   refine' tk 6 ?_
   try simp only [pt]
   refine' cm 7 (fun K hK => ?_)
   go_simp
   refine (Ikb.out _ (Lkb.out.below hHeld.out)).mono ?_
   rintro e w7 ⟨rfl, hb2⟩
   have kA7 := blk_below kAd hb2
   have xA := (blk_cell kA7 1).trans rfl
   have fA := blk_frozen kA7 1
   refine hK.out _ _ ⟨hHeld.out.trans (hb2.mono hHeld.out.size)⟩ (fun hHeld => ?_)
   clear hK K
   try simp only [pt]
   refine' tk 8 ?_
   try simp only [pt]
   refine' cm 9 (fun K hK => ?_)
   go_simp
   have kA8 := blk_put kA7 1 (.int .i64 vb) rfl
   refine hK.out _ _ ⟨hHeld.out.setCell (p := ⟨gA, 1, none⟩) HGA.out (.int .i64 vb)⟩ (fun hHeld => ?_)
   clear hK K
   try simp only [pt]
   refine wpAnyH_done (by kernel_rfl) ?_ _
   go_wp2_with fail
   go_roundg (gk - 1)
   case measure => have := HI.out; omega
   case rel => exact ⟨2, by first | rfl | simp, ⟨by have := HI.out; omega⟩, ⟨hHeld.out⟩, ⟨by simpa using kA8⟩⟩
  ·have kA : wr.heap[gA]? = some (.cells #[.int .i64 va, .int .i64 vb, .int .i64 0] 72 (0, 0)) := by simpa using HKA.out
   obtain ⟨⟨⟨y0, y1, y2⟩, ⟨x0, x1, x2, x3⟩⟩, z0, z1⟩ := HC.out wr HB.out
   have a0 := (blk_cell kA 0).trans rfl
   have a1 := (blk_cell kA 1).trans rfl
   have a2 := (blk_cell kA 2).trans rfl
   have BB := Lib.hid (B1.out.trans (HB.out.mono B1.out.size))
   clear HC HB HE HAR HI HGA HKA kA B1 Lka Ika Lkb Ikb HK z0 z1 y0 y1 y2
   rcases HOP.out with rfl
   all_goals go_wp2
   all_goals
    go_ret
    refine ⟨?_, BB.out⟩
    have hf := HF.out
    have hop := HOP.out
    have eka := Eka.out
    have ekb := Ekb.out
    clear HF HOP BB x0 x1 x2 x3 a0 a1 a2
    first | (simp_all [moreS, twoS, fieldsS]; done) | (simp_all [moreS, twoS, fieldsS]; omega) | (rcases hop with rfl <;> simp_all [moreS, twoS, fieldsS]; done) | (rcases hop with rfl <;> simp_all [moreS, twoS, fieldsS] <;> omega)
end
end Go.Proofs.YtpljkcakijkklaaGreatDoor

end
