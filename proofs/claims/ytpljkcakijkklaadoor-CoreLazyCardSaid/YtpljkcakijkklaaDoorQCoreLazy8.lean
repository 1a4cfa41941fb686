/-
  Texts of this seat, joined, less what CoreLazy does not lean on: Base, Tk.
-/
import Derived.Test.YtpljkcakijkklaaDoorProg
import Derived.Below
import Derived.Deep.Draws
import Derived.Deep.AppendLies
import Derived.Maps.AppendAt
import Derived.OwnWalk
import Derived.Laws.BytesArg
import Derived.Laws.MakeOwn
import Derived.Laws.OwnMore
import Derived.Deep.OwnRows
import Derived.Tactics
import Derived.Lib.ConvBytes
import Derived.Laws.Slices
import Derived.WalkKit
import Derived.KernelRfl
import Derived.RowKit3
import Derived.Deep.LoopGhost
import Derived.Deep.QuietTactic
import Derived.BigQuiet
import Derived.WideLaws
import Derived.Deep.DeepCutAuto
import Derived.Deep.CutBlock
import Derived.Deep.RegionHeld3
import Derived.Laws.Rows
import Derived.Lib.AppendStr
import Derived.ArgAppend
import Derived.Laws.IdiomCopy
import Derived.OrdersHeld
import Derived.Laws.BitsLemmas
import Derived.RowKit
import Derived.Test.YtpljkcakijkklaaDoorQCoreLazy1
import Derived.Test.YtpljkcakijkklaaDoorQCoreLazy6
import Derived.Test.YtpljkcakijkklaaDoorQCoreLazy7
import Derived.Test.YtpljkcakijkklaaDoorQCoreLazy2
import Derived.ProofKit
import Derived.Lib.Hide
import Derived.WalkMore
import Derived.Deep.RegionHeldLaw
import Derived.Deep.RegionLaw
import Derived.BigRegion
import Derived.StillTailTactics
set_option linter.unusedVariables false
set_option linter.unusedSimpArgs false
section

end
section
namespace Go.Proofs.YtpljkcakijkklaaDoor
set_option linter.unusedVariables false
set_option linter.unusedSimpArgs false
open Go.RowKit
section
variable {P : Program} {l : List Oper} {Q : Exit → Act → World → Prop} {md : Region.Mode} {S : World → Prop} {oi : Oper} {v : Value} {fuel : Nat} {listed : Array Bool} {a : Act} {w : World}
theorem tk (i : Nat) (h : wpAnyH P md l.toArray Q S fuel (listed.setIfInBounds i true) (a.put oi.dst v) w) (hi : l[i]? = some oi := by rfl)
  (hb : (Region.noSelect l.toArray && (Region.free md l.toArray listed i && (Region.ready md l.toArray listed).contains i)) = true := by kernel_rfl)
  (hQ : ∀ c a w, Q (.panic c) (a.put oi.dst v) w → Q (.panic c) a w := by exact fun _ _ _ h => h)
  (hy : YieldsIf P l.toArray S oi v a := by (refine .inl ⟨by rfl, fun w h => ?_⟩; have F := HCr.out w h.out; go_simp; (try with_reducible rfl))) (hS : S w := by assumption) :
  wpAnyH P md l.toArray Q S (fuel + 1) listed a w := by
 rw [Bool.and_eq_true, Bool.and_eq_true] at hb
 exact wpAnyH_take (by rw [List.getElem?_toArray]; exact hi) hb.1 hb.2.1 hb.2.2 hQ hy hS h
theorem tn (i : Nat) (h : wpAnyH P md l.toArray Q S fuel (listed.setIfInBounds i true) (a.put oi.dst undef) w) (hi : l[i]? = some oi := by rfl)
  (hb : (Region.noSelect l.toArray && (Region.free md l.toArray listed i && (Region.ready md l.toArray listed).contains i)) = true := by kernel_rfl)
  (hQ : ∀ c a w, Q (.panic c) (a.put oi.dst undef) w → Q (.panic c) a w := by exact fun _ _ _ h => h)
  (hy : Region.wanted oi (yielded l.toArray a.tmps) = false := by rfl) (hS : S w := by assumption) :
  wpAnyH P md l.toArray Q S (fuel + 1) listed a w := by
 rw [Bool.and_eq_true, Bool.and_eq_true] at hb
 exact wpAnyH_take (by rw [List.getElem?_toArray]; exact hi) hb.1 hb.2.1 hb.2.2 hQ (.inr ⟨hy, rfl⟩) hS h
theorem cm (i : Nat) (h : ∀ K' : Act → World → Prop, Shut (∀ a w, S w → (S w → wpAnyH P md l.toArray Q S fuel (listed.setIfInBounds i true) a w) → K' a w) → if Region.wanted oi (yielded l.toArray a.tmps) = true then Oper.wp P oi a w K' Q else K' (a.put oi.dst undef) w)
  (hi : l[i]? = some oi := by rfl) (hr : Region.ready md l.toArray listed = [i] := by kernel_rfl) : wpAnyH P md l.toArray Q S (fuel + 1) listed a w :=
 wpAnyH_ready hr (by simp) (AllReadyH.cons (by rw [List.getElem?_toArray]; exact hi) h AllReadyH.nil)
end
theorem pt : (∀ (ts : Array Value) (ds : List Deferred) (d : Nat) (v : Value), Act.put ⟨ts, ds⟩ (some d) v = ⟨ts.setIfInBounds d v, ds⟩) ∧ (∀ (a : Act) (v : Value), a.put none v = a) ∧ (∀ {α : Type} (l : List α) (i : Nat) (a : α), l.toArray.setIfInBounds i a = (l.set i a).toArray) ∧
  (∀ {α : Type} (x : α) (l : List α) (a : α), (x :: l).set 0 a = a :: l) ∧ (∀ {α : Type} (x : α) (l : List α) (i : Nat) (a : α), (x :: l).set (i + 1) a = x :: l.set i a) :=
 ⟨fun _ _ _ _ => rfl, fun _ _ => rfl, fun _ _ _ => List.setIfInBounds_toArray .., fun _ _ _ => rfl, fun _ _ _ _ => rfl⟩
theorem share {X F : Nat → World → Prop} {G : Prop} (h : (∀ g w, F g w → X g w) → G) (hX : ∀ g w, F g w → X g w) : G := h hX
end Go.Proofs.YtpljkcakijkklaaDoor

end
