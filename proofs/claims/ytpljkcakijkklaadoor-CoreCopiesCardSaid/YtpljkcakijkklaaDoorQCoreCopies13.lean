/-
  Texts of this seat, joined, less what CoreCopies does not lean on: TailH.
-/
import Derived.StillTail
import Derived.Test.YtpljkcakijkklaaDoorQCoreCopies10
set_option linter.unusedVariables false
set_option linter.unusedSimpArgs false
section
namespace Go.Proofs.YtpljkcakijkklaaDoor
set_option linter.unusedVariables false
set_option linter.unusedSimpArgs false
open Go.RowKit
section
variable {P : Program} {md : Region.Mode} {ops : Array Oper} {Q : Exit → Act → World → Prop} {S : World → Prop}
def wpAnyT (P : Program) (md : Region.Mode) (ops : Array Oper) (Q : Exit → Act → World → Prop) (S : World → Prop) (n : Nat) (T : Array Bool → Act → World → Prop) : Nat → Array Bool → Act → World → Prop
 | 0, listed, a, w => T listed a w
 | f + 1, listed, a, w => Region.ready md ops listed ≠ [] ∧ ∀ i ∈ Region.ready md ops listed, i < n ∧ wpOp P ops Q i (fun a' w' => S w' ∧ wpAnyT P md ops Q S n T f (listed.setIfInBounds i true) a' w') a w
theorem wpAny_of_T {n g : Nat} {T : Array Bool → Act → World → Prop} (hT : ∀ listed a w, T listed a w → wpAny P md ops Q g listed a w) :
  ∀ (f : Nat) (listed : Array Bool) (a : Act) (w : World), wpAnyT P md ops Q S n T f listed a w → wpAny P md ops Q (f + g) listed a w
 | 0, listed, a, w, h => by rw [Nat.zero_add]; exact hT _ _ _ h
 | f + 1, listed, a, w, h => by
  rw [show f + 1 + g = (f + g) + 1 by omega]
  exact ⟨fun h0 => absurd h0 h.1, fun i hi => wpOp_mono (fun a' w' h' => wpAny_of_T hT f _ a' w' h'.2) (h.2 i hi).2⟩
theorem wpAnyT_first {n i : Nat} {oi : Oper} {v : Value} {T : Array Bool → Act → World → Prop} (hi : ops[i]? = some oi) (hsel : ∀ (j : Nat) (o : Oper) cs b, ops[j]? = some o → o.op ≠ .select cs b)
  (hs : Region.sinkB md ops n = true) (hc : Region.chainB md ops n = true) (hn : n < ops.size) (hin : i < n) (hQ : ∀ c a w, Q (.panic c) (a.put oi.dst v) w → Q (.panic c) a w)
  (hdone : ∀ listed a w, T listed a w → ∀ j ∈ Region.ready md ops listed, n ≤ j) :
  ∀ (f : Nat) (listed : Array Bool) (a : Act) (w : World), HeadInv md ops n listed →
   (∀ j oj, ops[j]? = some oj → j ≠ i → listed.getD j true = false → (∀ e ∈ oj.after, Region.binds md e = true → e.on ≠ i) → oi.apart ops oj = true) →
   i ∈ Region.ready md ops listed → YieldsIf P ops S oi v a → S w →
   wpAnyT P md ops Q S n T f (listed.setIfInBounds i true) (a.put oi.dst v) w → wpAnyT P md ops Q S n T (f + 1) listed a w := by
 intro f
 induction f with
 | zero =>
  intro listed a w inv _ hr hy hS H
  have hun := (mem_ready.1 hr).1
  refine ⟨fun h => (by rw [h] at hr; cases hr), fun j hj => ?_⟩
  have hjn : j < n := by
   rcases Nat.lt_or_ge j n with h | h
   ·exact h
   ·exact absurd hj (tail_waits hs hc hn inv _ i rfl hin hun j h)
  refine ⟨hjn, ?_⟩
  by_cases hji : j = i
  ·subst hji; exact hy.wpOp hi hS ⟨hS, H⟩
  ·have := hdone _ _ _ H j (ready_mono hj hji)
   omega
 | succ f ih =>
  intro listed a w inv hfree hr hy hS H
  have hun := (mem_ready.1 hr).1
  refine ⟨fun h => (by rw [h] at hr; cases hr), fun j hj => ?_⟩
  have hjn : j < n := by
   rcases Nat.lt_or_ge j n with h | h
   ·exact h
   ·exact absurd hj (tail_waits hs hc hn inv _ i rfl hin hun j h)
  refine ⟨hjn, ?_⟩
  by_cases hji : j = i
  ·subst hji; exact hy.wpOp hi hS ⟨hS, H⟩
  ·have h1 := (H.2 j (ready_mono hj hji)).2
   obtain ⟨hjun, oj, hoj, hall⟩ := mem_ready.1 hj
   have hnot : ∀ e ∈ oj.after, Region.binds md e = true → e.on ≠ i := fun e he hb heq => by
    have h1 := hall e he hb
    rw [heq, getD_both hun] at h1
    cases h1
   have h2 := wpOp_putIf hoj (hfree j oj hoj hji hjun hnot) (fun cs b => hsel i oi cs b hi) (fun cs b => hsel j oj cs b hoj) hQ hy h1
   have hfree' : ∀ k ok, ops[k]? = some ok → k ≠ i → (listed.setIfInBounds j true).getD k true = false →
     (∀ e ∈ ok.after, Region.binds md e = true → e.on ≠ i) → oi.apart ops ok = true := fun k ok hk hki hun hno => by
    refine hfree k ok hk hki ?_ hno
    by_cases hjk : j = k
    ·subst hjk; exact hjun
    ·rw [getD_set_ne true hjk] at hun; exact hun
   refine wpOp_mono (fun a' w' h3 => ⟨h3.2.1, ih (listed.setIfInBounds j true) a' w' (inv.set hj hjn) hfree' (ready_mono hr (Ne.symm hji)) h3.1 h3.2.1 ?_⟩) h2
   rw [Array.setIfInBounds_comm _ _ hji]
   exact h3.2.2
def WT (P : Program) (md : Region.Mode) (l : List Oper) (Q : Exit → Act → World → Prop) (S : World → Prop) (n : Nat) (f : Nat) (listed : Array Bool) (a : Act) (w : World) : Prop :=
 HeadInv md l.toArray n listed → wpAnyT P md l.toArray Q S n (fun listed' a' w' => Region.seqB md l.toArray (l.toArray.size - n) n listed' = true ∧ wpList P l.toArray Q (l.drop n) a' w') f listed a w
end
section
variable {P : Program} {l : List Oper} {Q : Exit → Act → World → Prop} {md : Region.Mode} {S : World → Prop} {oi : Oper} {v : Value} {n fuel : Nat} {listed : Array Bool} {a : Act} {w : World}
theorem wp_region_tail {id : Nat} (n : Nat) (hS : S w.drew) (h : S w.drew → WT P .any l Q S n n (Array.replicate l.toArray.size false) a w.drew)
  (hm : P.follows .mixedOrders = true := by kernel_rfl) (hB : (decide (n < l.toArray.size) && (decide (n ≤ l.length))) = true := by kernel_rfl) : (Code.region id l.toArray true).wp P Q a w := by
 simp only [Bool.and_eq_true, decide_eq_true_eq] at hB
 refine wp_region_any hm ?_
 have inv0 : HeadInv .any l.toArray n (Array.replicate l.toArray.size false) :=
  ⟨by simp, fun j oj _ hl => (by rw [getD_replicate_false] at hl; cases hl), fun t _ ht => getD_in (by simpa using ht) (getD_replicate_false _ _)⟩
 have H := wpAny_of_T (Q := Q) (g := l.toArray.size - n) (fun listed a' w' hT => by
  have e : (l.drop n).length = l.toArray.size - n := by simp
  have := wpAny_of_seq (P := P) (md := .any) (ops := l.toArray) (Q' := Q) (l.drop n) n listed a' w' (fun j => by simp [List.getElem?_drop]) (by rw [e]; exact hT.1) hT.2
  rw [e] at this
  exact this) n _ a w.drew (h hS inv0)
 rw [show n + (l.toArray.size - n) = l.toArray.size by omega] at H
 exact H
theorem tkT (i : Nat) (h : WT P md l Q S n fuel (listed.setIfInBounds i true) (a.put oi.dst v) w) (hi : l[i]? = some oi := by rfl)
  (hb : (Region.noSelect l.toArray && (Region.free md l.toArray listed i && ((Region.ready md l.toArray listed).contains i && (Region.sinkB md l.toArray n && (Region.chainB md l.toArray n && (decide (n < l.toArray.size) && decide (i < n))))))) = true := by kernel_rfl)
  (hQ : ∀ c a w, Q (.panic c) (a.put oi.dst v) w → Q (.panic c) a w := by exact fun _ _ _ h => h)
  (hy : YieldsIf P l.toArray S oi v a := by (refine .inl ⟨by rfl, fun w h => ?_⟩; have F := HCr.out w h.out; go_simp; (try with_reducible rfl))) (hS : S w := by assumption) :
  WT P md l Q S n (fuel + 1) listed a w := by
 simp only [Bool.and_eq_true, decide_eq_true_eq] at hb
 obtain ⟨h1, h2, h3, h4, h5, h6, h7⟩ := hb
 intro inv
 have hr : i ∈ Region.ready md l.toArray listed := by simpa using h3
 have hi' : l.toArray[i]? = some oi := by rw [List.getElem?_toArray]; exact hi
 exact wpAnyT_first hi' (Region.noSelect_spec h1) h4 h5 h6 h7 hQ (fun listed a w hT => seqB_ready hT.1) fuel listed a w inv (Region.free_spec hi' h2) hr hy hS (h (inv.set hr h7))
theorem cmT (i : Nat) (h : ∀ K' : Act → World → Prop, Shut (∀ a w, S w → (S w → WT P md l Q S n fuel (listed.setIfInBounds i true) a w) → K' a w) → if Region.wanted oi (yielded l.toArray a.tmps) = true then Oper.wp P oi a w K' Q else K' (a.put oi.dst undef) w)
  (hi : l[i]? = some oi := by rfl) (hr : Region.ready md l.toArray listed = [i] := by kernel_rfl) (hin : decide (i < n) = true := by kernel_rfl) : WT P md l Q S n (fuel + 1) listed a w := by
 intro inv
 refine ⟨by rw [hr]; simp, fun j hj => ?_⟩
 have hj' := hj
 rw [hr] at hj'
 obtain rfl := List.mem_singleton.1 hj'
 have hin' := of_decide_eq_true hin
 exact ⟨hin', wpOp_step (by rw [List.getElem?_toArray]; exact hi) (fun K' hK => h K' (fun a w hS hW => hK a w ⟨hS, hW hS (inv.set hj hin')⟩))⟩
theorem doneT (h : wpList P l.toArray Q (l.drop n) a w) (hr : Region.seqB md l.toArray (l.toArray.size - n) n listed = true := by kernel_rfl) : WT P md l Q S n 0 listed a w := fun _ => ⟨hr, h⟩
end
end Go.Proofs.YtpljkcakijkklaaDoor

end
