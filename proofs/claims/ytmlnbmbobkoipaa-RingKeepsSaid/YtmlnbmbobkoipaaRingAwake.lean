/-
  What the law's own first question comes to: a ring of one number.
-/
import Derived.Test.YtmlnbmbobkoipaaRingI4
import Derived.Test.YtmlnbmbobkoipaaRingTypesPure
namespace Go.Proofs.Ytmlnbmbobkoipaa
open Go.RowKit Go.Proofs.YtmlnbmbobkoipaaW.PrintWords Go.Proofs.YtmlnbmbobkoipaaW.PrintLast Go.Proofs.YtmlnbmbobkoipaaW.PrintMore
set_option maxHeartbeats 8000000 in
set_option maxRecDepth 100000 in
theorem awake05 (w : World) : Calls Try.prog 21 #[] w fun e w' => e = .returned (.bool true) ∧ Below w.heap.size w w' := by
  go_enter Try.func21, Try.ntmps21
  go_wp2_with fail
  refine (ring_new 1 _ (by decide) (by decide)).mono ?_
  rintro e w1 ⟨g, rfl, hg, h1, b1⟩
  have HG := Lib.hid hg
  clear hg
  go_wp2_with fail
  refine (ring_push 5 h1 (by decide)).mono ?_
  rintro e w2 ⟨rfl, b2, k2, h2⟩
  have h2' := Lib.hid (show RingIsI w2 g (fun k => False ∨ w1.heap.size ≤ k) 1 [5] from h2)
  clear h2
  go_wp2_with fail
  refine (ring_push 6 h2'.out (by decide)).mono ?_
  rintro e w3 ⟨rfl, b3, k3, h3⟩
  have h3' := Lib.hid (show RingIsI w3 g (fun k => (False ∨ w1.heap.size ≤ k) ∨ w2.heap.size ≤ k) 1 [6] from h3)
  clear h3
  have e1 : (if (([5] : List Int).length : Int) = 1 then ([5] : List Int).headD 0 else 0) = 5 := by decide
  have e2 : decide ((([5] : List Int).length : Int) = 1) = true := by decide
  rw [e1, e2]
  go_wp2_with fail
  refine (ring_len h3'.out).mono ?_
  rintro e w4 ⟨rfl, rfl⟩
  go_wp2
  go_ret
  have hz := HG.out
  have z1 := b1.size
  have z2 := k2.1
  have z3 := k3.1
  refine ⟨by simp, ?_⟩
  refine below_kept (below_kept b1 b2 k2 ?_) b3 k3 ?_
  · rintro k hk (rfl | h)
    · omega
    · exact h
  · rintro k hk (rfl | h | h)
    · omega
    · exact h
    · omega
end Go.Proofs.Ytmlnbmbobkoipaa
