/-
  Texts of this seat, joined, less what CoreLazy does not lean on: EnvArg.
-/
import Derived.Test.YtpljkcakijkklaaDoorQCoreLazy12
import Derived.Test.YtpljkcakijkklaaDoorQCoreLazy17
set_option linter.unusedVariables false
set_option linter.unusedSimpArgs false
section
namespace Go.Proofs.YtpljkcakijkklaaDoor
set_option linter.unusedVariables false
set_option linter.unusedSimpArgs false
open Go.RowKit
theorem r64_of_wf {n : Int} (h : (Lit.int .i64 n).wf = true) : R64 n := i64_of_wf h
theorem reach_le : reachBytes ≤ 140737488351232 := by first | exact Nat.le_refl _ | decide
set_option maxRecDepth 100000
theorem result_opn : Opn Tryd.prog 34 (fun x : Int × Int => [.int .i64 x.1, .int .i64 x.2]) (fun _ x => R64 x.1 ∧ R64 x.2) := by
 intro H enc w fuel cs x hx hw
 obtain ⟨a, ha, hk⟩ := opn_struct Tryd.underlying34 (by kernel_rfl) (opnF_cons rfl (sz := 1) (by kernel_rfl) (opn_int Tryd.underlying32) (opnF_last rfl (opn_int Tryd.underlying2))) hx hw
 exact ⟨a, ha, r64_of_wf hk.1, r64_of_wf hk.2⟩
theorem env_opn : Opn Tryd.prog 28 (fun v : En => [.int .i64 v.rep, .slice v.wa v.wins.length v.wcap, .slice v.ca v.crons.length v.ccap]) EnvL := by
 intro H enc w fuel cs x hx hw
 obtain ⟨a, ha, hk⟩ := opn_struct Tryd.underlying28 (by kernel_rfl) (opnF_cons rfl (sz := 1) (by kernel_rfl) (opn_int Tryd.underlying2)
  (opnF_cons rfl (sz := 1) (by kernel_rfl) (opn_slice Tryd.underlying25 result_opn) (opnF_last rfl (opn_slice Tryd.underlying26 (opn_bool Tryd.underlying4))))) hx hw
 obtain ⟨h0, ⟨a1, a2, a3, a4, a5, a6⟩, ⟨c1, c2, c3, c4, c5, c6⟩⟩ := hk
 have hr := reach_le
 have z1 : Tryd.prog.bytesOf 34 = 16 := by kernel_rfl
 have z2 : Tryd.prog.bytesOf 4 = 1 := by kernel_rfl
 have z3 : Tryd.prog.cellsOf 34 = 2 := by kernel_rfl
 have z4 : Tryd.prog.cellsOf 4 = 1 := by kernel_rfl
 rw [z1] at a4
 rw [z2] at c4
 have lw : (a.2.1.all.take a.2.1.len).length = a.2.1.len := by rw [List.length_take]; omega
 have lc : (a.2.2.all.take a.2.2.len).length = a.2.2.len := by rw [List.length_take]; omega
 refine ⟨⟨a.1, a.2.1.at_, a.2.1.cap, a.2.1.all.take a.2.1.len, a.2.2.at_, a.2.2.cap, a.2.2.all.take a.2.2.len⟩, ?_, r64_of_wf h0, ⟨?_, ?_⟩, ⟨?_, ?_⟩, fun i x hx => ?_, fun i x hx => ?_⟩
 ·rw [ha]
  simp only [lw, lc]
  rfl
 ·show (a.2.1.all.take a.2.1.len).length ≤ a.2.1.cap
  omega
 ·show a.2.1.cap ≤ _
  omega
 ·show (a.2.2.all.take a.2.2.len).length ≤ a.2.2.cap
  omega
 ·show a.2.2.cap ≤ _
  omega
 ·have hx : (a.2.1.all.take a.2.1.len)[i]? = some x := hx
  rw [List.getElem?_take] at hx
  split at hx
  ·rcases a6 with ⟨_, a6⟩ | ⟨p, hp, hg⟩
   ·omega
   ·have hk := a5 x (List.mem_of_getElem? hx)
    refine ⟨hk.1, hk.2, p, hp, ?_⟩
    have := hg i x hx
    rw [z3] at this
    exact this
  ·cases hx
 ·have hx : (a.2.2.all.take a.2.2.len)[i]? = some x := hx
  rw [List.getElem?_take] at hx
  split at hx
  ·rcases c6 with ⟨_, c6⟩ | ⟨p, hp, hg⟩
   ·omega
   ·refine ⟨p, hp, ?_⟩
    have := hg i x hx
    rw [z4, Nat.mul_one] at this
    exact this
  ·cases hx
theorem env_arg {H : Type} {enc : TypeId × Value → H} {base : Nat} {d : DataW H} {p : List MemPlace} {v : Value} {W : World} (hval : Value.okWide Tryd.prog W .any base 28 v)
  (h : DataW.Trod enc Tryd.prog W 0 (fun _ => true) true 28 v d p) (y : ∀ n ∈ DataW.weights Tryd.prog 28 d, n ≤ reachBytes) :
  ∃ u : En, v = .agg #[.int .i64 u.rep, .slice u.wa u.wins.length u.wcap, .slice u.ca u.crons.length u.ccap] ∧ EnvL W u := by
 obtain ⟨cs, rfl, hsz⟩ := WideShapes.okWide_struct Tryd.underlying28 hval
 obtain ⟨fuel, hf⟩ := h
 obtain ⟨u, hc, hl⟩ := env_opn hf y
 have hs' : cs.toList = [.int .i64 u.rep, .slice u.wa u.wins.length u.wcap, .slice u.ca u.crons.length u.ccap] := by simpa [Value.cells] using hc
 have : cs = ([.int .i64 u.rep, .slice u.wa u.wins.length u.wcap, .slice u.ca u.crons.length u.ccap] : List Value).toArray := by rw [← hs']
 rw [this]
 exact ⟨u, rfl, hl⟩
end Go.Proofs.YtpljkcakijkklaaDoor

end
