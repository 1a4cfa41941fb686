/-
  Texts of this seat, joined, less what CoreFormed does not lean on: EnvArg, Plan, Cron, Rcron1, Rcron2, Rcron3, Rights, Cores, Rcores, Small.
-/
import Derived.Test.YtpljkcakijkklaaGreatDoorQCoreFormed13
import Derived.Test.YtpljkcakijkklaaGreatDoorQCoreFormed19
import Derived.Test.YtpljkcakijkklaaGreatDoorQCoreFormed8
import Derived.Test.YtpljkcakijkklaaGreatDoorQCoreFormed9
import Derived.Test.YtpljkcakijkklaaGreatDoorQCoreFormed10
set_option linter.unusedVariables false
set_option linter.unusedSimpArgs false
set_option maxHeartbeats 8000000
set_option maxRecDepth 100000
namespace Go.Proofs.YtpljkcakijkklaaGreatDoor.Zz20
theorem z20_0 {p : Prop} (h : p := by unfold outN; rw [HBT.out]; simp [hl]) : p := h
theorem z20_1 {p : Prop} (h : p := by unfold outN; rw [HBT.out]; simp [hh]) : p := h
end Go.Proofs.YtpljkcakijkklaaGreatDoor.Zz20
open Go.Proofs.YtpljkcakijkklaaGreatDoor.Zz20
section
namespace Go.Proofs.YtpljkcakijkklaaGreatDoor
set_option linter.unusedVariables false
set_option linter.unusedSimpArgs false
open Go.RowKit
theorem r64_of_wf {n : Int} (h : (Lit.int .i64 n).wf = true) : R64 n := i64_of_wf h
theorem reach_le : reachBytes ≤ 140737488351232 := by first | exact Nat.le_refl _ | decide
set_option maxRecDepth 100000
end Go.Proofs.YtpljkcakijkklaaGreatDoor

end
section
namespace Go.Proofs.YtpljkcakijkklaaGreatDoor
set_option linter.unusedVariables false
set_option linter.unusedSimpArgs false
open Go.RowKit

def ArrL (w : World) (a : Option Addr) (sz : Nat) {α : Type} (c : α → List Value) (l : List α) : Prop := ∀ i x, l[i]? = some x → ∃ b, a = some b ∧ w.cells? 0 (b.add (i * sz)) sz = some (c x)
theorem ArrL.below {w w' : World} {a : Option Addr} {sz : Nat} {α : Type} {c : α → List Value} {l : List α} (h : ArrL w a sz c l) (hb : Below w.heap.size w w') (hz : 0 < sz) : ArrL w' a sz c l := fun i x hx => by
 obtain ⟨b, h1, h2⟩ := h i x hx
 exact ⟨b, h1, below_cells hb h2 hz⟩
structure WinP where
 met : Int
 agg : Int
 span : Int
 rank : Int
def WinP.cells (x : WinP) : List Value := [.int .i64 x.met, .int .i64 x.agg, .int .i64 x.span, .int .i64 x.rank]
def WinP.ok (x : WinP) : Prop := R64 x.met ∧ R64 x.agg ∧ R64 x.span ∧ R64 x.rank
structure CronP where
 f0 : Int
 f1 : Int
 f2 : Int
 f3 : Int
 f4 : Int
def U64 (x : Int) : Prop := 0 ≤ x ∧ x ≤ 18446744073709551615
def CronP.cells (x : CronP) : List Value := [.int .u64 x.f0, .int .u64 x.f1, .int .u64 x.f2, .int .u64 x.f3, .int .u64 x.f4]
def CronP.ok (x : CronP) : Prop := U64 x.f0 ∧ U64 x.f1 ∧ U64 x.f2 ∧ U64 x.f3 ∧ U64 x.f4
structure PlanS where
 ma : Option Addr
 mcap : Nat
 mets : List ByteArray
 r0 : Int
 r1 : Int
 r2 : Int
 r3 : Int
 r4 : Int
 wa : Option Addr
 wcap : Nat
 wins : List WinP
 ca : Option Addr
 ccap : Nat
 crons : List CronP
 locals : Int
 ga : Option Addr
 gcap : Nat
 guards : List (Cr × Cr)
 fin : Cr
def guardCells (g : Cr × Cr) : List Value := g.1.cells ++ g.2.cells
def PlanS.cells (p : PlanS) : List Value := [.slice p.ma p.mets.length p.mcap, .int .i64 p.r0, .int .i64 p.r1, .int .i64 p.r2, .int .i64 p.r3, .int .i64 p.r4, .slice p.wa p.wins.length p.wcap, .slice p.ca p.crons.length p.ccap, .int .i64 p.locals, .slice p.ga p.guards.length p.gcap, .int .i64 p.fin.op, .int .i64 p.fin.n, .int .i64 p.fin.m, .slice p.fin.at_ p.fin.kids.length p.fin.cap]
structure PlanL (w : World) (p : PlanS) : Prop where
 mets : p.mets.length ≤ p.mcap ∧ p.mets.length ≤ 8796093021952 ∧ (∀ s ∈ p.mets, s.size ≤ reachBytes) ∧ ArrL w p.ma 1 (fun s => [.string s]) p.mets
 rules : R64 p.r0 ∧ R64 p.r1 ∧ R64 p.r2 ∧ R64 p.r3 ∧ R64 p.r4
 wins : p.wins.length ≤ p.wcap ∧ p.wins.length ≤ 4398046510976 ∧ (∀ x ∈ p.wins, x.ok) ∧ ArrL w p.wa 4 WinP.cells p.wins
 crons : p.crons.length ≤ p.ccap ∧ p.crons.length ≤ 3518437208780 ∧ (∀ x ∈ p.crons, x.ok) ∧ ArrL w p.ca 5 CronP.cells p.crons
 locals : R64 p.locals
 guards : p.guards.length ≤ p.gcap ∧ p.guards.length ≤ 1466015503658 ∧ (∀ g ∈ p.guards, Lies w g.1 ∧ Lies w g.2) ∧ ArrL w p.ga 8 guardCells p.guards
 fin : Lies w p.fin
theorem PlanL.below {w w' : World} {p : PlanS} (h : PlanL w p) (hb : Below w.heap.size w w') : PlanL w' p where
 mets := ⟨h.mets.1, h.mets.2.1, h.mets.2.2.1, h.mets.2.2.2.below hb (by decide)⟩
 rules := h.rules
 wins := ⟨h.wins.1, h.wins.2.1, h.wins.2.2.1, h.wins.2.2.2.below hb (by decide)⟩
 crons := ⟨h.crons.1, h.crons.2.1, h.crons.2.2.1, h.crons.2.2.2.below hb (by decide)⟩
 locals := h.locals
 guards := ⟨h.guards.1, h.guards.2.1, fun g hg => ⟨(h.guards.2.2.1 g hg).1.below hb, (h.guards.2.2.1 g hg).2.below hb⟩, h.guards.2.2.2.below hb (by decide)⟩
 fin := h.fin.below hb
def PlanS.cores (p : PlanS) : List Cr := (p.guards.flatMap fun g => [g.1, g.2]) ++ [p.fin]
theorem PlanL.core {w : World} {p : PlanS} (h : PlanL w p) : ∀ c ∈ p.cores, Lies w c := by
 intro c hc
 unfold PlanS.cores at hc
 rcases List.mem_append.1 hc with hc | hc
 ·obtain ⟨g, hg, hc⟩ := List.mem_flatMap.1 hc
  rcases List.mem_cons.1 hc with rfl | hc
  ·exact (h.guards.2.2.1 g hg).1
  ·obtain rfl := List.mem_singleton.1 hc
   exact (h.guards.2.2.1 g hg).2
 ·obtain rfl := List.mem_singleton.1 hc
  exact h.fin

theorem sl_arr {P : Program} {t : TypeId} {α : Type} {c : α → List Value} {okE : World → α → Prop} {w : World} {s : Sl α} {sz b : Nat} (hz : P.cellsOf t = sz) (hb : P.bytesOf t = b) (h : Sl.ok P t c okE w s) :
  (s.all.take s.len).length = s.len ∧ s.len ≤ s.cap ∧ s.cap * b ≤ 140737488351232 ∧ (∀ x ∈ s.all.take s.len, okE w x) ∧ ArrL w s.at_ sz c (s.all.take s.len) := by
 obtain ⟨h1, h2, h3, h4, h5, h6⟩ := h
 have hr := reach_le
 rw [hb] at h4
 refine ⟨by rw [List.length_take]; omega, h1, by omega, fun x hx => h5 x (List.mem_of_mem_take hx), fun i x hx => ?_⟩
 rw [List.getElem?_take] at hx
 split at hx
 ·rcases h6 with ⟨_, h6⟩ | ⟨p, hp, hg⟩
  ·omega
  ·refine ⟨p, hp, ?_⟩
   have := hg i x hx
   rw [hz] at this
   exact this
 ·cases hx
theorem u64_of_wf {n : Int} (h : (Lit.int .u64 n).wf = true) : U64 n := by
 have h2 : IntKind.u64.min ≤ n ∧ n ≤ IntKind.u64.max := by simpa [Lit.wf] using h
 have e2 : IntKind.u64.max = 18446744073709551615 := by decide
 have e : IntKind.u64.min = 0 := by decide
 unfold U64
 omega
set_option maxRecDepth 100000
theorem winp_opn : Opn Tryz.prog 80 WinP.cells (fun _ x => x.ok) := by
 intro H enc w fuel cs x hx hw
 obtain ⟨a, ha, hk⟩ := opn_struct Tryz.underlying80 (by kernel_rfl) (opnF_cons rfl (sz := 1) (by kernel_rfl) (opn_int Tryz.underlying3) (opnF_cons rfl (sz := 1) (by kernel_rfl) (opn_int Tryz.underlying3) (opnF_cons rfl (sz := 1) (by kernel_rfl) (opn_int Tryz.underlying2) (opnF_last rfl (opn_int Tryz.underlying2))))) hx hw
 exact ⟨⟨a.1, a.2.1, a.2.2.1, a.2.2.2⟩, ha, r64_of_wf hk.1, r64_of_wf hk.2.1, r64_of_wf hk.2.2.1, r64_of_wf hk.2.2.2⟩
theorem cronp_opn : Opn Tryz.prog 84 CronP.cells (fun _ x => x.ok) := by
 intro H enc w fuel cs x hx hw
 obtain ⟨a, ha, hk⟩ := opn_struct Tryz.underlying84 (by kernel_rfl) (opnF_cons rfl (sz := 1) (by kernel_rfl) (opn_int Tryz.underlying82) (opnF_cons rfl (sz := 1) (by kernel_rfl) (opn_int Tryz.underlying82) (opnF_cons rfl (sz := 1) (by kernel_rfl) (opn_int Tryz.underlying82) (opnF_cons rfl (sz := 1) (by kernel_rfl) (opn_int Tryz.underlying82) (opnF_last rfl (opn_int Tryz.underlying82)))))) hx hw
 exact ⟨⟨a.1, a.2.1, a.2.2.1, a.2.2.2.1, a.2.2.2.2⟩, ha, u64_of_wf hk.1, u64_of_wf hk.2.1, u64_of_wf hk.2.2.1, u64_of_wf hk.2.2.2.1, u64_of_wf hk.2.2.2.2⟩
theorem rulesp_opn : Opn Tryz.prog 44 (fun x : Int × Int × Int × Int × Int => [.int .i64 x.1, .int .i64 x.2.1, .int .i64 x.2.2.1, .int .i64 x.2.2.2.1, .int .i64 x.2.2.2.2]) (fun _ x => R64 x.1 ∧ R64 x.2.1 ∧ R64 x.2.2.1 ∧ R64 x.2.2.2.1 ∧ R64 x.2.2.2.2) := by
 intro H enc w fuel cs x hx hw
 obtain ⟨a, ha, hk⟩ := opn_struct Tryz.underlying44 (by kernel_rfl) (opnF_cons rfl (sz := 1) (by kernel_rfl) (opn_int Tryz.underlying2) (opnF_cons rfl (sz := 1) (by kernel_rfl) (opn_int Tryz.underlying2) (opnF_cons rfl (sz := 1) (by kernel_rfl) (opn_int Tryz.underlying2) (opnF_cons rfl (sz := 1) (by kernel_rfl) (opn_int Tryz.underlying2) (opnF_last rfl (opn_int Tryz.underlying2)))))) hx hw
 exact ⟨a, ha, r64_of_wf hk.1, r64_of_wf hk.2.1, r64_of_wf hk.2.2.1, r64_of_wf hk.2.2.2.1, r64_of_wf hk.2.2.2.2⟩
theorem guardp_opn : Opn Tryz.prog 89 guardCells (fun w g => Lies w g.1 ∧ Lies w g.2) := by
 intro H enc w fuel cs x hx hw
 obtain ⟨a, ha, hk⟩ := opn_struct Tryz.underlying89 (by kernel_rfl) (opnF_cons rfl (sz := 4) (by kernel_rfl) core_opn (opnF_last rfl core_opn)) hx hw
 exact ⟨a, ha, hk⟩
theorem plan_opn : Opn Tryz.prog 49 PlanS.cells PlanL := by
 intro H enc w fuel cs x hx hw
 obtain ⟨a, ha, hk⟩ := opn_struct Tryz.underlying49 (by kernel_rfl)
  (opnF_cons rfl (sz := 1) (by kernel_rfl) (opn_slice Tryz.underlying42 (opn_string Tryz.underlying9))
   (opnF_cons rfl (sz := 5) (by kernel_rfl) rulesp_opn
    (opnF_cons rfl (sz := 1) (by kernel_rfl) (opn_slice Tryz.underlying45 winp_opn)
     (opnF_cons rfl (sz := 1) (by kernel_rfl) (opn_slice Tryz.underlying46 cronp_opn)
      (opnF_cons rfl (sz := 1) (by kernel_rfl) (opn_int Tryz.underlying3)
       (opnF_cons rfl (sz := 1) (by kernel_rfl) (opn_slice Tryz.underlying47 guardp_opn)
        (opnF_last rfl core_opn))))))) hx hw
 obtain ⟨k0, k1, k2, k3, k4, k5, k6⟩ := hk
 obtain ⟨a1, a2, a3, a4, a5⟩ := sl_arr (sz := 1) (b := 16) (by kernel_rfl) (by kernel_rfl) k0
 obtain ⟨b1, b2, b3, b4, b5⟩ := sl_arr (sz := 4) (b := 32) (by kernel_rfl) (by kernel_rfl) k2
 obtain ⟨c1, c2, c3, c4, c5⟩ := sl_arr (sz := 5) (b := 40) (by kernel_rfl) (by kernel_rfl) k3
 obtain ⟨d1, d2, d3, d4, d5⟩ := sl_arr (sz := 8) (b := 96) (by kernel_rfl) (by kernel_rfl) k5
 refine ⟨⟨a.1.at_, a.1.cap, a.1.all.take a.1.len, a.2.1.1, a.2.1.2.1, a.2.1.2.2.1, a.2.1.2.2.2.1, a.2.1.2.2.2.2, a.2.2.1.at_, a.2.2.1.cap, a.2.2.1.all.take a.2.2.1.len, a.2.2.2.1.at_, a.2.2.2.1.cap, a.2.2.2.1.all.take a.2.2.2.1.len, a.2.2.2.2.1,
  a.2.2.2.2.2.1.at_, a.2.2.2.2.2.1.cap, a.2.2.2.2.2.1.all.take a.2.2.2.2.2.1.len, a.2.2.2.2.2.2⟩, ?_, ⟨?_, k1, ?_, ?_, r64_of_wf k4, ?_, k6⟩⟩
 ·rw [ha]
  unfold PlanS.cells
  simp only [a1, b1, c1, d1]
  rfl
 ·exact ⟨Nat.le_trans (Nat.le_of_eq a1) a2, Nat.le_trans (Nat.le_of_eq a1) (Nat.le_trans a2 (by omega)), a4, a5⟩
 ·exact ⟨Nat.le_trans (Nat.le_of_eq b1) b2, Nat.le_trans (Nat.le_of_eq b1) (Nat.le_trans b2 (by omega)), b4, b5⟩
 ·exact ⟨Nat.le_trans (Nat.le_of_eq c1) c2, Nat.le_trans (Nat.le_of_eq c1) (Nat.le_trans c2 (by omega)), c4, c5⟩
 ·exact ⟨Nat.le_trans (Nat.le_of_eq d1) d2, Nat.le_trans (Nat.le_of_eq d1) (Nat.le_trans d2 (by omega)), d4, d5⟩
theorem plan_arg {H : Type} {enc : TypeId × Value → H} {base : Nat} {d : DataW H} {p : List MemPlace} {v : Value} {W : World} (hval : Value.okWide Tryz.prog W .any base 49 v)
  (h : DataW.Trod enc Tryz.prog W 0 (fun _ => true) true 49 v d p) (y : ∀ n ∈ DataW.weights Tryz.prog 49 d, n ≤ reachBytes) : ∃ q : PlanS, v = .agg q.cells.toArray ∧ PlanL W q := by
 obtain ⟨cs, rfl, hsz⟩ := WideShapes.okWide_struct Tryz.underlying49 hval
 obtain ⟨fuel, hf⟩ := h
 obtain ⟨q, hc, hl⟩ := plan_opn hf y
 have hs' : cs.toList = q.cells := by simpa [Value.cells] using hc
 have : cs = q.cells.toArray := by rw [← hs']
 rw [this]
 exact ⟨q, rfl, hl⟩
end Go.Proofs.YtpljkcakijkklaaGreatDoor

end
section
namespace Go.Proofs.YtpljkcakijkklaaGreatDoor
set_option linter.unusedVariables false
set_option linter.unusedSimpArgs false
open Go.RowKit Go.Proofs.YtpljkcakijkklaaGreatDoor.XCrn Go.Proofs.YtpljkcakijkklaaGreatDoorW.PrintWords Go.Proofs.YtpljkcakijkklaaGreatDoorW.PrintLast Go.Proofs.YtpljkcakijkklaaGreatDoorW.PrintMore

def lowF (i : Nat) : Int := [0, 0, 1, 1, 0].getD i 0
def highF (i : Nat) : Int := [59, 23, 31, 12, 6].getD i 0
def allF (i : Nat) : Int := [1152921504606846975, 16777215, 4294967294, 8190, 127].getD i 0
def FieldsAt (w : World) : Prop := ∀ k : Nat, k < 5 → w.cell? ⟨0, k * 2, none⟩ = some (.int .i64 (lowF k)) ∧ w.cell? ⟨0, k * 2 + 1, none⟩ = some (.int .i64 (highF k))
theorem FieldsAt.below {w w' : World} (h : FieldsAt w) {n : Nat} (hb : Below n w w') (h0 : 0 < n) : FieldsAt w' := fun k hk =>
 ⟨(hb.cell (p := ⟨0, k * 2, none⟩) h0).trans (h k hk).1, (hb.cell (p := ⟨0, k * 2 + 1, none⟩) h0).trans (h k hk).2⟩
theorem all_at (i : Nat) (hi : i < 5) (w : World) : Calls Tryz.prog 64 #[.agg #[.int .i64 (lowF i), .int .i64 (highF i)]] w fun e w' => e = .returned (.int .u64 (allF i)) ∧ Below w.heap.size w w' := by
 have h : cron_field_all.f (lowF i) (highF i) = some (allF i) := by
  rcases (show i = 0 ∨ i = 1 ∨ i = 2 ∨ i = 3 ∨ i = 4 by omega) with rfl | rfl | rfl | rfl | rfl <;> kernel_rfl
 exact cron_field_all.calls _ _ _ w h
theorem sets_calls (c : CronP) (w : World) : Calls Tryz.prog 63 #[.agg #[.int .u64 c.f0, .int .u64 c.f1, .int .u64 c.f2, .int .u64 c.f3, .int .u64 c.f4]] w fun e w' =>
  e = .returned (.agg #[.int .u64 c.f0, .int .u64 c.f1, .int .u64 c.f2, .int .u64 c.f3, .int .u64 c.f4]) ∧ Below w.heap.size w w' := by
 go_enter Tryz.func63, Tryz.ntmps63
 go_wp2
 refine bodyPost_ret (v := .agg #[.int .u64 c.f0, .int .u64 c.f1, .int .u64 c.f2, .int .u64 c.f3, .int .u64 c.f4]) (by simp [results, Tryz.results63, go_sem]) rfl ⟨rfl, ?_⟩
 exact below_alloc (below_alloc (Below.refl _ _) _) _
def fldC (c : CronP) (i : Nat) : Int := [c.f0, c.f1, c.f2, c.f3, c.f4].getD i 0
def badF (c : CronP) (i : Nat) : Bool := (fldC c i == 0) || (bits BinOp.andNot .u64 (fldC c i) (allF i) != 0)
def formedB (c : CronP) : Bool := (List.range 5).all fun i => !badF c i
theorem formedB_bad {c : CronP} {i : Nat} (hi : i < 5) (h : badF c i = true) : formedB c = false := by
 unfold formedB
 rw [List.all_eq_false]
 exact ⟨i, List.mem_range.2 hi, by rw [h]; decide⟩
theorem formedB_good {c : CronP} (h : ∀ j, j < 5 → badF c j = false) : formedB c = true := by
 unfold formedB
 rw [List.all_eq_true]
 intro j hj
 rw [h j (List.mem_range.1 hj)]
 rfl
theorem formed_calls (c : CronP) (w : World) (hF : FieldsAt w) : Calls Tryz.prog 36 #[.agg #[.int .u64 c.f0, .int .u64 c.f1, .int .u64 c.f2, .int .u64 c.f3, .int .u64 c.f4]] w fun e w' =>
  e = .returned (.bool (formedB c)) ∧ Below w.heap.size w w' := by
 have HF := Lib.hid hF
 have HLT := Lib.hid (show 0 < w.heap.size from World.block_lt_of_cell? w _ (hF 0 (by decide)).1)
 clear hF
 go_enter Tryz.func36, Tryz.ntmps36
 go_wp2_with fail
 refine (sets_calls c _).mono ?_
 rintro e w1 ⟨rfl, b1⟩
 have HB := Lib.hid ((below_alloc (Below.refl _ w) (.cells #[.int .u64 c.f0, .int .u64 c.f1, .int .u64 c.f2, .int .u64 c.f3, .int .u64 c.f4] 84)).trans (b1.mono (by simp)))
 clear b1
 have i0 : ∀ w, (Instr.index 112 (.agg #[.int .u64 c.f0, .int .u64 c.f1, .int .u64 c.f2, .int .u64 c.f3, .int .u64 c.f4]) (.int .i64 0)).run Tryz.prog w = .ok (.int .u64 c.f0) w := fun _ => by kernel_rfl
 have i1 : ∀ w, (Instr.index 112 (.agg #[.int .u64 c.f0, .int .u64 c.f1, .int .u64 c.f2, .int .u64 c.f3, .int .u64 c.f4]) (.int .i64 1)).run Tryz.prog w = .ok (.int .u64 c.f1) w := fun _ => by kernel_rfl
 have i2 : ∀ w, (Instr.index 112 (.agg #[.int .u64 c.f0, .int .u64 c.f1, .int .u64 c.f2, .int .u64 c.f3, .int .u64 c.f4]) (.int .i64 2)).run Tryz.prog w = .ok (.int .u64 c.f2) w := fun _ => by kernel_rfl
 have i3 : ∀ w, (Instr.index 112 (.agg #[.int .u64 c.f0, .int .u64 c.f1, .int .u64 c.f2, .int .u64 c.f3, .int .u64 c.f4]) (.int .i64 3)).run Tryz.prog w = .ok (.int .u64 c.f3) w := fun _ => by kernel_rfl
 have i4 : ∀ w, (Instr.index 112 (.agg #[.int .u64 c.f0, .int .u64 c.f1, .int .u64 c.f2, .int .u64 c.f3, .int .u64 c.f4]) (.int .i64 4)).run Tryz.prog w = .ok (.int .u64 c.f4) w := fun _ => by kernel_rfl
 go_wp2_with fail
 go_loopg [3, 4, 7] 5 (fun kq v3 v4 v7 w' => ∃ i : Nat, v7 = .int .i64 i ∧ Aside0 (i + kq = 5) ∧ Aside0 (∀ j, j < i → badF c j = false) ∧ Aside0 (Below w.heap.size w w'))
 case atStart => exact ⟨0, rfl, ⟨by omega⟩, ⟨fun j hj => by omega⟩, ⟨HB.out⟩⟩
 case round =>
  obtain ⟨i, rfl, hk, hP, hB⟩ := hrel
  rcases (show i = 0 ∨ i = 1 ∨ i = 2 ∨ i = 3 ∨ i = 4 ∨ i = 5 by have := hk.out; omega) with rfl | rfl | rfl | rfl | rfl | rfl
  ·by_cases hz : c.f0 = 0
   ·have d0 : (c.f0 == 0) = true := by simpa using hz
    have hres := Lib.hid (formedB_bad (c := c) (i := 0) (by decide) (by show ((c.f0 == 0) || _) = true; rw [d0]; rfl))
    clear hz
    go_wp2
    go_ret
    exact ⟨by simp [hres.out], hB.out⟩
   ·have d0 : (c.f0 == 0) = false := by simpa using hz
    obtain ⟨l0, l1⟩ := (HF.out.below hB.out HLT.out) 0 (by decide)
    have HN := Lib.hid hz
    clear hz
    go_wp2_with fail
    refine (all_at 0 (by decide) _).mono ?_
    rintro e w2 ⟨rfl, b2⟩
    have B2 := Lib.hid (hB.out.trans (b2.mono hB.out.size))
    clear b2
    obtain ⟨b, hb⟩ : ∃ b, (bits BinOp.andNot .u64 c.f0 (allF 0) != 0) = b := ⟨_, rfl⟩
    have hbad := Lib.hid (show badF c 0 = b by show ((c.f0 == 0) || _) = b; rw [d0, Bool.false_or]; exact hb)
    have hb2 := hb
    cases b with
    | true =>
     have hres := Lib.hid (formedB_bad (c := c) (i := 0) (by decide) hbad.out)
     go_wp2
     go_ret
     exact ⟨by simp [hres.out], B2.out⟩
    | false =>
     go_wp2
     go_roundg (gk - 1)
     case measure => have := hk.out; omega
     case rel => exact ⟨1, by rfl, ⟨by have := hk.out; omega⟩, ⟨fun j hj => by
      by_cases e : j = 0
      ·subst e; exact hbad.out
      ·exact hP.out j (by omega)⟩, ⟨B2.out⟩⟩
  ·by_cases hz : c.f1 = 0
   ·have d0 : (c.f1 == 0) = true := by simpa using hz
    have hres := Lib.hid (formedB_bad (c := c) (i := 1) (by decide) (by show ((c.f1 == 0) || _) = true; rw [d0]; rfl))
    clear hz
    go_wp2
    go_ret
    exact ⟨by simp [hres.out], hB.out⟩
   ·have d0 : (c.f1 == 0) = false := by simpa using hz
    obtain ⟨l0, l1⟩ := (HF.out.below hB.out HLT.out) 1 (by decide)
    have HN := Lib.hid hz
    clear hz
    go_wp2_with fail
    refine (all_at 1 (by decide) _).mono ?_
    rintro e w2 ⟨rfl, b2⟩
    have B2 := Lib.hid (hB.out.trans (b2.mono hB.out.size))
    clear b2
    obtain ⟨b, hb⟩ : ∃ b, (bits BinOp.andNot .u64 c.f1 (allF 1) != 0) = b := ⟨_, rfl⟩
    have hbad := Lib.hid (show badF c 1 = b by show ((c.f1 == 0) || _) = b; rw [d0, Bool.false_or]; exact hb)
    have hb2 := hb
    cases b with
    | true =>
     have hres := Lib.hid (formedB_bad (c := c) (i := 1) (by decide) hbad.out)
     go_wp2
     go_ret
     exact ⟨by simp [hres.out], B2.out⟩
    | false =>
     go_wp2
     go_roundg (gk - 1)
     case measure => have := hk.out; omega
     case rel => exact ⟨2, by rfl, ⟨by have := hk.out; omega⟩, ⟨fun j hj => by
      by_cases e : j = 1
      ·subst e; exact hbad.out
      ·exact hP.out j (by omega)⟩, ⟨B2.out⟩⟩
  ·by_cases hz : c.f2 = 0
   ·have d0 : (c.f2 == 0) = true := by simpa using hz
    have hres := Lib.hid (formedB_bad (c := c) (i := 2) (by decide) (by show ((c.f2 == 0) || _) = true; rw [d0]; rfl))
    clear hz
    go_wp2
    go_ret
    exact ⟨by simp [hres.out], hB.out⟩
   ·have d0 : (c.f2 == 0) = false := by simpa using hz
    obtain ⟨l0, l1⟩ := (HF.out.below hB.out HLT.out) 2 (by decide)
    have HN := Lib.hid hz
    clear hz
    go_wp2_with fail
    refine (all_at 2 (by decide) _).mono ?_
    rintro e w2 ⟨rfl, b2⟩
    have B2 := Lib.hid (hB.out.trans (b2.mono hB.out.size))
    clear b2
    obtain ⟨b, hb⟩ : ∃ b, (bits BinOp.andNot .u64 c.f2 (allF 2) != 0) = b := ⟨_, rfl⟩
    have hbad := Lib.hid (show badF c 2 = b by show ((c.f2 == 0) || _) = b; rw [d0, Bool.false_or]; exact hb)
    have hb2 := hb
    cases b with
    | true =>
     have hres := Lib.hid (formedB_bad (c := c) (i := 2) (by decide) hbad.out)
     go_wp2
     go_ret
     exact ⟨by simp [hres.out], B2.out⟩
    | false =>
     go_wp2
     go_roundg (gk - 1)
     case measure => have := hk.out; omega
     case rel => exact ⟨3, by rfl, ⟨by have := hk.out; omega⟩, ⟨fun j hj => by
      by_cases e : j = 2
      ·subst e; exact hbad.out
      ·exact hP.out j (by omega)⟩, ⟨B2.out⟩⟩
  ·by_cases hz : c.f3 = 0
   ·have d0 : (c.f3 == 0) = true := by simpa using hz
    have hres := Lib.hid (formedB_bad (c := c) (i := 3) (by decide) (by show ((c.f3 == 0) || _) = true; rw [d0]; rfl))
    clear hz
    go_wp2
    go_ret
    exact ⟨by simp [hres.out], hB.out⟩
   ·have d0 : (c.f3 == 0) = false := by simpa using hz
    obtain ⟨l0, l1⟩ := (HF.out.below hB.out HLT.out) 3 (by decide)
    have HN := Lib.hid hz
    clear hz
    go_wp2_with fail
    refine (all_at 3 (by decide) _).mono ?_
    rintro e w2 ⟨rfl, b2⟩
    have B2 := Lib.hid (hB.out.trans (b2.mono hB.out.size))
    clear b2
    obtain ⟨b, hb⟩ : ∃ b, (bits BinOp.andNot .u64 c.f3 (allF 3) != 0) = b := ⟨_, rfl⟩
    have hbad := Lib.hid (show badF c 3 = b by show ((c.f3 == 0) || _) = b; rw [d0, Bool.false_or]; exact hb)
    have hb2 := hb
    cases b with
    | true =>
     have hres := Lib.hid (formedB_bad (c := c) (i := 3) (by decide) hbad.out)
     go_wp2
     go_ret
     exact ⟨by simp [hres.out], B2.out⟩
    | false =>
     go_wp2
     go_roundg (gk - 1)
     case measure => have := hk.out; omega
     case rel => exact ⟨4, by rfl, ⟨by have := hk.out; omega⟩, ⟨fun j hj => by
      by_cases e : j = 3
      ·subst e; exact hbad.out
      ·exact hP.out j (by omega)⟩, ⟨B2.out⟩⟩
  ·by_cases hz : c.f4 = 0
   ·have d0 : (c.f4 == 0) = true := by simpa using hz
    have hres := Lib.hid (formedB_bad (c := c) (i := 4) (by decide) (by show ((c.f4 == 0) || _) = true; rw [d0]; rfl))
    clear hz
    go_wp2
    go_ret
    exact ⟨by simp [hres.out], hB.out⟩
   ·have d0 : (c.f4 == 0) = false := by simpa using hz
    obtain ⟨l0, l1⟩ := (HF.out.below hB.out HLT.out) 4 (by decide)
    have HN := Lib.hid hz
    clear hz
    go_wp2_with fail
    refine (all_at 4 (by decide) _).mono ?_
    rintro e w2 ⟨rfl, b2⟩
    have B2 := Lib.hid (hB.out.trans (b2.mono hB.out.size))
    clear b2
    obtain ⟨b, hb⟩ : ∃ b, (bits BinOp.andNot .u64 c.f4 (allF 4) != 0) = b := ⟨_, rfl⟩
    have hbad := Lib.hid (show badF c 4 = b by show ((c.f4 == 0) || _) = b; rw [d0, Bool.false_or]; exact hb)
    have hb2 := hb
    cases b with
    | true =>
     have hres := Lib.hid (formedB_bad (c := c) (i := 4) (by decide) hbad.out)
     go_wp2
     go_ret
     exact ⟨by simp [hres.out], B2.out⟩
    | false =>
     go_wp2
     go_roundg (gk - 1)
     case measure => have := hk.out; omega
     case rel => exact ⟨5, by rfl, ⟨by have := hk.out; omega⟩, ⟨fun j hj => by
      by_cases e : j = 4
      ·subst e; exact hbad.out
      ·exact hP.out j (by omega)⟩, ⟨B2.out⟩⟩
  ·have hres := Lib.hid (formedB_good (c := c) hP.out)
   go_wp2
   go_ret
   exact ⟨by simp [hres.out], hB.out⟩
end Go.Proofs.YtpljkcakijkklaaGreatDoor

end
section
namespace Go.Proofs.YtpljkcakijkklaaGreatDoor
set_option linter.unusedVariables false
set_option linter.unusedSimpArgs false
open Go.RowKit Go.Proofs.YtpljkcakijkklaaGreatDoor.XCrn Go.Proofs.YtpljkcakijkklaaGreatDoorW.PrintWords Go.Proofs.YtpljkcakijkklaaGreatDoorW.PrintLast Go.Proofs.YtpljkcakijkklaaGreatDoorW.PrintMore

def bitN (s : Nat) (n : Nat) : Bool := decide (s / 2 ^ n % 2 = 1)
theorem andNot_zero (s m : Nat) (hs : s < 2 ^ 64) (hm : m < 2 ^ 64) : bits BinOp.andNot .u64 (s : Int) (m : Int) = 0 ↔ ∀ n, n < 64 → bitN s n = true → bitN m n = true := by
 have hb : ∀ (x : Nat), x < 2 ^ 64 → ∀ n, (BitVec.ofInt 64 (x : Int)).getLsbD n = decide (n < 64 ∧ bitN x n = true) := by
  intro x hx n
  rw [BitVec.ofInt_natCast, BitVec.getLsbD_ofNat]
  unfold bitN
  rw [Nat.testBit_eq_decide_div_mod_eq]
  by_cases h : n < 64 <;> simp [h]
 have e : bits BinOp.andNot .u64 (s : Int) (m : Int) = ((BitVec.ofInt 64 (s : Int) &&& ~~~ BitVec.ofInt 64 (m : Int)).toNat : Int) := by
  have hlt := (BitVec.ofInt 64 (s : Int) &&& ~~~ BitVec.ofInt 64 (m : Int)).isLt
  have key : ∀ q : Nat, q < 2 ^ 64 → IntKind.u64.wrap (q : Int) = (q : Int) := by
   intro q hq
   have hq2 : (q : Int) < 2 ^ 64 := by exact_mod_cast hq
   simp only [IntKind.wrap, IntKind.bits, IntKind.signed]
   simp
   omega
  exact key _ hlt
 rw [e]
 constructor
 ·intro h n hn hx
  have h0 : (BitVec.ofInt 64 (s : Int) &&& ~~~ BitVec.ofInt 64 (m : Int)) = 0#64 := BitVec.eq_of_toNat_eq (by simpa using h)
  have h1 := congrArg (fun x => BitVec.getLsbD x n) h0
  simp only [BitVec.getLsbD_and, BitVec.getLsbD_not, hb s hs, hb m hm] at h1
  simp [hn, hx] at h1
  exact h1
 ·intro h
  have h0 : (BitVec.ofInt 64 (s : Int) &&& ~~~ BitVec.ofInt 64 (m : Int)) = 0#64 := by
   refine BitVec.eq_of_getLsbD_eq fun n hn => ?_
   simp only [BitVec.getLsbD_and, BitVec.getLsbD_not, hb s hs, hb m hm]
   by_cases hx : bitN s n = true
   ·simp [hn, hx, h n hn hx]
   ·simp [hx]
  rw [h0]
  rfl
def maskN (i : Nat) : Nat := [1152921504606846975, 16777215, 4294967294, 8190, 127].getD i 0
def lowN (i : Nat) : Nat := [0, 0, 1, 1, 0].getD i 0
def highN (i : Nat) : Nat := [59, 23, 31, 12, 6].getD i 0
theorem mask_bit (i : Nat) (hi : i < 5) (n : Nat) (hn : n < 64) : bitN (maskN i) n = decide (lowN i ≤ n ∧ n ≤ highN i) := by
 have h : ∀ (i : Fin 5) (n : Fin 64), bitN (maskN i.val) n.val = decide (lowN i.val ≤ n.val ∧ n.val ≤ highN i.val) := by decide +kernel
 exact h ⟨i, hi⟩ ⟨n, hn⟩
theorem mask_all (i : Nat) (hi : i < 5) : allF i = (maskN i : Int) := by
 rcases (show i = 0 ∨ i = 1 ∨ i = 2 ∨ i = 3 ∨ i = 4 by omega) with rfl | rfl | rfl | rfl | rfl <;> rfl
def outN (i s n : Nat) : Bool := bitN s n && (decide (n < lowN i) || decide (highN i < n))
theorem badF_out (c : CronP) (i : Nat) (hi : i < 5) (s : Nat) (hs : s < 2 ^ 64) (h : fldC c i = (s : Int)) : badF c i = ((s == 0) || !(List.range 64).all fun n => !outN i s n) := by
 unfold badF
 rw [h, mask_all i hi]
 have h1 : ((s : Int) == 0) = (s == 0) := by
  cases s with
  | zero => rfl
  | succ s => simp; omega
 rw [h1]
 congr 1
 have hm : maskN i < 2 ^ 64 := by
  rcases (show i = 0 ∨ i = 1 ∨ i = 2 ∨ i = 3 ∨ i = 4 by omega) with rfl | rfl | rfl | rfl | rfl <;> decide
 have hz := andNot_zero s (maskN i) hs hm
 have ha : ((List.range 64).all fun n => !outN i s n) = true ↔ ∀ n, n < 64 → bitN s n = true → bitN (maskN i) n = true := by
  rw [List.all_eq_true]
  constructor
  ·intro h n hn hb
   have := h n (List.mem_range.2 hn)
   unfold outN at this
   rw [hb] at this
   rw [mask_bit i hi n hn, decide_eq_true_iff]
   simp at this
   omega
  ·intro h n hn
   have hn := List.mem_range.1 hn
   unfold outN
   cases hb : bitN s n with
   | false => rfl
   | true =>
    have := h n hn hb
    rw [mask_bit i hi n hn, decide_eq_true_iff] at this
    simp
    omega
 by_cases hq : bits BinOp.andNot .u64 (s : Int) (maskN i : Int) = 0
 ·have := ha.2 (hz.1 hq)
  rw [this, hq]
  rfl
 ·have h2 : ((List.range 64).all fun n => !outN i s n) = false := by
   cases hb : (List.range 64).all fun n => !outN i s n with
   | false => rfl
   | true => exact absurd (hz.2 (ha.1 hb)) hq
  rw [h2]
  simpa using hq
end Go.Proofs.YtpljkcakijkklaaGreatDoor

end
section
namespace Go.Proofs.YtpljkcakijkklaaGreatDoor
set_option linter.unusedVariables false
set_option linter.unusedSimpArgs false
open Go.RowKit Go.Proofs.YtpljkcakijkklaaGreatDoor.XCrn Go.Proofs.YtpljkcakijkklaaGreatDoorW.PrintWords Go.Proofs.YtpljkcakijkklaaGreatDoorW.PrintLast Go.Proofs.YtpljkcakijkklaaGreatDoorW.PrintMore

theorem has_calls (s n : Nat) (hn : n < 64) (w : World) : Calls Tryz.prog 72 #[.int .u64 (s : Int), .int .i64 (n : Int)] w fun e w' => e = .returned (.bool (bitN s n)) ∧ Below w.heap.size w w' := by
 have h : capstanref04_Has.f (s : Int) (n : Int) = some (bitN s n) := by
  unfold capstanref04_Has.f
  have hw : IntKind.u64.wrap (n : Int) = (n : Int) := by
   simp only [IntKind.wrap, IntKind.bits, IntKind.signed]
   simp
   omega
  rw [if_pos (by omega), if_pos (by omega), hw, if_pos (by omega)]
  congr 1
  unfold bitN shr
  have hm : min (n : Int).toNat IntKind.u64.bits = n := by
   have : IntKind.u64.bits = 64 := rfl
   omega
  rw [hm]
  have e : ((s : Int) / 2 ^ n) = ((s / 2 ^ n : Nat) : Int) := by
   rw [Int.natCast_ediv]
   congr 1
  rw [e]
  have e2 : Int.tmod ((s / 2 ^ n : Nat) : Int) 2 = ((s / 2 ^ n % 2 : Nat) : Int) := rfl
  rw [e2]
  generalize s / 2 ^ n % 2 = q
  by_cases hq : q = 1
  ·subst hq; rfl
  ·have : ¬ (q : Int) = 1 := by omega
   simp [hq, this]
 exact (capstanref04_Has.calls _ _ _ w h).mono fun e w' hw => ⟨hw.1, by obtain ⟨n, hd⟩ := hw.2; rw [hd]; exact pw_below_drewN (Below.refl _ _) n⟩
theorem low_calls (i : Nat) (hi : i < 5) (w : World) : Calls Tryz.prog 73 #[.int .i64 (i : Int)] w fun e w' => e = .returned (.int .i64 (lowN i : Int)) ∧ w' = w := by
 have ix : ∀ (k : Nat), k < 5 → ∀ w, (Instr.index 152 (.agg #[.int .i64 0, .int .i64 0, .int .i64 1, .int .i64 1, .int .i64 0]) (.int .i64 (k : Int))).run Tryz.prog w = .ok (.int .i64 (lowN k : Int)) w := by
  intro k hk w
  rcases (show k = 0 ∨ k = 1 ∨ k = 2 ∨ k = 3 ∨ k = 4 by omega) with rfl | rfl | rfl | rfl | rfl <;> kernel_rfl
 have h := ix i hi
 clear ix
 go_enter Tryz.func73, Tryz.ntmps73
 go_wp2
 go_ret
 exact ⟨rfl, rfl⟩
theorem high_calls (i : Nat) (hi : i < 5) (w : World) : Calls Tryz.prog 74 #[.int .i64 (i : Int)] w fun e w' => e = .returned (.int .i64 (highN i : Int)) ∧ w' = w := by
 have ix : ∀ (k : Nat), k < 5 → ∀ w, (Instr.index 152 (.agg #[.int .i64 59, .int .i64 23, .int .i64 31, .int .i64 12, .int .i64 6]) (.int .i64 (k : Int))).run Tryz.prog w = .ok (.int .i64 (highN k : Int)) w := by
  intro k hk w
  rcases (show k = 0 ∨ k = 1 ∨ k = 2 ∨ k = 3 ∨ k = 4 by omega) with rfl | rfl | rfl | rfl | rfl <;> kernel_rfl
 have h := ix i hi
 clear ix
 go_enter Tryz.func74, Tryz.ntmps74
 go_wp2
 go_ret
 exact ⟨rfl, rfl⟩
end Go.Proofs.YtpljkcakijkklaaGreatDoor

end
section
namespace Go.Proofs.YtpljkcakijkklaaGreatDoor
set_option linter.unusedVariables false
set_option linter.unusedSimpArgs false
open Go.RowKit Go.Proofs.YtpljkcakijkklaaGreatDoor.XCrn Go.Proofs.YtpljkcakijkklaaGreatDoorW.PrintWords Go.Proofs.YtpljkcakijkklaaGreatDoorW.PrintLast Go.Proofs.YtpljkcakijkklaaGreatDoorW.PrintMore

theorem rsets_calls (c : CronP) (w : World) : Calls Tryz.prog 71 #[.agg #[.int .u64 c.f0, .int .u64 c.f1, .int .u64 c.f2, .int .u64 c.f3, .int .u64 c.f4]] w fun e w' =>
  e = .returned (.agg #[.int .u64 c.f0, .int .u64 c.f1, .int .u64 c.f2, .int .u64 c.f3, .int .u64 c.f4]) ∧ Below w.heap.size w w' := by
 go_enter Tryz.func71, Tryz.ntmps71
 go_wp2
 refine bodyPost_ret (v := .agg #[.int .u64 c.f0, .int .u64 c.f1, .int .u64 c.f2, .int .u64 c.f3, .int .u64 c.f4]) (by simp [results, Tryz.results71, go_sem]) rfl ⟨rfl, ?_⟩
 exact below_alloc (below_alloc (Below.refl _ _) _) _
theorem fields_nat {c : CronP} (h : c.ok) : ∃ s0 s1 s2 s3 s4 : Nat, (c.f0 = s0 ∧ c.f1 = s1 ∧ c.f2 = s2 ∧ c.f3 = s3 ∧ c.f4 = s4) ∧ s0 < 2 ^ 64 ∧ s1 < 2 ^ 64 ∧ s2 < 2 ^ 64 ∧ s3 < 2 ^ 64 ∧ s4 < 2 ^ 64 := by
 obtain ⟨⟨a0, b0⟩, ⟨a1, b1⟩, ⟨a2, b2⟩, ⟨a3, b3⟩, ⟨a4, b4⟩⟩ := h
 exact ⟨c.f0.toNat, c.f1.toNat, c.f2.toNat, c.f3.toNat, c.f4.toNat, ⟨by omega, by omega, by omega, by omega, by omega⟩, by omega, by omega, by omega, by omega, by omega⟩
def badN (i s : Nat) : Bool := (s == 0) || !(List.range 64).all fun n => !outN i s n
theorem badN_bit {i s n : Nat} (hn : n < 64) (h : outN i s n = true) : badN i s = true := by
 unfold badN
 have : ((List.range 64).all fun n => !outN i s n) = false := by
  rw [List.all_eq_false]
  exact ⟨n, List.mem_range.2 hn, by rw [h]; decide⟩
 rw [this]
 simp
theorem badN_ok {i s : Nat} (h0 : ¬ s = 0) (h : ∀ n, n < 64 → outN i s n = false) : badN i s = false := by
 unfold badN
 have : ((List.range 64).all fun n => !outN i s n) = true := by
  rw [List.all_eq_true]
  intro n hn
  rw [h n (List.mem_range.1 hn)]
  rfl
 rw [this]
 simpa using h0
theorem rformed_calls (c : CronP) (hok : c.ok) (w : World) : Calls Tryz.prog 40 #[.agg #[.int .u64 c.f0, .int .u64 c.f1, .int .u64 c.f2, .int .u64 c.f3, .int .u64 c.f4]] w fun e w' =>
  e = .returned (.bool (formedB c)) ∧ Below w.heap.size w w' := by
 obtain ⟨s0, s1, s2, s3, s4, ⟨e0, e1, e2, e3, e4⟩, l0, l1, l2, l3, l4⟩ := fields_nat hok
 have hb0 : badF c 0 = badN 0 s0 := badF_out c 0 (by decide) s0 l0 e0
 have hb1 : badF c 1 = badN 1 s1 := badF_out c 1 (by decide) s1 l1 e1
 have hb2 : badF c 2 = badN 2 s2 := badF_out c 2 (by decide) s2 l2 e2
 have hb3 : badF c 3 = badN 3 s3 := badF_out c 3 (by decide) s3 l3 e3
 have hb4 : badF c 4 = badN 4 s4 := badF_out c 4 (by decide) s4 l4 e4
 have hs := rsets_calls c
 obtain ⟨fb, hfb⟩ : ∃ b, formedB c = b := ⟨_, rfl⟩
 have HBAD := Lib.hid fun (i : Nat) (hi : i < 5) (h : badF c i = true) => hfb.symm.trans (formedB_bad hi h)
 have HGOOD := Lib.hid fun (h : ∀ j, j < 5 → badF c j = false) => hfb.symm.trans (formedB_good h)
 rw [hfb]
 rw [e0, e1, e2, e3, e4] at hs ⊢
 have HS := Lib.hid hs
 have HB0 := Lib.hid hb0
 have HB1 := Lib.hid hb1
 have HB2 := Lib.hid hb2
 have HB3 := Lib.hid hb3
 have HB4 := Lib.hid hb4
 obtain ⟨w1, e1', b1, k1, s1'⟩ := box1 w (.cells #[.int .u64 (s0 : Int), .int .u64 (s1 : Int), .int .u64 (s2 : Int), .int .u64 (s3 : Int), .int .u64 (s4 : Int)] 84)
 have HE := Lib.hid e1'
 have B1 := Lib.hid b1
 clear hs hok e0 e1 e2 e3 e4 l0 l1 l2 l3 l4 hb0 hb1 hb2 hb3 hb4 hfb e1' b1 k1 s1'
 go_enter Tryz.func40, Tryz.ntmps40
 go_wp2_with fail
 rw [HE.out]
 refine (HS.out w1).mono ?_
 rintro e w2 ⟨rfl, b2⟩
 have B2 := Lib.hid (B1.out.trans (b2.mono B1.out.size))
 clear b2
 go_wp2_with fail
 obtain ⟨w3, e3, b3, k3, s3'⟩ := box1 w2 (.cells #[.int .u64 (s0 : Int), .int .u64 (s1 : Int), .int .u64 (s2 : Int), .int .u64 (s3 : Int), .int .u64 (s4 : Int)] 112)
 rw [e3]
 obtain ⟨gL, hgL⟩ : ∃ g, w2.heap.size = g := ⟨_, rfl⟩
 rw [hgL] at k3 ⊢
 have B3 := Lib.hid (B2.out.trans (b3.mono B2.out.size))
 have K3 := Lib.hid k3
 clear e3 b3 k3 s3' hgL
 go_loopg [4] 5 (fun kq v4 w' => ∃ i : Nat, v4 = .int .i64 i ∧ Aside0 (i + kq = 5) ∧ Aside0 (∀ j, j < i → badF c j = false) ∧ Aside0 (Below w3.heap.size w3 w'))
 case atStart => exact ⟨0, rfl, ⟨by omega⟩, ⟨fun j hj => by omega⟩, ⟨Below.refl _ _⟩⟩
 case round =>
  obtain ⟨i, rfl, hk, hP, hB⟩ := hrel
  have HK := Lib.hid hk.out
  have HP := Lib.hid hP.out
  have HB := Lib.hid hB.out
  clear hk hP hB
  rcases (show i = 0 ∨ i = 1 ∨ i = 2 ∨ i = 3 ∨ i = 4 ∨ i = 5 by have := HK.out; omega) with rfl | rfl | rfl | rfl | rfl | rfl
  ·have x0 := (blk_cell (blk_below K3.out HB.out) 0).trans rfl
   by_cases hz : s0 = 0
   ·have d0 : ((s0 : Int) == 0) = true := by subst hz; rfl
    have d1 : (s0 == 0) = true := by simpa using hz
    have hres := Lib.hid (HBAD.out 0 (by decide) (by rw [HB0.out]; unfold badN; rw [hz]; rfl))
    clear hz
    go_wp2_with fail
    go_ret
    exact ⟨by rw [hres.out]; first | done | rfl | simp, B3.out.trans (HB.out.mono B3.out.size)⟩
   ·have d0 : ((s0 : Int) == 0) = false := by
     rw [beq_eq_false_iff_ne]
     omega
    have d1 : (s0 == 0) = false := by simpa using hz
    have HZ := Lib.hid hz
    clear hz
    go_wp2_with fail
    obtain ⟨gko, hgo⟩ : ∃ g, g = gk := ⟨_, rfl⟩
    have HGO := Lib.hid hgo
    clear hgo
    go_loopg [5] 64 (fun kq v5 w' => ∃ n : Nat, v5 = .int .i64 n ∧ Aside0 (n + kq = 64) ∧ Aside0 (∀ j, j < n → outN 0 s0 j = false) ∧ Aside0 (Below w3.heap.size w3 w'))
    case atStart => exact ⟨0, rfl, ⟨by omega⟩, ⟨fun j hj => by omega⟩, ⟨HB.out⟩⟩
    case round =>
     obtain ⟨n, rfl, hk, hQ, hB⟩ := hrel
     have HK2 := Lib.hid hk.out
     have HQ := Lib.hid hQ.out
     have HB2' := Lib.hid hB.out
     clear hk hQ hB x0
     have x0 := (blk_cell (blk_below K3.out HB2'.out) 0).trans rfl
     by_cases hn : n < 64
     ·have q1 : ((n : Int) < 64) = True := eq_true (by omega)
      have q2 : (n < 64) = True := eq_true hn
      have HN := Lib.hid hn
      have w5 : wrap64 ((n : Int) + 1) = ((n + 1 : Nat) : Int) := by unfold wrap64; omega
      clear hn
      go_wp2_with fail
      refine (has_calls s0 n HN.out _).mono ?_
      rintro e w7 ⟨rfl, b7⟩
      have HB7 := Lib.hid (HB2'.out.trans (b7.mono HB2'.out.size))
      obtain ⟨bt, hbt⟩ : ∃ b, bitN s0 n = b := ⟨_, rfl⟩
      rw [hbt]
      have HBT := Lib.hid hbt
      clear b7 hbt
      cases bt with
      | false =>
       go_wp2_with fail
       go_roundg (gk - 1)
       case measure => clear w5; have := HK2.out; have := HN.out; omega
       case rel => exact ⟨n + 1, by first | rfl | simp [w5], ⟨by clear w5; have := HK2.out; have := HN.out; omega⟩, ⟨fun j hj => by
        by_cases e : j = n
        ·subst e; unfold outN; rw [HBT.out]; rfl
        ·exact HQ.out j (by omega)⟩, ⟨HB7.out⟩⟩
      | true =>
       go_wp2_with fail
       refine (low_calls 0 (by decide) _).mono ?_
       rintro e w8 ⟨rfl, rfl⟩
       by_cases hl : n < lowN 0
       ·have p1 : ((n : Int) < (lowN 0 : Int)) = True := eq_true (by omega)
        have p2 : (n < lowN 0) = True := eq_true hl
        have hres := Lib.hid (HBAD.out 0 (by decide) (by rw [HB0.out]; exact badN_bit HN.out z20_0))
        clear hl
        go_wp2_with fail
        go_ret
        exact ⟨by rw [hres.out]; first | done | rfl | simp, B3.out.trans (HB7.out.mono B3.out.size)⟩
       ·have p1 : ((n : Int) < (lowN 0 : Int)) = False := eq_false (by omega)
        have p2 : (n < lowN 0) = False := eq_false hl
        have HLO := Lib.hid hl
        clear hl
        go_wp2_with fail
        refine (high_calls 0 (by decide) _).mono ?_
        rintro e w9 ⟨rfl, rfl⟩
        by_cases hh : highN 0 < n
        ·have p3 : ((highN 0 : Int) < (n : Int)) = True := eq_true (by omega)
         have p4 : (highN 0 < n) = True := eq_true hh
         have hres := Lib.hid (HBAD.out 0 (by decide) (by rw [HB0.out]; exact badN_bit HN.out z20_1))
         clear hh
         go_wp2_with fail
         go_ret
         exact ⟨by rw [hres.out]; first | done | rfl | simp, B3.out.trans (HB7.out.mono B3.out.size)⟩
        ·have p3 : ((highN 0 : Int) < (n : Int)) = False := eq_false (by omega)
         have p4 : (highN 0 < n) = False := eq_false hh
         have HHI := Lib.hid hh
         clear hh
         go_wp2_with fail
         go_roundg (gk - 1)
         case measure => clear w5; have := HK2.out; have := HN.out; omega
         case rel => exact ⟨n + 1, by first | rfl | simp [w5], ⟨by clear w5; have := HK2.out; have := HN.out; omega⟩, ⟨fun j hj => by
          by_cases e : j = n
          ·subst e; unfold outN; have h1 := HLO.out; have h2 := HHI.out; simp [h1, h2]
          ·exact HQ.out j (by omega)⟩, ⟨HB7.out⟩⟩
     ·have q1 : ((n : Int) < 64) = False := eq_false (by omega)
      have q2 : (n < 64) = False := eq_false hn
      have hgood := Lib.hid (show badF c 0 = false by rw [HB0.out]; exact badN_ok HZ.out fun j hj => HQ.out j (by have := HK2.out; omega))
      clear hn
      go_wp2_with fail
      go_roundg (gko - 1)
      case measure => have := HK.out; have := HGO.out; omega
      case rel => exact ⟨1, by first | rfl | simp, ⟨by have := HK.out; have := HGO.out; omega⟩, ⟨fun j hj => by
       by_cases e : j = 0
       ·subst e; exact hgood.out
       ·exact HP.out j (by omega)⟩, ⟨HB2'.out⟩⟩
  ·have x0 := (blk_cell (blk_below K3.out HB.out) 1).trans rfl
   by_cases hz : s1 = 0
   ·have d0 : ((s1 : Int) == 0) = true := by subst hz; rfl
    have d1 : (s1 == 0) = true := by simpa using hz
    have hres := Lib.hid (HBAD.out 1 (by decide) (by rw [HB1.out]; unfold badN; rw [hz]; rfl))
    clear hz
    go_wp2_with fail
    go_ret
    exact ⟨by rw [hres.out]; first | done | rfl | simp, B3.out.trans (HB.out.mono B3.out.size)⟩
   ·have d0 : ((s1 : Int) == 0) = false := by
     rw [beq_eq_false_iff_ne]
     omega
    have d1 : (s1 == 0) = false := by simpa using hz
    have HZ := Lib.hid hz
    clear hz
    go_wp2_with fail
    obtain ⟨gko, hgo⟩ : ∃ g, g = gk := ⟨_, rfl⟩
    have HGO := Lib.hid hgo
    clear hgo
    go_loopg [5] 64 (fun kq v5 w' => ∃ n : Nat, v5 = .int .i64 n ∧ Aside0 (n + kq = 64) ∧ Aside0 (∀ j, j < n → outN 1 s1 j = false) ∧ Aside0 (Below w3.heap.size w3 w'))
    case atStart => exact ⟨0, rfl, ⟨by omega⟩, ⟨fun j hj => by omega⟩, ⟨HB.out⟩⟩
    case round =>
     obtain ⟨n, rfl, hk, hQ, hB⟩ := hrel
     have HK2 := Lib.hid hk.out
     have HQ := Lib.hid hQ.out
     have HB2' := Lib.hid hB.out
     clear hk hQ hB x0
     have x0 := (blk_cell (blk_below K3.out HB2'.out) 1).trans rfl
     by_cases hn : n < 64
     ·have q1 : ((n : Int) < 64) = True := eq_true (by omega)
      have q2 : (n < 64) = True := eq_true hn
      have HN := Lib.hid hn
      have w5 : wrap64 ((n : Int) + 1) = ((n + 1 : Nat) : Int) := by unfold wrap64; omega
      clear hn
      go_wp2_with fail
      refine (has_calls s1 n HN.out _).mono ?_
      rintro e w7 ⟨rfl, b7⟩
      have HB7 := Lib.hid (HB2'.out.trans (b7.mono HB2'.out.size))
      obtain ⟨bt, hbt⟩ : ∃ b, bitN s1 n = b := ⟨_, rfl⟩
      rw [hbt]
      have HBT := Lib.hid hbt
      clear b7 hbt
      cases bt with
      | false =>
       go_wp2_with fail
       go_roundg (gk - 1)
       case measure => clear w5; have := HK2.out; have := HN.out; omega
       case rel => exact ⟨n + 1, by first | rfl | simp [w5], ⟨by clear w5; have := HK2.out; have := HN.out; omega⟩, ⟨fun j hj => by
        by_cases e : j = n
        ·subst e; unfold outN; rw [HBT.out]; rfl
        ·exact HQ.out j (by omega)⟩, ⟨HB7.out⟩⟩
      | true =>
       go_wp2_with fail
       refine (low_calls 1 (by decide) _).mono ?_
       rintro e w8 ⟨rfl, rfl⟩
       by_cases hl : n < lowN 1
       ·have p1 : ((n : Int) < (lowN 1 : Int)) = True := eq_true (by omega)
        have p2 : (n < lowN 1) = True := eq_true hl
        have hres := Lib.hid (HBAD.out 1 (by decide) (by rw [HB1.out]; exact badN_bit HN.out z20_0))
        clear hl
        go_wp2_with fail
        go_ret
        exact ⟨by rw [hres.out]; first | done | rfl | simp, B3.out.trans (HB7.out.mono B3.out.size)⟩
       ·have p1 : ((n : Int) < (lowN 1 : Int)) = False := eq_false (by omega)
        have p2 : (n < lowN 1) = False := eq_false hl
        have HLO := Lib.hid hl
        clear hl
        go_wp2_with fail
        refine (high_calls 1 (by decide) _).mono ?_
        rintro e w9 ⟨rfl, rfl⟩
        by_cases hh : highN 1 < n
        ·have p3 : ((highN 1 : Int) < (n : Int)) = True := eq_true (by omega)
         have p4 : (highN 1 < n) = True := eq_true hh
         have hres := Lib.hid (HBAD.out 1 (by decide) (by rw [HB1.out]; exact badN_bit HN.out z20_1))
         clear hh
         go_wp2_with fail
         go_ret
         exact ⟨by rw [hres.out]; first | done | rfl | simp, B3.out.trans (HB7.out.mono B3.out.size)⟩
        ·have p3 : ((highN 1 : Int) < (n : Int)) = False := eq_false (by omega)
         have p4 : (highN 1 < n) = False := eq_false hh
         have HHI := Lib.hid hh
         clear hh
         go_wp2_with fail
         go_roundg (gk - 1)
         case measure => clear w5; have := HK2.out; have := HN.out; omega
         case rel => exact ⟨n + 1, by first | rfl | simp [w5], ⟨by clear w5; have := HK2.out; have := HN.out; omega⟩, ⟨fun j hj => by
          by_cases e : j = n
          ·subst e; unfold outN; have h1 := HLO.out; have h2 := HHI.out; simp [h1, h2]
          ·exact HQ.out j (by omega)⟩, ⟨HB7.out⟩⟩
     ·have q1 : ((n : Int) < 64) = False := eq_false (by omega)
      have q2 : (n < 64) = False := eq_false hn
      have hgood := Lib.hid (show badF c 1 = false by rw [HB1.out]; exact badN_ok HZ.out fun j hj => HQ.out j (by have := HK2.out; omega))
      clear hn
      go_wp2_with fail
      go_roundg (gko - 1)
      case measure => have := HK.out; have := HGO.out; omega
      case rel => exact ⟨2, by first | rfl | simp, ⟨by have := HK.out; have := HGO.out; omega⟩, ⟨fun j hj => by
       by_cases e : j = 1
       ·subst e; exact hgood.out
       ·exact HP.out j (by omega)⟩, ⟨HB2'.out⟩⟩
  ·have x0 := (blk_cell (blk_below K3.out HB.out) 2).trans rfl
   by_cases hz : s2 = 0
   ·have d0 : ((s2 : Int) == 0) = true := by subst hz; rfl
    have d1 : (s2 == 0) = true := by simpa using hz
    have hres := Lib.hid (HBAD.out 2 (by decide) (by rw [HB2.out]; unfold badN; rw [hz]; rfl))
    clear hz
    go_wp2_with fail
    go_ret
    exact ⟨by rw [hres.out]; first | done | rfl | simp, B3.out.trans (HB.out.mono B3.out.size)⟩
   ·have d0 : ((s2 : Int) == 0) = false := by
     rw [beq_eq_false_iff_ne]
     omega
    have d1 : (s2 == 0) = false := by simpa using hz
    have HZ := Lib.hid hz
    clear hz
    go_wp2_with fail
    obtain ⟨gko, hgo⟩ : ∃ g, g = gk := ⟨_, rfl⟩
    have HGO := Lib.hid hgo
    clear hgo
    go_loopg [5] 64 (fun kq v5 w' => ∃ n : Nat, v5 = .int .i64 n ∧ Aside0 (n + kq = 64) ∧ Aside0 (∀ j, j < n → outN 2 s2 j = false) ∧ Aside0 (Below w3.heap.size w3 w'))
    case atStart => exact ⟨0, rfl, ⟨by omega⟩, ⟨fun j hj => by omega⟩, ⟨HB.out⟩⟩
    case round =>
     obtain ⟨n, rfl, hk, hQ, hB⟩ := hrel
     have HK2 := Lib.hid hk.out
     have HQ := Lib.hid hQ.out
     have HB2' := Lib.hid hB.out
     clear hk hQ hB x0
     have x0 := (blk_cell (blk_below K3.out HB2'.out) 2).trans rfl
     by_cases hn : n < 64
     ·have q1 : ((n : Int) < 64) = True := eq_true (by omega)
      have q2 : (n < 64) = True := eq_true hn
      have HN := Lib.hid hn
      have w5 : wrap64 ((n : Int) + 1) = ((n + 1 : Nat) : Int) := by unfold wrap64; omega
      clear hn
      go_wp2_with fail
      refine (has_calls s2 n HN.out _).mono ?_
      rintro e w7 ⟨rfl, b7⟩
      have HB7 := Lib.hid (HB2'.out.trans (b7.mono HB2'.out.size))
      obtain ⟨bt, hbt⟩ : ∃ b, bitN s2 n = b := ⟨_, rfl⟩
      rw [hbt]
      have HBT := Lib.hid hbt
      clear b7 hbt
      cases bt with
      | false =>
       go_wp2_with fail
       go_roundg (gk - 1)
       case measure => clear w5; have := HK2.out; have := HN.out; omega
       case rel => exact ⟨n + 1, by first | rfl | simp [w5], ⟨by clear w5; have := HK2.out; have := HN.out; omega⟩, ⟨fun j hj => by
        by_cases e : j = n
        ·subst e; unfold outN; rw [HBT.out]; rfl
        ·exact HQ.out j (by omega)⟩, ⟨HB7.out⟩⟩
      | true =>
       go_wp2_with fail
       refine (low_calls 2 (by decide) _).mono ?_
       rintro e w8 ⟨rfl, rfl⟩
       by_cases hl : n < lowN 2
       ·have p1 : ((n : Int) < (lowN 2 : Int)) = True := eq_true (by omega)
        have p2 : (n < lowN 2) = True := eq_true hl
        have hres := Lib.hid (HBAD.out 2 (by decide) (by rw [HB2.out]; exact badN_bit HN.out z20_0))
        clear hl
        go_wp2_with fail
        go_ret
        exact ⟨by rw [hres.out]; first | done | rfl | simp, B3.out.trans (HB7.out.mono B3.out.size)⟩
       ·have p1 : ((n : Int) < (lowN 2 : Int)) = False := eq_false (by omega)
        have p2 : (n < lowN 2) = False := eq_false hl
        have HLO := Lib.hid hl
        clear hl
        go_wp2_with fail
        refine (high_calls 2 (by decide) _).mono ?_
        rintro e w9 ⟨rfl, rfl⟩
        by_cases hh : highN 2 < n
        ·have p3 : ((highN 2 : Int) < (n : Int)) = True := eq_true (by omega)
         have p4 : (highN 2 < n) = True := eq_true hh
         have hres := Lib.hid (HBAD.out 2 (by decide) (by rw [HB2.out]; exact badN_bit HN.out z20_1))
         clear hh
         go_wp2_with fail
         go_ret
         exact ⟨by rw [hres.out]; first | done | rfl | simp, B3.out.trans (HB7.out.mono B3.out.size)⟩
        ·have p3 : ((highN 2 : Int) < (n : Int)) = False := eq_false (by omega)
         have p4 : (highN 2 < n) = False := eq_false hh
         have HHI := Lib.hid hh
         clear hh
         go_wp2_with fail
         go_roundg (gk - 1)
         case measure => clear w5; have := HK2.out; have := HN.out; omega
         case rel => exact ⟨n + 1, by first | rfl | simp [w5], ⟨by clear w5; have := HK2.out; have := HN.out; omega⟩, ⟨fun j hj => by
          by_cases e : j = n
          ·subst e; unfold outN; have h1 := HLO.out; have h2 := HHI.out; simp [h1, h2]
          ·exact HQ.out j (by omega)⟩, ⟨HB7.out⟩⟩
     ·have q1 : ((n : Int) < 64) = False := eq_false (by omega)
      have q2 : (n < 64) = False := eq_false hn
      have hgood := Lib.hid (show badF c 2 = false by rw [HB2.out]; exact badN_ok HZ.out fun j hj => HQ.out j (by have := HK2.out; omega))
      clear hn
      go_wp2_with fail
      go_roundg (gko - 1)
      case measure => have := HK.out; have := HGO.out; omega
      case rel => exact ⟨3, by first | rfl | simp, ⟨by have := HK.out; have := HGO.out; omega⟩, ⟨fun j hj => by
       by_cases e : j = 2
       ·subst e; exact hgood.out
       ·exact HP.out j (by omega)⟩, ⟨HB2'.out⟩⟩
  ·have x0 := (blk_cell (blk_below K3.out HB.out) 3).trans rfl
   by_cases hz : s3 = 0
   ·have d0 : ((s3 : Int) == 0) = true := by subst hz; rfl
    have d1 : (s3 == 0) = true := by simpa using hz
    have hres := Lib.hid (HBAD.out 3 (by decide) (by rw [HB3.out]; unfold badN; rw [hz]; rfl))
    clear hz
    go_wp2_with fail
    go_ret
    exact ⟨by rw [hres.out]; first | done | rfl | simp, B3.out.trans (HB.out.mono B3.out.size)⟩
   ·have d0 : ((s3 : Int) == 0) = false := by
     rw [beq_eq_false_iff_ne]
     omega
    have d1 : (s3 == 0) = false := by simpa using hz
    have HZ := Lib.hid hz
    clear hz
    go_wp2_with fail
    obtain ⟨gko, hgo⟩ : ∃ g, g = gk := ⟨_, rfl⟩
    have HGO := Lib.hid hgo
    clear hgo
    go_loopg [5] 64 (fun kq v5 w' => ∃ n : Nat, v5 = .int .i64 n ∧ Aside0 (n + kq = 64) ∧ Aside0 (∀ j, j < n → outN 3 s3 j = false) ∧ Aside0 (Below w3.heap.size w3 w'))
    case atStart => exact ⟨0, rfl, ⟨by omega⟩, ⟨fun j hj => by omega⟩, ⟨HB.out⟩⟩
    case round =>
     obtain ⟨n, rfl, hk, hQ, hB⟩ := hrel
     have HK2 := Lib.hid hk.out
     have HQ := Lib.hid hQ.out
     have HB2' := Lib.hid hB.out
     clear hk hQ hB x0
     have x0 := (blk_cell (blk_below K3.out HB2'.out) 3).trans rfl
     by_cases hn : n < 64
     ·have q1 : ((n : Int) < 64) = True := eq_true (by omega)
      have q2 : (n < 64) = True := eq_true hn
      have HN := Lib.hid hn
      have w5 : wrap64 ((n : Int) + 1) = ((n + 1 : Nat) : Int) := by unfold wrap64; omega
      clear hn
      go_wp2_with fail
      refine (has_calls s3 n HN.out _).mono ?_
      rintro e w7 ⟨rfl, b7⟩
      have HB7 := Lib.hid (HB2'.out.trans (b7.mono HB2'.out.size))
      obtain ⟨bt, hbt⟩ : ∃ b, bitN s3 n = b := ⟨_, rfl⟩
      rw [hbt]
      have HBT := Lib.hid hbt
      clear b7 hbt
      cases bt with
      | false =>
       go_wp2_with fail
       go_roundg (gk - 1)
       case measure => clear w5; have := HK2.out; have := HN.out; omega
       case rel => exact ⟨n + 1, by first | rfl | simp [w5], ⟨by clear w5; have := HK2.out; have := HN.out; omega⟩, ⟨fun j hj => by
        by_cases e : j = n
        ·subst e; unfold outN; rw [HBT.out]; rfl
        ·exact HQ.out j (by omega)⟩, ⟨HB7.out⟩⟩
      | true =>
       go_wp2_with fail
       refine (low_calls 3 (by decide) _).mono ?_
       rintro e w8 ⟨rfl, rfl⟩
       by_cases hl : n < lowN 3
       ·have p1 : ((n : Int) < (lowN 3 : Int)) = True := eq_true (by omega)
        have p2 : (n < lowN 3) = True := eq_true hl
        have hres := Lib.hid (HBAD.out 3 (by decide) (by rw [HB3.out]; exact badN_bit HN.out z20_0))
        clear hl
        go_wp2_with fail
        go_ret
        exact ⟨by rw [hres.out]; first | done | rfl | simp, B3.out.trans (HB7.out.mono B3.out.size)⟩
       ·have p1 : ((n : Int) < (lowN 3 : Int)) = False := eq_false (by omega)
        have p2 : (n < lowN 3) = False := eq_false hl
        have HLO := Lib.hid hl
        clear hl
        go_wp2_with fail
        refine (high_calls 3 (by decide) _).mono ?_
        rintro e w9 ⟨rfl, rfl⟩
        by_cases hh : highN 3 < n
        ·have p3 : ((highN 3 : Int) < (n : Int)) = True := eq_true (by omega)
         have p4 : (highN 3 < n) = True := eq_true hh
         have hres := Lib.hid (HBAD.out 3 (by decide) (by rw [HB3.out]; exact badN_bit HN.out z20_1))
         clear hh
         go_wp2_with fail
         go_ret
         exact ⟨by rw [hres.out]; first | done | rfl | simp, B3.out.trans (HB7.out.mono B3.out.size)⟩
        ·have p3 : ((highN 3 : Int) < (n : Int)) = False := eq_false (by omega)
         have p4 : (highN 3 < n) = False := eq_false hh
         have HHI := Lib.hid hh
         clear hh
         go_wp2_with fail
         go_roundg (gk - 1)
         case measure => clear w5; have := HK2.out; have := HN.out; omega
         case rel => exact ⟨n + 1, by first | rfl | simp [w5], ⟨by clear w5; have := HK2.out; have := HN.out; omega⟩, ⟨fun j hj => by
          by_cases e : j = n
          ·subst e; unfold outN; have h1 := HLO.out; have h2 := HHI.out; simp [h1, h2]
          ·exact HQ.out j (by omega)⟩, ⟨HB7.out⟩⟩
     ·have q1 : ((n : Int) < 64) = False := eq_false (by omega)
      have q2 : (n < 64) = False := eq_false hn
      have hgood := Lib.hid (show badF c 3 = false by rw [HB3.out]; exact badN_ok HZ.out fun j hj => HQ.out j (by have := HK2.out; omega))
      clear hn
      go_wp2_with fail
      go_roundg (gko - 1)
      case measure => have := HK.out; have := HGO.out; omega
      case rel => exact ⟨4, by first | rfl | simp, ⟨by have := HK.out; have := HGO.out; omega⟩, ⟨fun j hj => by
       by_cases e : j = 3
       ·subst e; exact hgood.out
       ·exact HP.out j (by omega)⟩, ⟨HB2'.out⟩⟩
  ·have x0 := (blk_cell (blk_below K3.out HB.out) 4).trans rfl
   by_cases hz : s4 = 0
   ·have d0 : ((s4 : Int) == 0) = true := by subst hz; rfl
    have d1 : (s4 == 0) = true := by simpa using hz
    have hres := Lib.hid (HBAD.out 4 (by decide) (by rw [HB4.out]; unfold badN; rw [hz]; rfl))
    clear hz
    go_wp2_with fail
    go_ret
    exact ⟨by rw [hres.out]; first | done | rfl | simp, B3.out.trans (HB.out.mono B3.out.size)⟩
   ·have d0 : ((s4 : Int) == 0) = false := by
     rw [beq_eq_false_iff_ne]
     omega
    have d1 : (s4 == 0) = false := by simpa using hz
    have HZ := Lib.hid hz
    clear hz
    go_wp2_with fail
    obtain ⟨gko, hgo⟩ : ∃ g, g = gk := ⟨_, rfl⟩
    have HGO := Lib.hid hgo
    clear hgo
    go_loopg [5] 64 (fun kq v5 w' => ∃ n : Nat, v5 = .int .i64 n ∧ Aside0 (n + kq = 64) ∧ Aside0 (∀ j, j < n → outN 4 s4 j = false) ∧ Aside0 (Below w3.heap.size w3 w'))
    case atStart => exact ⟨0, rfl, ⟨by omega⟩, ⟨fun j hj => by omega⟩, ⟨HB.out⟩⟩
    case round =>
     obtain ⟨n, rfl, hk, hQ, hB⟩ := hrel
     have HK2 := Lib.hid hk.out
     have HQ := Lib.hid hQ.out
     have HB2' := Lib.hid hB.out
     clear hk hQ hB x0
     have x0 := (blk_cell (blk_below K3.out HB2'.out) 4).trans rfl
     by_cases hn : n < 64
     ·have q1 : ((n : Int) < 64) = True := eq_true (by omega)
      have q2 : (n < 64) = True := eq_true hn
      have HN := Lib.hid hn
      have w5 : wrap64 ((n : Int) + 1) = ((n + 1 : Nat) : Int) := by unfold wrap64; omega
      clear hn
      go_wp2_with fail
      refine (has_calls s4 n HN.out _).mono ?_
      rintro e w7 ⟨rfl, b7⟩
      have HB7 := Lib.hid (HB2'.out.trans (b7.mono HB2'.out.size))
      obtain ⟨bt, hbt⟩ : ∃ b, bitN s4 n = b := ⟨_, rfl⟩
      rw [hbt]
      have HBT := Lib.hid hbt
      clear b7 hbt
      cases bt with
      | false =>
       go_wp2_with fail
       go_roundg (gk - 1)
       case measure => clear w5; have := HK2.out; have := HN.out; omega
       case rel => exact ⟨n + 1, by first | rfl | simp [w5], ⟨by clear w5; have := HK2.out; have := HN.out; omega⟩, ⟨fun j hj => by
        by_cases e : j = n
        ·subst e; unfold outN; rw [HBT.out]; rfl
        ·exact HQ.out j (by omega)⟩, ⟨HB7.out⟩⟩
      | true =>
       go_wp2_with fail
       refine (low_calls 4 (by decide) _).mono ?_
       rintro e w8 ⟨rfl, rfl⟩
       by_cases hl : n < lowN 4
       ·have p1 : ((n : Int) < (lowN 4 : Int)) = True := eq_true (by omega)
        have p2 : (n < lowN 4) = True := eq_true hl
        have hres := Lib.hid (HBAD.out 4 (by decide) (by rw [HB4.out]; exact badN_bit HN.out z20_0))
        clear hl
        go_wp2_with fail
        go_ret
        exact ⟨by rw [hres.out]; first | done | rfl | simp, B3.out.trans (HB7.out.mono B3.out.size)⟩
       ·have p1 : ((n : Int) < (lowN 4 : Int)) = False := eq_false (by omega)
        have p2 : (n < lowN 4) = False := eq_false hl
        have HLO := Lib.hid hl
        clear hl
        go_wp2_with fail
        refine (high_calls 4 (by decide) _).mono ?_
        rintro e w9 ⟨rfl, rfl⟩
        by_cases hh : highN 4 < n
        ·have p3 : ((highN 4 : Int) < (n : Int)) = True := eq_true (by omega)
         have p4 : (highN 4 < n) = True := eq_true hh
         have hres := Lib.hid (HBAD.out 4 (by decide) (by rw [HB4.out]; exact badN_bit HN.out z20_1))
         clear hh
         go_wp2_with fail
         go_ret
         exact ⟨by rw [hres.out]; first | done | rfl | simp, B3.out.trans (HB7.out.mono B3.out.size)⟩
        ·have p3 : ((highN 4 : Int) < (n : Int)) = False := eq_false (by omega)
         have p4 : (highN 4 < n) = False := eq_false hh
         have HHI := Lib.hid hh
         clear hh
         go_wp2_with fail
         go_roundg (gk - 1)
         case measure => clear w5; have := HK2.out; have := HN.out; omega
         case rel => exact ⟨n + 1, by first | rfl | simp [w5], ⟨by clear w5; have := HK2.out; have := HN.out; omega⟩, ⟨fun j hj => by
          by_cases e : j = n
          ·subst e; unfold outN; have h1 := HLO.out; have h2 := HHI.out; simp [h1, h2]
          ·exact HQ.out j (by omega)⟩, ⟨HB7.out⟩⟩
     ·have q1 : ((n : Int) < 64) = False := eq_false (by omega)
      have q2 : (n < 64) = False := eq_false hn
      have hgood := Lib.hid (show badF c 4 = false by rw [HB4.out]; exact badN_ok HZ.out fun j hj => HQ.out j (by have := HK2.out; omega))
      clear hn
      go_wp2_with fail
      go_roundg (gko - 1)
      case measure => have := HK.out; have := HGO.out; omega
      case rel => exact ⟨5, by first | rfl | simp, ⟨by have := HK.out; have := HGO.out; omega⟩, ⟨fun j hj => by
       by_cases e : j = 4
       ·subst e; exact hgood.out
       ·exact HP.out j (by omega)⟩, ⟨HB2'.out⟩⟩
  ·have hres := Lib.hid (HGOOD.out HP.out)
   go_wp2_with fail
   go_ret
   exact ⟨by rw [hres.out]; first | done | rfl | simp, B3.out.trans (HB.out.mono B3.out.size)⟩
end Go.Proofs.YtpljkcakijkklaaGreatDoor

end
section
namespace Go.Proofs.YtpljkcakijkklaaGreatDoor
set_option linter.unusedVariables false
set_option linter.unusedSimpArgs false
open Go.RowKit Go.Proofs.YtpljkcakijkklaaGreatDoor.XCrn Go.Proofs.YtpljkcakijkklaaGreatDoorW.PrintWords Go.Proofs.YtpljkcakijkklaaGreatDoorW.PrintLast Go.Proofs.YtpljkcakijkklaaGreatDoorW.PrintMore

def rightB (a b c d e : Int) : Bool := decide (0 ≤ a ∧ a ≤ b ∧ 1 ≤ b ∧ b ≤ 1000000 ∧ 1 ≤ c ∧ c ≤ 1000000 ∧ 0 ≤ d ∧ d ≤ 604800 ∧ 0 ≤ e ∧ e ≤ 604800)
def winB (a b c d : Int) : Bool := decide (0 ≤ a ∧ 1 ≤ b ∧ b ≤ 6 ∧ 1 ≤ c ∧ c ≤ 604800 ∧ (b = 6 → 1 ≤ d ∧ d ≤ 100000000) ∧ (¬ b = 6 → d = 0))
theorem iteO {c : Prop} [Decidable c] {a b : Option Bool} {P : Option Bool → Prop} (ha : c → P a) (hb : ¬ c → P b) : P (if c then a else b) := by
 split
 ·exact ha ‹_›
 ·exact hb ‹_›
theorem some_dec {p q : Prop} [Decidable p] [Decidable q] (h : p ↔ q) : some (decide p) = some (decide q) := by rw [decide_eq_decide.2 h]
theorem some_no {q : Prop} [Decidable q] (h : ¬ q) : some false = some (decide q) := by rw [decide_eq_false h]
theorem core_Right_f (a b c d e : Int) : core_Right.f a b c d e = some (rightB a b c d e) := by
 unfold core_Right.f rightB
 repeat' (refine iteO (P := fun x => x = some _) (fun _ => ?_) (fun _ => ?_))
 all_goals first | exact some_no (by omega) | exact some_dec (by omega)
theorem ref_Right_f (a b c d e : Int) : capstanref15_Right.f a b c d e = some (rightB a b c d e) := by
 unfold capstanref15_Right.f rightB
 repeat' (refine iteO (P := fun x => x = some _) (fun _ => ?_) (fun _ => ?_))
 all_goals first | exact some_no (by omega) | exact some_dec (by omega)
theorem window_Right_f (a b c d : Int) : window_Right.f a b c d = some (winB a b c d) := by
 have hz : (d == 0) = decide (d = 0) := rfl
 unfold window_Right.f winB
 try simp only [hz]
 repeat' (refine iteO (P := fun x => x = some _) (fun _ => ?_) (fun _ => ?_))
 all_goals first | exact some_no (by omega) | exact some_dec (by omega)
theorem ref08_Right_f (a b c d : Int) : capstanref08_Right.f 1 a b c d = some (winB a b c d) := by
 have hz : (d == 0) = decide (d = 0) := rfl
 have hj : ∀ x, capstanref08_Right.j0 1 x a b c d = if x = true then (some false) else (if b = 6 then (if d ≥ 1 then (some (decide (d ≤ 100000000))) else (some false)) else (some (d == 0))) := fun x => by rw [capstanref08_Right.j0]
 unfold capstanref08_Right.f winB
 simp only [hj, hz]
 repeat' (refine iteO (P := fun x => x = some _) (fun _ => ?_) (fun _ => ?_))
 all_goals first | exact some_no (by first | omega | (simp_all; omega)) | exact some_dec (by omega) | (simp_all; done)
theorem right_calls (a b c d e : Int) (w : World) : Calls Tryz.prog 15 #[.agg #[.int .i64 a, .int .i64 b, .int .i64 c, .int .i64 d, .int .i64 e]] w fun en w' => en = .returned (.bool (rightB a b c d e)) ∧ Below w.heap.size w w' :=
 core_Right.calls _ _ _ _ _ _ w (core_Right_f _ _ _ _ _)
theorem rright_calls (a b c d e : Int) (w : World) : Calls Tryz.prog 16 #[.agg #[.int .i64 a, .int .i64 b, .int .i64 c, .int .i64 d, .int .i64 e]] w fun en w' => en = .returned (.bool (rightB a b c d e)) ∧ Below w.heap.size w w' :=
 capstanref15_Right.calls _ _ _ _ _ _ w (ref_Right_f _ _ _ _ _)
theorem winright_calls (a b c d : Int) (w : World) : Calls Tryz.prog 35 #[.agg #[.int .i64 a, .int .i64 b, .int .i64 c, .int .i64 d]] w fun en w' => en = .returned (.bool (winB a b c d)) ∧ Below w.heap.size w w' :=
 window_Right.calls _ _ _ _ _ w (window_Right_f _ _ _ _)
theorem rwinright_calls (a b c d : Int) (w : World) : Calls Tryz.prog 39 #[.agg #[.int .i64 a, .int .i64 b, .int .i64 c, .int .i64 d]] w fun en w' => en = .returned (.bool (winB a b c d)) ∧ Below w.heap.size w w' :=
 capstanref08_Right.calls 1 _ _ _ _ _ w (ref08_Right_f _ _ _ _)
end Go.Proofs.YtpljkcakijkklaaGreatDoor

end
section
namespace Go.Proofs.YtpljkcakijkklaaGreatDoor
set_option linter.unusedVariables false
set_option linter.unusedSimpArgs false
open Go.RowKit Go.Proofs.YtpljkcakijkklaaGreatDoorW.PrintWords Go.Proofs.YtpljkcakijkklaaGreatDoorW.PrintLast Go.Proofs.YtpljkcakijkklaaGreatDoorW.PrintMore

theorem cells_new (w : World) (l : List Value) (t : TypeId) : ∀ j u, l[j]? = some u → (w.alloc (.cells l.toArray t)).cell? ((⟨w.heap.size, 0, none⟩ : Addr).add j) = some u := by
 intro j u hj
 have h := blk_cell (blk_new w (.cells l.toArray t)) j
 have e : (⟨w.heap.size, 0, none⟩ : Addr).add j = ⟨w.heap.size, j, none⟩ := by
  cases j with
  | zero => rfl
  | succ j => simp [Addr.add]
 rw [e, h]
 simpa using hj
theorem ArrL.cellsAt {w : World} {b : Addr} {sz : Nat} {α : Type} {c : α → List Value} {l : List α} (h : ArrL w (some b) sz c l) {i : Nat} {x : α} (hx : l[i]? = some x) (hz : 0 < sz) :
  (∀ u, (c x)[0]? = some u → w.cell? (b.add (i * sz)) = some u) ∧ (∀ j u, (c x)[j + 1]? = some u → w.cell? ⟨(b.add (i * sz)).block, (b.add (i * sz)).off + (j + 1), none⟩ = some u) := by
 obtain ⟨b', hb, hc⟩ := h i x hx
 injection hb with hb
 subst hb
 refine ⟨fun u hu => ?_, fun j u hu => ?_⟩
 ·have := cells_get hc 0 u hu
  rw [Addr.add_add] at this
  exact this
 ·rw [← add_field _ _ (j + 1) (by omega)]
  have := cells_get hc (j + 1) u hu
  rw [Addr.add_add] at this
  exact this
theorem guard_at {w : World} {b : Addr} {l : List (Cr × Cr)} (h : ArrL w (some b) 8 guardCells l) {i : Nat} {x : Cr × Cr} (hx : l[i]? = some x) :
  w.cell? (b.add (i * 8)) = some (.int .i64 x.1.op) ∧ w.cell? ⟨(b.add (i * 8)).block, (b.add (i * 8)).off + 1, none⟩ = some (.int .i64 x.1.n) ∧ w.cell? ⟨(b.add (i * 8)).block, (b.add (i * 8)).off + 2, none⟩ = some (.int .i64 x.1.m) ∧
  w.cell? ⟨(b.add (i * 8)).block, (b.add (i * 8)).off + 3, none⟩ = some (.slice x.1.at_ x.1.kids.length x.1.cap) ∧ w.cell? ⟨(b.add (i * 8)).block, (b.add (i * 8)).off + 4, none⟩ = some (.int .i64 x.2.op) ∧
  w.cell? ⟨(b.add (i * 8)).block, (b.add (i * 8)).off + 5, none⟩ = some (.int .i64 x.2.n) ∧ w.cell? ⟨(b.add (i * 8)).block, (b.add (i * 8)).off + 6, none⟩ = some (.int .i64 x.2.m) ∧ w.cell? ⟨(b.add (i * 8)).block, (b.add (i * 8)).off + 7, none⟩ = some (.slice x.2.at_ x.2.kids.length x.2.cap) := by
 obtain ⟨h0, h1⟩ := h.cellsAt hx (by decide)
 exact ⟨h0 _ rfl, h1 0 _ rfl, h1 1 _ rfl, h1 2 _ rfl, h1 3 _ rfl, h1 4 _ rfl, h1 5 _ rfl, h1 6 _ rfl⟩
theorem flat_get : ∀ {l : List Cr} {j i : Nat} {c : Cr}, l[j]? = some c → i < 4 → (l.flatMap Cr.cells)[j * 4 + i]? = c.cells[i]?
 | [], j, i, c, hj, hi => by simp at hj
 | d :: l, 0, i, c, hj, hi => by
  simp at hj
  subst hj
  rw [List.flatMap_cons, Nat.zero_mul, Nat.zero_add, List.getElem?_append_left (by simpa [Cr.cells] using hi)]
 | d :: l, j + 1, i, c, hj, hi => by
  rw [List.flatMap_cons, List.getElem?_append_right (by simp [Cr.cells]; omega), show (j + 1) * 4 + i - d.cells.length = j * 4 + i by simp [Cr.cells]; omega]
  exact flat_get (by simpa using hj) hi
theorem own_lies {w : World} {base : Nat} {t : TypeId} {v : Value} {l : List Cr} (h : w.ownsRow base t 4 v l.length (l.flatMap Cr.cells)) (hl : ∀ c ∈ l, Lies w c) (hne : l ≠ []) :
  ∃ g cap, v = .slice (some ⟨g, 0, none⟩) l.length cap ∧ base ≤ g ∧ l.length ≤ cap ∧ LiesL w (some ⟨g, 0, none⟩) 0 l := by
 obtain ⟨h1, h2⟩ := h
 rcases h2 with ⟨_, h0⟩ | ⟨g, cap, cur, hv, hg, hh, hn, hcap, hsz, htake⟩
 ·exact absurd (List.eq_nil_of_length_eq_zero h0) hne
 ·refine ⟨g, cap, hv, hg, hn, LiesL.of_get fun j c hj => ⟨⟨_, rfl, ?_⟩, hl c (List.mem_of_getElem? hj)⟩⟩
  rw [Nat.zero_add]
  refine World.cells?_of_each (Nat.zero_le _) rfl fun i hi => ?_
  have hc := blk_cell hh (j * 4 + i)
  have hjl : j < l.length := (List.getElem?_eq_some_iff.1 hj).1
  have hf := flat_get hj hi
  have e : ((⟨g, 0, none⟩ : Addr).add (j * 4)).add i = ⟨g, j * 4 + i, none⟩ := by
   rw [Addr.add_add]
   cases h : j * 4 + i with
   | zero => rfl
   | succ k => simp [Addr.add]
  rw [e, hc, ← hf, ← htake, List.getElem?_take, if_pos (by omega)]
  simp
abbrev planO (p : PlanS) : Obj := .cells #[.slice p.ma p.mets.length p.mcap, .int .i64 p.r0, .int .i64 p.r1, .int .i64 p.r2, .int .i64 p.r3, .int .i64 p.r4, .slice p.wa p.wins.length p.wcap, .slice p.ca p.crons.length p.ccap, .int .i64 p.locals, .slice p.ga p.guards.length p.gcap, .int .i64 p.fin.op, .int .i64 p.fin.n, .int .i64 p.fin.m, .slice p.fin.at_ p.fin.kids.length p.fin.cap] 49
def flatG (l : List (Cr × Cr)) : List Value := l.flatMap guardCells
theorem flatG_cores (l : List (Cr × Cr)) : flatG l = (l.flatMap fun g => [g.1, g.2]).flatMap Cr.cells := by
 unfold flatG
 induction l with
 | nil => rfl
 | cons g l ih => simp [List.flatMap_cons, ih, guardCells, List.append_assoc]
theorem flat2_len : ∀ l : List (Cr × Cr), (l.flatMap fun g => [g.1, g.2]).length = 2 * l.length
 | [] => rfl
 | a :: l => by rw [List.flatMap_cons, List.length_append, flat2_len l]; simp; omega
theorem flatG_take {l : List (Cr × Cr)} {i : Nat} {x : Cr × Cr} (h : l[i]? = some x) : flatG (l.take (i + 1)) = flatG (l.take i) ++ guardCells x := by
 have hi := (List.getElem?_eq_some_iff.1 h).1
 unfold flatG
 rw [List.take_add_one, h, List.flatMap_append]
 simp
theorem core_info : ∃ i, Tryz.prog.info? 24 = some i ∧ i.zero = some (.agg #[.int .i64 0, .int .i64 0, .int .i64 0, .slice none 0 0]) ∧ i.size = 4 ∧ i.bytes = 48 := by
 have h : (Tryz.prog.info? 24).map (fun i => (i.zero, i.size, i.bytes)) = some (some (.agg #[.int .i64 0, .int .i64 0, .int .i64 0, .slice none 0 0]), 4, 48) := by kernel_rfl
 obtain ⟨i, h1, h2⟩ := Option.map_eq_some_iff.1 h
 simp only [Prod.mk.injEq] at h2
 exact ⟨i, h1, h2⟩
theorem cores_calls {p : PlanS} {w : World} (h : PlanL w p) : Calls Tryz.prog 61 #[.agg #[.slice p.ma p.mets.length p.mcap, .int .i64 p.r0, .int .i64 p.r1, .int .i64 p.r2, .int .i64 p.r3, .int .i64 p.r4, .slice p.wa p.wins.length p.wcap, .slice p.ca p.crons.length p.ccap, .int .i64 p.locals, .slice p.ga p.guards.length p.gcap, .int .i64 p.fin.op, .int .i64 p.fin.n, .int .i64 p.fin.m, .slice p.fin.at_ p.fin.kids.length p.fin.cap]] w fun e w' => (∃ A c, e = .returned (.slice A p.cores.length c) ∧ LiesL w' A 0 p.cores ∧ p.cores.length ≤ c) ∧ Below w.heap.size w w' := by
 obtain ⟨i0, hi, hz0, hz1, hz2⟩ := core_info
 obtain ⟨ma, mcap, mets, r0, r1, r2, r3, r4, wa, wcap, wins, ca, ccap, crons, locals, ga, gcap, gl, fin⟩ := p
 have hgl : gl.length ≤ gcap ∧ gl.length ≤ 1466015503658 := ⟨h.guards.1, h.guards.2.1⟩
 have hg2 := h.guards.2.2.2
 have hg3 : ∀ g ∈ gl, Lies w g.1 ∧ Lies w g.2 := h.guards.2.2.1
 have hfin : Lies w fin := h.fin
 obtain ⟨q, hq⟩ : ∃ q, PlanS.cores ⟨ma, mcap, mets, r0, r1, r2, r3, r4, wa, wcap, wins, ca, ccap, crons, locals, ga, gcap, gl, fin⟩ = q := ⟨_, rfl⟩
 have hqe : q = (gl.flatMap fun g => [g.1, g.2]) ++ [fin] := hq.symm
 have hcore := h.core
 rw [hq] at hcore ⊢
 simp only at hg2
 obtain ⟨w1, e1, b1, k1, s1⟩ := box1 w (.cells #[.slice ma mets.length mcap, .int .i64 r0, .int .i64 r1, .int .i64 r2, .int .i64 r3, .int .i64 r4, .slice wa wins.length wcap, .slice ca crons.length ccap, .int .i64 locals, .slice ga gl.length gcap, .int .i64 fin.op, .int .i64 fin.n, .int .i64 fin.m, .slice fin.at_ fin.kids.length fin.cap] 49)
 have HE := Lib.hid e1
 have B1 := Lib.hid b1
 have HC := Lib.hid fun c hc => (hcore c hc).below b1
 have HQ := Lib.hid hqe
 have HG := Lib.hid (show ArrL w1 ga 8 guardCells gl from hg2.below b1 (by decide))
 have HF := Lib.hid fun (w' : World) (hb : Below w1.heap.size w1 w') => (show _ ∧ _ ∧ _ ∧ _ from ⟨(blk_cell (blk_below k1 hb) 10).trans rfl, (blk_cell (blk_below k1 hb) 11).trans rfl, (blk_cell (blk_below k1 hb) 12).trans rfl, (blk_cell (blk_below k1 hb) 13).trans rfl⟩)
 clear h k1 e1 b1 s1 hg2 hg3 hfin hq hqe hcore
 go_enter Tryz.func61, Tryz.ntmps61
 go_wp2_with fail
 rw [HE.out]
 go_loopg [3, 9] gl.length (fun kq v3 v9 w' => ∃ i : Nat, v9 = .int .i64 i ∧ Aside0 (i + kq = gl.length) ∧ Aside0 (w'.ownsRow w1.heap.size 24 4 v3 (2 * i) (flatG (gl.take i))) ∧ Aside0 (Below w1.heap.size w1 w'))
 case atStart => exact ⟨0, by rfl, ⟨by omega⟩, ⟨World.ownsRow_nil _ _ _ _⟩, ⟨Below.refl _ _⟩⟩
 case round =>
  obtain ⟨i, rfl, hk, hO, hB⟩ := hrel
  have HO := Lib.hid hO.out
  have HB := Lib.hid hB.out
  clear hO hB
  by_cases hin : i < gl.length
  ·obtain ⟨x, hx⟩ : ∃ x, gl[i]? = some x := ⟨_, List.getElem?_eq_getElem hin⟩
   have hA := HG.out.below HB.out (by decide)
   obtain ⟨b, rfl, -⟩ := hA i x hx
   obtain ⟨c0, c1, c2, c3, c4, c5, c6, c7⟩ := guard_at hA hx
   have hlt : (b.add (i * 8)).block < wr.heap.size := World.block_lt_of_cell? wr _ c0
   have q0 := eq_true (show (0 : Int) ≤ (i : Int) by omega)
   have q1 : ((i : Int) < (gl.length : Int)) = True := eq_true (by omega)
   have q2 : (i < gl.length) = True := eq_true hin
   have n0 : ¬ (b.add (i * 8)).block = wr.heap.size := by omega
   have n1 : ¬ wr.heap.size = (b.add (i * 8)).block := by omega
   have hlen : 2 * i + 2 ≤ 1466015503658 * 2 := by omega
   have HX := Lib.hid hx
   clear hA hx
   have hc1 := cells_new (wr.alloc (.cells #[.int .i64 x.1.op, .int .i64 x.1.n, .int .i64 x.1.m, .slice x.1.at_ x.1.kids.length x.1.cap, .int .i64 x.2.op, .int .i64 x.2.n, .int .i64 x.2.m, .slice x.2.at_ x.2.kids.length x.2.cap] 89)) [.int .i64 x.1.op, .int .i64 x.1.n, .int .i64 x.1.m, .slice x.1.at_ x.1.kids.length x.1.cap, .int .i64 x.2.op, .int .i64 x.2.n, .int .i64 x.2.m, .slice x.2.at_ x.2.kids.length x.2.cap] 24
   rw [World.size_alloc] at hc1
   have HC1 := Lib.hid hc1
   have hb1 := HB.out.size
   clear hc1
   go_wp2_with (first
    | (
     at_builtin
     refine wpList_append_own_at _ rfl _ _ 22 rfl w1.heap.size 24 i0 (.agg #[.int .i64 0, .int .i64 0, .int .i64 0, .slice none 0 0]) 4 48 Tryz.underlying22 hi hz0 hz1 hz2 rfl (by decide) _ _ _ rfl ((HO.out.alloc _).alloc _) ⟨wr.heap.size + 1, 0, none⟩ 2 2 [.int .i64 x.1.op, .int .i64 x.1.n, .int .i64 x.1.m, .slice x.1.at_ x.1.kids.length x.1.cap, .int .i64 x.2.op, .int .i64 x.2.n, .int .i64 x.2.m, .slice x.2.at_ x.2.kids.length x.2.cap] rfl rfl HC1.out (fun u hu => by simp only [List.mem_cons, List.not_mem_nil, or_false] at hu; rcases hu with rfl | rfl | rfl | rfl | rfl | rfl | rfl | rfl <;> rfl) (by simp only [maxLen]; omega) (by omega) (by simp; omega) ?_
     intro v' w3 hown' hgrow' hnil' hat'
     have X : Aside (w3.ownsRow w1.heap.size 24 4 v' (2 * (i + 1)) (flatG (gl.take (i + 1))) ∧ Below w1.heap.size w1 w3) := ⟨by rw [flatG_take HX.out]; exact hown', Below.grown ((HB.out.alloc hb1 _).alloc (by simp; omega) _) hgrow' (by simp; omega) (fun j hj => by
      rcases HO.out.2 with ⟨rfl, -⟩ | ⟨g, cap, cur, rfl, hg, -⟩
      ·cases hj
      ·cases hj; exact hg)⟩
     clear hown' hgrow' hnil' hat'))
   go_roundg (gk - 1)
   case measure => have := hk.out; omega
   case rel => exact ⟨i + 1, by rfl, ⟨by have := hk.out; omega⟩, ⟨X.out.1⟩, ⟨X.out.2⟩⟩
  ·have hie : i = gl.length := by have := hk.out; omega
   have q1 : ((i : Int) < (gl.length : Int)) = False := eq_false (by omega)
   have q2 : (i < gl.length) = False := eq_false hin
   have hO2 := HO.out
   rw [hie, List.take_length] at hO2
   have HO2 := Lib.hid hO2
   obtain ⟨f0, f1, f2, f3⟩ := HF.out wr HB.out
   have hb1 := HB.out.size
   have hlt : w.heap.size < wr.heap.size := World.block_lt_of_cell? wr _ f0
   have n0 : ¬ w.heap.size = wr.heap.size := by omega
   have n1 : ¬ wr.heap.size = w.heap.size := by omega
   have HC1 := Lib.hid (cells_new wr [.int .i64 fin.op, .int .i64 fin.n, .int .i64 fin.m, .slice fin.at_ fin.kids.length fin.cap] 24)
   clear hO2
   go_wp2_with (first
    | (
     at_builtin
     refine wpList_append_own_at _ rfl _ _ 22 rfl w1.heap.size 24 i0 (.agg #[.int .i64 0, .int .i64 0, .int .i64 0, .slice none 0 0]) 4 48 Tryz.underlying22 hi hz0 hz1 hz2 rfl (by decide) _ _ _ rfl (HO2.out.alloc _) ⟨wr.heap.size, 0, none⟩ 1 1 [.int .i64 fin.op, .int .i64 fin.n, .int .i64 fin.m, .slice fin.at_ fin.kids.length fin.cap] rfl rfl HC1.out (fun u hu => by simp only [List.mem_cons, List.not_mem_nil, or_false] at hu; rcases hu with rfl | rfl | rfl | rfl <;> rfl) (by simp only [maxLen]; omega) (by omega) (by simp; omega) ?_
     intro v' w3 hown' hgrow' hnil' hat'
     have X : Aside (w3.ownsRow w1.heap.size 24 4 v' q.length (q.flatMap Cr.cells) ∧ Below w1.heap.size w1 w3) := ⟨by
      rw [HQ.out]
      have e1 : ((gl.flatMap fun g => [g.1, g.2]) ++ [fin]).length = 2 * gl.length + 1 := by
       rw [List.length_append, flat2_len]
       rfl
      rw [e1, List.flatMap_append, ← flatG_cores]
      simpa [Cr.cells] using hown', Below.grown (HB.out.alloc hb1 _) hgrow' (by simp; omega) (fun j hj => by
      rcases HO2.out.2 with ⟨rfl, -⟩ | ⟨g, cap, cur, rfl, hg, -⟩
      ·cases hj
      ·cases hj; exact hg)⟩
     clear hown' hgrow' hnil' hat'))
   go_ret
   have hne : q ≠ [] := by rw [HQ.out]; simp
   obtain ⟨g, cap, rfl, hg, hcap, hl⟩ := own_lies X.out.1 (fun c hc => (HC.out c hc).below X.out.2) hne
   exact ⟨⟨_, _, rfl, hl, hcap⟩, B1.out.trans (X.out.2.mono B1.out.size)⟩
end Go.Proofs.YtpljkcakijkklaaGreatDoor

end
section
namespace Go.Proofs.YtpljkcakijkklaaGreatDoor
set_option linter.unusedVariables false
set_option linter.unusedSimpArgs false
open Go.RowKit Go.Proofs.YtpljkcakijkklaaGreatDoorW.PrintWords Go.Proofs.YtpljkcakijkklaaGreatDoorW.PrintLast Go.Proofs.YtpljkcakijkklaaGreatDoorW.PrintMore

theorem rcores_new {p : PlanS} {w : World} (h : PlanL w p) : Calls Tryz.prog 33 #[.agg #[.slice p.ma p.mets.length p.mcap, .int .i64 p.r0, .int .i64 p.r1, .int .i64 p.r2, .int .i64 p.r3, .int .i64 p.r4, .slice p.wa p.wins.length p.wcap, .slice p.ca p.crons.length p.ccap, .int .i64 p.locals, .slice p.ga p.guards.length p.gcap, .int .i64 p.fin.op, .int .i64 p.fin.n, .int .i64 p.fin.m, .slice p.fin.at_ p.fin.kids.length p.fin.cap]] w fun e w' => (∃ A c, e = .returned (.slice A p.cores.length c) ∧ LiesL w' A 0 p.cores ∧ p.cores.length ≤ c ∧ ∀ q, A = some q → w.heap.size ≤ q.block) ∧ Below w.heap.size w w' := by
 obtain ⟨i0, hi, hz0, hz1, hz2⟩ := core_info
 obtain ⟨ma, mcap, mets, r0, r1, r2, r3, r4, wa, wcap, wins, ca, ccap, crons, locals, ga, gcap, gl, fin⟩ := p
 have hgl : gl.length ≤ gcap ∧ gl.length ≤ 1466015503658 := ⟨h.guards.1, h.guards.2.1⟩
 have hg2 := h.guards.2.2.2
 have hg3 : ∀ g ∈ gl, Lies w g.1 ∧ Lies w g.2 := h.guards.2.2.1
 have hfin : Lies w fin := h.fin
 obtain ⟨q, hq⟩ : ∃ q, PlanS.cores ⟨ma, mcap, mets, r0, r1, r2, r3, r4, wa, wcap, wins, ca, ccap, crons, locals, ga, gcap, gl, fin⟩ = q := ⟨_, rfl⟩
 have hqe : q = (gl.flatMap fun g => [g.1, g.2]) ++ [fin] := hq.symm
 have hcore := h.core
 rw [hq] at hcore ⊢
 simp only at hg2
 obtain ⟨w1, e1, b1, k1, s1⟩ := box1 w (.cells #[.slice ma mets.length mcap, .int .i64 r0, .int .i64 r1, .int .i64 r2, .int .i64 r3, .int .i64 r4, .slice wa wins.length wcap, .slice ca crons.length ccap, .int .i64 locals, .slice ga gl.length gcap, .int .i64 fin.op, .int .i64 fin.n, .int .i64 fin.m, .slice fin.at_ fin.kids.length fin.cap] 49)
 have HE := Lib.hid e1
 have B1 := Lib.hid b1
 have HC := Lib.hid fun c hc => (hcore c hc).below b1
 have HQ := Lib.hid hqe
 have HG := Lib.hid (show ArrL w1 ga 8 guardCells gl from hg2.below b1 (by decide))
 have HF := Lib.hid fun (w' : World) (hb : Below w1.heap.size w1 w') => (show _ ∧ _ ∧ _ ∧ _ ∧ _ from ⟨(blk_cell (blk_below k1 hb) 9).trans rfl, (blk_cell (blk_below k1 hb) 10).trans rfl, (blk_cell (blk_below k1 hb) 11).trans rfl, (blk_cell (blk_below k1 hb) 12).trans rfl, (blk_cell (blk_below k1 hb) 13).trans rfl⟩)
 clear h k1 e1 b1 s1 hg2 hg3 hfin hq hqe hcore
 go_enter Tryz.func33, Tryz.ntmps33
 go_wp2_with fail
 rw [HE.out]
 go_loopg [3, 4] gl.length (fun kq v3 v9 w' => ∃ i : Nat, v9 = .int .i64 i ∧ Aside0 (i + kq = gl.length) ∧ Aside0 (w'.ownsRow w1.heap.size 24 4 v3 (2 * i) (flatG (gl.take i))) ∧ Aside0 (Below w1.heap.size w1 w'))
 case atStart => exact ⟨0, by rfl, ⟨by omega⟩, ⟨World.ownsRow_nil _ _ _ _⟩, ⟨Below.refl _ _⟩⟩
 case round =>
  obtain ⟨i, rfl, hk, hO, hB⟩ := hrel
  have HO := Lib.hid hO.out
  have HB := Lib.hid hB.out
  clear hO hB
  by_cases hin : i < gl.length
  ·obtain ⟨x, hx⟩ : ∃ x, gl[i]? = some x := ⟨_, List.getElem?_eq_getElem hin⟩
   have hA := HG.out.below HB.out (by decide)
   obtain ⟨b, rfl, -⟩ := hA i x hx
   obtain ⟨c0, c1, c2, c3, c4, c5, c6, c7⟩ := guard_at hA hx
   have hlt : (b.add (i * 8)).block < wr.heap.size := World.block_lt_of_cell? wr _ c0
   have q0 := eq_true (show (0 : Int) ≤ (i : Int) by omega)
   have q1 : ((i : Int) < (gl.length : Int)) = True := eq_true (by omega)
   have q2 : (i < gl.length) = True := eq_true hin
   have n0 : ¬ (b.add (i * 8)).block = wr.heap.size := by omega
   have n1 : ¬ wr.heap.size = (b.add (i * 8)).block := by omega
   have hlen : 2 * i + 2 ≤ 1466015503658 * 2 := by omega
   have HX := Lib.hid hx
   obtain ⟨fg, -⟩ := HF.out wr HB.out
   have hlg : w.heap.size < wr.heap.size := World.block_lt_of_cell? wr _ fg
   have m0 : ¬ w.heap.size = wr.heap.size := by omega
   have m1 : ¬ wr.heap.size = w.heap.size := by omega
   have HC1 := Lib.hid (cells_new wr [.int .i64 x.1.op, .int .i64 x.1.n, .int .i64 x.1.m, .slice x.1.at_ x.1.kids.length x.1.cap] 24)
   have HC2 := Lib.hid fun w3 : World => cells_new w3 [.int .i64 x.2.op, .int .i64 x.2.n, .int .i64 x.2.m, .slice x.2.at_ x.2.kids.length x.2.cap] 24
   have hb1 := HB.out.size
   clear hA hx
   go_wp2_with (first
    | (
     at_builtin
     refine wpList_append_own_at _ rfl _ _ 22 rfl w1.heap.size 24 i0 (.agg #[.int .i64 0, .int .i64 0, .int .i64 0, .slice none 0 0]) 4 48 Tryz.underlying22 hi hz0 hz1 hz2 rfl (by decide) _ _ _ rfl (HO.out.alloc _) ⟨wr.heap.size, 0, none⟩ 1 1 [.int .i64 x.1.op, .int .i64 x.1.n, .int .i64 x.1.m, .slice x.1.at_ x.1.kids.length x.1.cap] rfl rfl HC1.out (fun u hu => by simp only [List.mem_cons, List.not_mem_nil, or_false] at hu; rcases hu with rfl | rfl | rfl | rfl <;> rfl) (by simp only [maxLen]; omega) (by omega) (by simp; omega) ?_
     intro v3 w3 hown' hgrow' hnil' hat'
     have Y : Aside0 (w3.ownsRow w1.heap.size 24 4 v3 (2 * i + 1) (flatG (gl.take i) ++ [.int .i64 x.1.op, .int .i64 x.1.n, .int .i64 x.1.m, .slice x.1.at_ x.1.kids.length x.1.cap])) := ⟨hown'⟩
     have Z : Aside0 (Below w1.heap.size w1 w3) := ⟨Below.grown (HB.out.alloc hb1 _) hgrow' (by simp; omega) (fun j hj => by
      rcases HO.out.2 with ⟨rfl, -⟩ | ⟨g, cap, cur, rfl, hg, -⟩
      ·cases hj
      ·cases hj; exact hg)⟩
     obtain ⟨d0, d1, d2, d3, d4, d5, d6, d7⟩ := guard_at (HG.out.below Z.out (by decide)) HX.out
     obtain ⟨dg, -⟩ := HF.out w3 Z.out
     have hlt3 : (b.add (i * 8)).block < w3.heap.size := World.block_lt_of_cell? w3 _ d0
     have hlg3 : w.heap.size < w3.heap.size := World.block_lt_of_cell? w3 _ dg
     have n3 : ¬ (b.add (i * 8)).block = w3.heap.size := by omega
     have n4 : ¬ w3.heap.size = (b.add (i * 8)).block := by omega
     have m3 : ¬ w.heap.size = w3.heap.size := by omega
     have m4 : ¬ w3.heap.size = w.heap.size := by omega
     have hb3 := Z.out.size
     clear hown' hgrow' hnil' hat' c0 c1 c2 c3 c4 c5 c6 c7 fg hlg m0 m1 n0 n1 hlt)
    | (
     at_builtin
     refine wpList_append_own_at _ rfl _ _ 22 rfl w1.heap.size 24 i0 (.agg #[.int .i64 0, .int .i64 0, .int .i64 0, .slice none 0 0]) 4 48 Tryz.underlying22 hi hz0 hz1 hz2 rfl (by decide) _ _ _ rfl (Y.out.alloc _) ⟨w3.heap.size, 0, none⟩ 1 1 [.int .i64 x.2.op, .int .i64 x.2.n, .int .i64 x.2.m, .slice x.2.at_ x.2.kids.length x.2.cap] rfl rfl (HC2.out w3) (fun u hu => by simp only [List.mem_cons, List.not_mem_nil, or_false] at hu; rcases hu with rfl | rfl | rfl | rfl <;> rfl) (by simp only [maxLen]; omega) (by omega) (by simp; omega) ?_
     intro v5 w5 hown' hgrow' hnil' hat'
     have X : Aside (w5.ownsRow w1.heap.size 24 4 v5 (2 * (i + 1)) (flatG (gl.take (i + 1))) ∧ Below w1.heap.size w1 w5) := ⟨by rw [flatG_take HX.out]; rw [List.append_assoc] at hown'; exact hown', Below.grown (Z.out.alloc hb3 _) hgrow' (by simp; omega) (fun j hj => by
      rcases Y.out.2 with ⟨rfl, -⟩ | ⟨g, cap, cur, rfl, hg, -⟩
      ·cases hj
      ·cases hj; exact hg)⟩
     clear hown' hgrow' hnil' hat'))
   go_roundg (gk - 1)
   case measure => have := hk.out; omega
   case rel => exact ⟨i + 1, by rfl, ⟨by have := hk.out; omega⟩, ⟨X.out.1⟩, ⟨X.out.2⟩⟩
  ·have hie : i = gl.length := by have := hk.out; omega
   have q1 : ((i : Int) < (gl.length : Int)) = False := eq_false (by omega)
   have q2 : (i < gl.length) = False := eq_false hin
   have hO2 := HO.out
   rw [hie, List.take_length] at hO2
   have HO2 := Lib.hid hO2
   obtain ⟨fg, f0, f1, f2, f3⟩ := HF.out wr HB.out
   have hb1 := HB.out.size
   have hlt : w.heap.size < wr.heap.size := World.block_lt_of_cell? wr _ f0
   have n0 : ¬ w.heap.size = wr.heap.size := by omega
   have n1 : ¬ wr.heap.size = w.heap.size := by omega
   have HC1 := Lib.hid (cells_new wr [.int .i64 fin.op, .int .i64 fin.n, .int .i64 fin.m, .slice fin.at_ fin.kids.length fin.cap] 24)
   clear hO2
   go_wp2_with (first
    | (
     at_builtin
     refine wpList_append_own_at _ rfl _ _ 22 rfl w1.heap.size 24 i0 (.agg #[.int .i64 0, .int .i64 0, .int .i64 0, .slice none 0 0]) 4 48 Tryz.underlying22 hi hz0 hz1 hz2 rfl (by decide) _ _ _ rfl (HO2.out.alloc _) ⟨wr.heap.size, 0, none⟩ 1 1 [.int .i64 fin.op, .int .i64 fin.n, .int .i64 fin.m, .slice fin.at_ fin.kids.length fin.cap] rfl rfl HC1.out (fun u hu => by simp only [List.mem_cons, List.not_mem_nil, or_false] at hu; rcases hu with rfl | rfl | rfl | rfl <;> rfl) (by simp only [maxLen]; omega) (by omega) (by simp; omega) ?_
     intro v' w3 hown' hgrow' hnil' hat'
     have X : Aside (w3.ownsRow w1.heap.size 24 4 v' q.length (q.flatMap Cr.cells) ∧ Below w1.heap.size w1 w3) := ⟨by
      rw [HQ.out]
      have e1 : ((gl.flatMap fun g => [g.1, g.2]) ++ [fin]).length = 2 * gl.length + 1 := by
       rw [List.length_append, flat2_len]
       rfl
      rw [e1, List.flatMap_append, ← flatG_cores]
      simpa [Cr.cells] using hown', Below.grown (HB.out.alloc hb1 _) hgrow' (by simp; omega) (fun j hj => by
      rcases HO2.out.2 with ⟨rfl, -⟩ | ⟨g, cap, cur, rfl, hg, -⟩
      ·cases hj
      ·cases hj; exact hg)⟩
     clear hown' hgrow' hnil' hat'))
   go_ret
   have hne : q ≠ [] := by rw [HQ.out]; simp
   obtain ⟨g, cap, rfl, hg, hcap, hl⟩ := own_lies X.out.1 (fun c hc => (HC.out c hc).below X.out.2) hne
   exact ⟨⟨_, _, rfl, hl, hcap, fun q e => by cases e; exact Nat.le_trans B1.out.size hg⟩, B1.out.trans (X.out.2.mono B1.out.size)⟩
theorem rcores_calls {p : PlanS} {w : World} (h : PlanL w p) : Calls Tryz.prog 33 #[.agg #[.slice p.ma p.mets.length p.mcap, .int .i64 p.r0, .int .i64 p.r1, .int .i64 p.r2, .int .i64 p.r3, .int .i64 p.r4, .slice p.wa p.wins.length p.wcap, .slice p.ca p.crons.length p.ccap, .int .i64 p.locals, .slice p.ga p.guards.length p.gcap, .int .i64 p.fin.op, .int .i64 p.fin.n, .int .i64 p.fin.m, .slice p.fin.at_ p.fin.kids.length p.fin.cap]] w fun e w' => (∃ A c, e = .returned (.slice A p.cores.length c) ∧ LiesL w' A 0 p.cores ∧ p.cores.length ≤ c) ∧ Below w.heap.size w w' :=
 (rcores_new h).mono fun e w' hx => by
  obtain ⟨⟨A, c, h1, h2, h3, -⟩, h4⟩ := hx
  exact ⟨⟨A, c, h1, h2, h3⟩, h4⟩
end Go.Proofs.YtpljkcakijkklaaGreatDoor

end
section
namespace Go.Proofs.YtpljkcakijkklaaGreatDoor
set_option linter.unusedVariables false
set_option linter.unusedSimpArgs false
open Go.RowKit Go.Proofs.YtpljkcakijkklaaGreatDoorW.PrintWords Go.Proofs.YtpljkcakijkklaaGreatDoorW.PrintLast Go.Proofs.YtpljkcakijkklaaGreatDoorW.PrintMore

theorem cores_len {w : World} {p : PlanS} (h : PlanL w p) : p.cores.length ≤ 2932031007317 := by
 unfold PlanS.cores
 rw [List.length_append, flat2_len]
 have := h.guards.1
 have := h.guards.2.1
 simp only [List.length_cons, List.length_nil]
 omega
theorem csmall_calls {p : PlanS} {w : World} (h : PlanL w p) {bb : Bool} (hb : decide (totalL p.cores ≤ 4096) = bb) : Calls Tryz.prog 34 #[.agg #[.slice p.ma p.mets.length p.mcap, .int .i64 p.r0, .int .i64 p.r1, .int .i64 p.r2, .int .i64 p.r3, .int .i64 p.r4, .slice p.wa p.wins.length p.wcap, .slice p.ca p.crons.length p.ccap, .int .i64 p.locals, .slice p.ga p.guards.length p.gcap, .int .i64 p.fin.op, .int .i64 p.fin.n, .int .i64 p.fin.m, .slice p.fin.at_ p.fin.kids.length p.fin.cap]] w fun e w' => e = .returned (.bool bb) ∧ Below w.heap.size w w' := by
 obtain ⟨w1, e1, b1, k1, s1⟩ := box1 w (.cells #[.slice p.ma p.mets.length p.mcap, .int .i64 p.r0, .int .i64 p.r1, .int .i64 p.r2, .int .i64 p.r3, .int .i64 p.r4, .slice p.wa p.wins.length p.wcap, .slice p.ca p.crons.length p.ccap, .int .i64 p.locals, .slice p.ga p.guards.length p.gcap, .int .i64 p.fin.op, .int .i64 p.fin.n, .int .i64 p.fin.m, .slice p.fin.at_ p.fin.kids.length p.fin.cap] 49)
 have hlen := cores_len h
 have HE := Lib.hid e1
 have B1 := Lib.hid b1
 have HS := Lib.hid (cores_calls (h.below b1))
 obtain ⟨l, hl⟩ : ∃ l, p.cores = l := ⟨_, rfl⟩
 rw [hl] at HS hb hlen
 have HBB := Lib.hid hb
 clear h k1 e1 b1 s1 hl hb
 go_enter Tryz.func34, Tryz.ntmps34
 go_wp2_with fail
 rw [HE.out]
 refine HS.out.mono ?_
 rintro e w2 ⟨⟨A, c, rfl, hL, hc⟩, b2⟩
 have HL := Lib.hid hL
 have B2 := Lib.hid (B1.out.trans (b2.mono B1.out.size))
 obtain ⟨len, hln⟩ : ∃ n, l.length = n := ⟨_, rfl⟩
 have HN := Lib.hid hln
 rw [hln] at hlen ⊢
 clear hL b2 hc HS hln
 go_wp2_with fail
 go_loopg [3, 9] len (fun gg v3 v9 wr => ∃ (i k : Nat), v3 = .int .i64 k ∧ v9 = .int .i64 i ∧ Aside0 (i + gg = len ∧ k ≤ 4096 ∧ k = totalL (l.take i)) ∧ Aside0 (Below w2.heap.size w2 wr))
 case atStart => exact ⟨0, 0, rfl, rfl, ⟨by omega, by decide, by rw [List.take_zero, totalL]⟩, ⟨Below.refl _ _⟩⟩
 case round =>
  obtain ⟨i, k, rfl, rfl, hi, BW⟩ := hrel
  have HI := Lib.hid hi.out
  have HB := Lib.hid BW.out
  clear hi BW
  by_cases hlt : i < len
  ·obtain ⟨y, hy⟩ : ∃ y, l[i]? = some y := ⟨_, List.getElem?_eq_getElem (by rw [HN.out]; exact hlt)⟩
   obtain ⟨b, rfl, hblk, c0, c1, c2, c3⟩ := HL.out.cellsB HB.out hy
   have HY := Lib.hid hy
   have HYL := Lib.hid (LiesL.lies HL.out (List.mem_of_getElem? hy))
   have hb2 := HB.out.size
   have q0 := eq_true (show (0 : Int) ≤ (i : Int) by omega)
   have q1 : ((i : Int) < (len : Int)) = True := eq_true (by omega)
   have q2 : (i < len) = True := eq_true hlt
   have HLT := Lib.hid hlt
   have BA := Lib.hid (below_alloc HB.out (.cells #[.int .i64 y.op, .int .i64 y.n, .int .i64 y.m, .slice y.at_ y.kids.length y.cap] 24))
   obtain ⟨t, ht⟩ : ∃ t, min y.total 4097 = t := ⟨_, rfl⟩
   obtain ⟨k2, hk2⟩ : ∃ k2, k + t = k2 := ⟨_, rfl⟩
   have HTT := Lib.hid ht
   have HKK := Lib.hid hk2
   have w4 : wrap64 ((k : Int) + (t : Int)) = (k2 : Int) := by have := HI.out; unfold wrap64; omega
   have w5 : wrap64 ((i : Int) + 1) = ((i + 1 : Nat) : Int) := by unfold wrap64; omega
   clear hy hlt ht hk2
   go_wp2_with fail
   refine (Nodes_calls (HYL.out.below BA.out)).mono ?_
   rintro e w7 ⟨rfl, b7⟩
   rw [HTT.out]
   have B7 := Lib.hid (BA.out.trans (b7.mono BA.out.size))
   clear b7 c0 c1 c2 c3 hblk
   by_cases hbig : k2 ≤ 4096
   ·have q3 : ((4096 : Int) < (k2 : Int)) = False := eq_false (by omega)
    have q4 : (4096 < k2) = False := eq_false (by omega)
    have HBG := Lib.hid hbig
    clear hbig
    go_wp2_with fail
    go_roundg (gk - 1)
    case measure => clear w4 w5; have := HI.out; have := HLT.out; omega
    case rel => exact ⟨i + 1, k2, by first | rfl | simp [w4], by first | rfl | simp [w5], ⟨by clear w4 w5; have := HI.out; have := HLT.out; omega, HBG.out, by
     clear w4 w5
     have h1 := HI.out.2.2
     have h2 := totalL_take HY.out
     have h3 := HTT.out
     have h4 := HKK.out
     have h5 := HBG.out
     omega⟩, ⟨B7.out⟩⟩
   ·have q3 : ((4096 : Int) < (k2 : Int)) = True := eq_true (by omega)
    have q4 : (4096 < k2) = True := eq_true (by omega)
    have hres : bb = false := by
     clear w4 w5 q0 q1 q2 q3 q4
     rw [← HBB.out, decide_eq_false_iff_not]
     have h1 := HI.out.2.2
     have h2 := totalL_take HY.out
     have h3 := HTT.out
     have h4 := HKK.out
     have h5 := totalL_take_le l (i + 1)
     omega
    have HRES := Lib.hid hres
    clear hbig hres
    go_wp2_with fail
    go_ret
    exact ⟨by rw [HRES.out]; first | done | rfl | simp, B2.out.trans (B7.out.mono B2.out.size)⟩
  ·have q1 : ((i : Int) < (len : Int)) = False := eq_false (by omega)
   have q2 : (i < len) = False := eq_false hlt
   have hres : bb = true := by
    rw [← HBB.out, decide_eq_true_iff]
    have h1 := HI.out
    have h2 := HN.out
    rw [List.take_of_length_le (by omega)] at h1
    omega
   have HRES := Lib.hid hres
   clear hlt hres
   go_wp2_with fail
   go_ret
   exact ⟨by rw [HRES.out]; first | done | rfl | simp, B2.out.trans (HB.out.mono B2.out.size)⟩
theorem few_calls {p : PlanS} {w : World} (h : PlanL w p) : Calls Tryz.prog 12 #[.agg #[.slice p.ma p.mets.length p.mcap, .int .i64 p.r0, .int .i64 p.r1, .int .i64 p.r2, .int .i64 p.r3, .int .i64 p.r4, .slice p.wa p.wins.length p.wcap, .slice p.ca p.crons.length p.ccap, .int .i64 p.locals, .slice p.ga p.guards.length p.gcap, .int .i64 p.fin.op, .int .i64 p.fin.n, .int .i64 p.fin.m, .slice p.fin.at_ p.fin.kids.length p.fin.cap]] w fun e w' => (∃ b, e = .returned (.bool b)) ∧ Below w.heap.size w w' := by
 obtain ⟨w1, e1, b1, k1, s1⟩ := box1 w (.cells #[.slice p.ma p.mets.length p.mcap, .int .i64 p.r0, .int .i64 p.r1, .int .i64 p.r2, .int .i64 p.r3, .int .i64 p.r4, .slice p.wa p.wins.length p.wcap, .slice p.ca p.crons.length p.ccap, .int .i64 p.locals, .slice p.ga p.guards.length p.gcap, .int .i64 p.fin.op, .int .i64 p.fin.n, .int .i64 p.fin.m, .slice p.fin.at_ p.fin.kids.length p.fin.cap] 49)
 have hlen := cores_len h
 have HE := Lib.hid e1
 have B1 := Lib.hid b1
 have HS := Lib.hid (rcores_calls (h.below b1))
 obtain ⟨l, hl⟩ : ∃ l, p.cores = l := ⟨_, rfl⟩
 rw [hl] at HS hlen
 clear h k1 e1 b1 s1 hl
 go_enter Tryz.func12, Tryz.ntmps12
 go_wp2_with fail
 rw [HE.out]
 refine HS.out.mono ?_
 rintro e w2 ⟨⟨A, c, rfl, hL, hc⟩, b2⟩
 have HL := Lib.hid hL
 have B2 := Lib.hid (B1.out.trans (b2.mono B1.out.size))
 obtain ⟨len, hln⟩ : ∃ n, l.length = n := ⟨_, rfl⟩
 have HN := Lib.hid hln
 rw [hln] at hlen ⊢
 clear hL b2 hc HS hln
 go_wp2_with fail
 go_loopg [4, 5] len (fun gg v4 v5 wr => ∃ (i k : Nat), v4 = .int .i64 k ∧ v5 = .int .i64 i ∧ Aside0 (i + gg = len ∧ k ≤ 8193) ∧ Aside0 (Below w2.heap.size w2 wr))
 case atStart => exact ⟨0, 0, rfl, rfl, ⟨by omega, by decide⟩, ⟨Below.refl _ _⟩⟩
 case round =>
  obtain ⟨i, k, rfl, rfl, hi, BW⟩ := hrel
  have HI := Lib.hid hi.out
  have HB := Lib.hid BW.out
  clear hi BW
  by_cases hend : i < len ∧ k ≤ 4096
  ·obtain ⟨hlt, hk⟩ := hend
   obtain ⟨y, hy⟩ : ∃ y, l[i]? = some y := ⟨_, List.getElem?_eq_getElem (by rw [HN.out]; exact hlt)⟩
   obtain ⟨b, rfl, hblk, c0, c1, c2, c3⟩ := HL.out.cellsB HB.out hy
   have HYL := Lib.hid (LiesL.lies HL.out (List.mem_of_getElem? hy))
   have q0 := eq_true (show (0 : Int) ≤ (i : Int) by omega)
   have q1 : ((i : Int) < (len : Int)) = True := eq_true (by omega)
   have q2 : (i < len) = True := eq_true hlt
   have q3 : ((k : Int) ≤ 4096) = True := eq_true (by omega)
   have q4 : (k ≤ 4096) = True := eq_true hk
   have HLT := Lib.hid (And.intro hlt hk)
   obtain ⟨t, ht⟩ : ∃ t, min y.total 4097 = t := ⟨_, rfl⟩
   obtain ⟨k2, hk2⟩ : ∃ k2, k + t = k2 := ⟨_, rfl⟩
   have HK2 := Lib.hid (show k2 ≤ 8193 by omega)
   have HTT := Lib.hid ht
   have w4 : wrap64 ((k : Int) + (t : Int)) = (k2 : Int) := by unfold wrap64; omega
   have w5 : wrap64 ((i : Int) + 1) = ((i + 1 : Nat) : Int) := by unfold wrap64; omega
   clear hy hlt hk ht hk2
   go_wp2_with fail
   refine (rNodes_calls y _ (HYL.out.below HB.out)).mono ?_
   rintro e w7 ⟨rfl, b7⟩
   rw [HTT.out]
   have B7 := Lib.hid (HB.out.trans (b7.mono HB.out.size))
   clear b7 c0 c1 c2 c3 hblk
   go_wp2_with fail
   go_roundg (gk - 1)
   case measure => clear w4 w5; have := HI.out; have := HLT.out; omega
   case rel => exact ⟨i + 1, k2, by first | rfl | simp [w4], by first | rfl | simp [w5], ⟨by clear w4 w5; have := HI.out; have := HLT.out; omega, HK2.out⟩, ⟨B7.out⟩⟩
  ·have HEND := Lib.hid hend
   by_cases hlt : i < len
   ·have hk : ¬ k ≤ 4096 := fun hk => hend ⟨hlt, hk⟩
    have q1 : ((i : Int) < (len : Int)) = True := eq_true (by omega)
    have q2 : (i < len) = True := eq_true hlt
    have q3 : ((k : Int) ≤ 4096) = False := eq_false (by omega)
    have q4 : (k ≤ 4096) = False := eq_false hk
    clear hend hlt hk
    go_wp2_with fail
    go_ret
    exact ⟨⟨_, rfl⟩, B2.out.trans (HB.out.mono B2.out.size)⟩
   ·have q1 : ((i : Int) < (len : Int)) = False := eq_false (by omega)
    have q2 : (i < len) = False := eq_false hlt
    clear hend hlt
    go_wp2_with fail
    go_ret
    exact ⟨⟨_, rfl⟩, B2.out.trans (HB.out.mono B2.out.size)⟩
end Go.Proofs.YtpljkcakijkklaaGreatDoor

end
