/-
  Texts of this seat, joined, less what CoreCopies does not lean on: EnvArg, Plan, Cores, Copied, Rcores, Small.
-/
import Derived.Test.YtpljkcakijkklaaDoorQCoreCopies12
import Derived.Test.YtpljkcakijkklaaDoorQCoreCopies17
import Derived.Test.YtpljkcakijkklaaDoorQCoreCopies11
set_option linter.unusedVariables false
set_option linter.unusedSimpArgs false
set_option maxHeartbeats 8000000
set_option maxRecDepth 100000
section
namespace Go.Proofs.YtpljkcakijkklaaDoor
set_option linter.unusedVariables false
set_option linter.unusedSimpArgs false
open Go.RowKit
theorem r64_of_wf {n : Int} (h : (Lit.int .i64 n).wf = true) : R64 n := i64_of_wf h
theorem reach_le : reachBytes ≤ 140737488351232 := by first | exact Nat.le_refl _ | decide
set_option maxRecDepth 100000
end Go.Proofs.YtpljkcakijkklaaDoor

end
section
namespace Go.Proofs.YtpljkcakijkklaaDoor
set_option linter.unusedVariables false
set_option linter.unusedSimpArgs false
open Go.RowKit

def ArrL (w : World) (a : Option Addr) (sz : Nat) {α : Type} (c : α → List Value) (l : List α) : Prop := ∀ i x, l[i]? = some x → ∃ b, a = some b ∧ w.cells? 0 (b.add (i * sz)) sz = some (c x)
theorem ArrL.below {w w' : World} {a : Option Addr} {sz : Nat} {α : Type} {c : α → List Value} {l : List α} (h : ArrL w a sz c l) (hb : Below w.heap.size w w') (hz : 0 < sz) : ArrL w' a sz c l := fun i x hx => by
 obtain ⟨b, h1, h2⟩ := h i x hx
 exact ⟨b, h1, below_cells hb h2 hz⟩
structure WinP where
 met : Int
 agg : Int
 span : Int
 rank : Int
def WinP.cells (x : WinP) : List Value := [.int .i64 x.met, .int .i64 x.agg, .int .i64 x.span, .int .i64 x.rank]
def WinP.ok (x : WinP) : Prop := R64 x.met ∧ R64 x.agg ∧ R64 x.span ∧ R64 x.rank
structure CronP where
 f0 : Int
 f1 : Int
 f2 : Int
 f3 : Int
 f4 : Int
def U64 (x : Int) : Prop := 0 ≤ x ∧ x ≤ 18446744073709551615
def CronP.cells (x : CronP) : List Value := [.int .u64 x.f0, .int .u64 x.f1, .int .u64 x.f2, .int .u64 x.f3, .int .u64 x.f4]
def CronP.ok (x : CronP) : Prop := U64 x.f0 ∧ U64 x.f1 ∧ U64 x.f2 ∧ U64 x.f3 ∧ U64 x.f4
structure PlanS where
 ma : Option Addr
 mcap : Nat
 mets : List ByteArray
 r0 : Int
 r1 : Int
 r2 : Int
 r3 : Int
 r4 : Int
 wa : Option Addr
 wcap : Nat
 wins : List WinP
 ca : Option Addr
 ccap : Nat
 crons : List CronP
 locals : Int
 ga : Option Addr
 gcap : Nat
 guards : List (Cr × Cr)
 fin : Cr
def guardCells (g : Cr × Cr) : List Value := g.1.cells ++ g.2.cells
def PlanS.cells (p : PlanS) : List Value := [.slice p.ma p.mets.length p.mcap, .int .i64 p.r0, .int .i64 p.r1, .int .i64 p.r2, .int .i64 p.r3, .int .i64 p.r4, .slice p.wa p.wins.length p.wcap, .slice p.ca p.crons.length p.ccap, .int .i64 p.locals, .slice p.ga p.guards.length p.gcap, .int .i64 p.fin.op, .int .i64 p.fin.n, .int .i64 p.fin.m, .slice p.fin.at_ p.fin.kids.length p.fin.cap]
structure PlanL (w : World) (p : PlanS) : Prop where
 mets : p.mets.length ≤ p.mcap ∧ p.mets.length ≤ 8796093021952 ∧ (∀ s ∈ p.mets, s.size ≤ reachBytes) ∧ ArrL w p.ma 1 (fun s => [.string s]) p.mets
 rules : R64 p.r0 ∧ R64 p.r1 ∧ R64 p.r2 ∧ R64 p.r3 ∧ R64 p.r4
 wins : p.wins.length ≤ p.wcap ∧ p.wins.length ≤ 4398046510976 ∧ (∀ x ∈ p.wins, x.ok) ∧ ArrL w p.wa 4 WinP.cells p.wins
 crons : p.crons.length ≤ p.ccap ∧ p.crons.length ≤ 3518437208780 ∧ (∀ x ∈ p.crons, x.ok) ∧ ArrL w p.ca 5 CronP.cells p.crons
 locals : R64 p.locals
 guards : p.guards.length ≤ p.gcap ∧ p.guards.length ≤ 1466015503658 ∧ (∀ g ∈ p.guards, Lies w g.1 ∧ Lies w g.2) ∧ ArrL w p.ga 8 guardCells p.guards
 fin : Lies w p.fin
theorem PlanL.below {w w' : World} {p : PlanS} (h : PlanL w p) (hb : Below w.heap.size w w') : PlanL w' p where
 mets := ⟨h.mets.1, h.mets.2.1, h.mets.2.2.1, h.mets.2.2.2.below hb (by decide)⟩
 rules := h.rules
 wins := ⟨h.wins.1, h.wins.2.1, h.wins.2.2.1, h.wins.2.2.2.below hb (by decide)⟩
 crons := ⟨h.crons.1, h.crons.2.1, h.crons.2.2.1, h.crons.2.2.2.below hb (by decide)⟩
 locals := h.locals
 guards := ⟨h.guards.1, h.guards.2.1, fun g hg => ⟨(h.guards.2.2.1 g hg).1.below hb, (h.guards.2.2.1 g hg).2.below hb⟩, h.guards.2.2.2.below hb (by decide)⟩
 fin := h.fin.below hb
def PlanS.cores (p : PlanS) : List Cr := (p.guards.flatMap fun g => [g.1, g.2]) ++ [p.fin]
theorem PlanL.core {w : World} {p : PlanS} (h : PlanL w p) : ∀ c ∈ p.cores, Lies w c := by
 intro c hc
 unfold PlanS.cores at hc
 rcases List.mem_append.1 hc with hc | hc
 ·obtain ⟨g, hg, hc⟩ := List.mem_flatMap.1 hc
  rcases List.mem_cons.1 hc with rfl | hc
  ·exact (h.guards.2.2.1 g hg).1
  ·obtain rfl := List.mem_singleton.1 hc
   exact (h.guards.2.2.1 g hg).2
 ·obtain rfl := List.mem_singleton.1 hc
  exact h.fin

theorem sl_arr {P : Program} {t : TypeId} {α : Type} {c : α → List Value} {okE : World → α → Prop} {w : World} {s : Sl α} {sz b : Nat} (hz : P.cellsOf t = sz) (hb : P.bytesOf t = b) (h : Sl.ok P t c okE w s) :
  (s.all.take s.len).length = s.len ∧ s.len ≤ s.cap ∧ s.cap * b ≤ 140737488351232 ∧ (∀ x ∈ s.all.take s.len, okE w x) ∧ ArrL w s.at_ sz c (s.all.take s.len) := by
 obtain ⟨h1, h2, h3, h4, h5, h6⟩ := h
 have hr := reach_le
 rw [hb] at h4
 refine ⟨by rw [List.length_take]; omega, h1, by omega, fun x hx => h5 x (List.mem_of_mem_take hx), fun i x hx => ?_⟩
 rw [List.getElem?_take] at hx
 split at hx
 ·rcases h6 with ⟨_, h6⟩ | ⟨p, hp, hg⟩
  ·omega
  ·refine ⟨p, hp, ?_⟩
   have := hg i x hx
   rw [hz] at this
   exact this
 ·cases hx
theorem u64_of_wf {n : Int} (h : (Lit.int .u64 n).wf = true) : U64 n := by
 have h2 : IntKind.u64.min ≤ n ∧ n ≤ IntKind.u64.max := by simpa [Lit.wf] using h
 have e2 : IntKind.u64.max = 18446744073709551615 := by decide
 have e : IntKind.u64.min = 0 := by decide
 unfold U64
 omega
set_option maxRecDepth 100000
theorem winp_opn : Opn Tryd.prog 62 WinP.cells (fun _ x => x.ok) := by
 intro H enc w fuel cs x hx hw
 obtain ⟨a, ha, hk⟩ := opn_struct Tryd.underlying62 (by kernel_rfl) (opnF_cons rfl (sz := 1) (by kernel_rfl) (opn_int Tryd.underlying3) (opnF_cons rfl (sz := 1) (by kernel_rfl) (opn_int Tryd.underlying3) (opnF_cons rfl (sz := 1) (by kernel_rfl) (opn_int Tryd.underlying2) (opnF_last rfl (opn_int Tryd.underlying2))))) hx hw
 exact ⟨⟨a.1, a.2.1, a.2.2.1, a.2.2.2⟩, ha, r64_of_wf hk.1, r64_of_wf hk.2.1, r64_of_wf hk.2.2.1, r64_of_wf hk.2.2.2⟩
theorem cronp_opn : Opn Tryd.prog 65 CronP.cells (fun _ x => x.ok) := by
 intro H enc w fuel cs x hx hw
 obtain ⟨a, ha, hk⟩ := opn_struct Tryd.underlying65 (by kernel_rfl) (opnF_cons rfl (sz := 1) (by kernel_rfl) (opn_int Tryd.underlying63) (opnF_cons rfl (sz := 1) (by kernel_rfl) (opn_int Tryd.underlying63) (opnF_cons rfl (sz := 1) (by kernel_rfl) (opn_int Tryd.underlying63) (opnF_cons rfl (sz := 1) (by kernel_rfl) (opn_int Tryd.underlying63) (opnF_last rfl (opn_int Tryd.underlying63)))))) hx hw
 exact ⟨⟨a.1, a.2.1, a.2.2.1, a.2.2.2.1, a.2.2.2.2⟩, ha, u64_of_wf hk.1, u64_of_wf hk.2.1, u64_of_wf hk.2.2.1, u64_of_wf hk.2.2.2.1, u64_of_wf hk.2.2.2.2⟩
theorem rulesp_opn : Opn Tryd.prog 48 (fun x : Int × Int × Int × Int × Int => [.int .i64 x.1, .int .i64 x.2.1, .int .i64 x.2.2.1, .int .i64 x.2.2.2.1, .int .i64 x.2.2.2.2]) (fun _ x => R64 x.1 ∧ R64 x.2.1 ∧ R64 x.2.2.1 ∧ R64 x.2.2.2.1 ∧ R64 x.2.2.2.2) := by
 intro H enc w fuel cs x hx hw
 obtain ⟨a, ha, hk⟩ := opn_struct Tryd.underlying48 (by kernel_rfl) (opnF_cons rfl (sz := 1) (by kernel_rfl) (opn_int Tryd.underlying2) (opnF_cons rfl (sz := 1) (by kernel_rfl) (opn_int Tryd.underlying2) (opnF_cons rfl (sz := 1) (by kernel_rfl) (opn_int Tryd.underlying2) (opnF_cons rfl (sz := 1) (by kernel_rfl) (opn_int Tryd.underlying2) (opnF_last rfl (opn_int Tryd.underlying2)))))) hx hw
 exact ⟨a, ha, r64_of_wf hk.1, r64_of_wf hk.2.1, r64_of_wf hk.2.2.1, r64_of_wf hk.2.2.2.1, r64_of_wf hk.2.2.2.2⟩
theorem guardp_opn : Opn Tryd.prog 60 guardCells (fun w g => Lies w g.1 ∧ Lies w g.2) := by
 intro H enc w fuel cs x hx hw
 obtain ⟨a, ha, hk⟩ := opn_struct Tryd.underlying60 (by kernel_rfl) (opnF_cons rfl (sz := 4) (by kernel_rfl) core_opn (opnF_last rfl core_opn)) hx hw
 exact ⟨a, ha, hk⟩
theorem plan_opn : Opn Tryd.prog 53 PlanS.cells PlanL := by
 intro H enc w fuel cs x hx hw
 obtain ⟨a, ha, hk⟩ := opn_struct Tryd.underlying53 (by kernel_rfl)
  (opnF_cons rfl (sz := 1) (by kernel_rfl) (opn_slice Tryd.underlying46 (opn_string Tryd.underlying9))
   (opnF_cons rfl (sz := 5) (by kernel_rfl) rulesp_opn
    (opnF_cons rfl (sz := 1) (by kernel_rfl) (opn_slice Tryd.underlying49 winp_opn)
     (opnF_cons rfl (sz := 1) (by kernel_rfl) (opn_slice Tryd.underlying50 cronp_opn)
      (opnF_cons rfl (sz := 1) (by kernel_rfl) (opn_int Tryd.underlying3)
       (opnF_cons rfl (sz := 1) (by kernel_rfl) (opn_slice Tryd.underlying51 guardp_opn)
        (opnF_last rfl core_opn))))))) hx hw
 obtain ⟨k0, k1, k2, k3, k4, k5, k6⟩ := hk
 obtain ⟨a1, a2, a3, a4, a5⟩ := sl_arr (sz := 1) (b := 16) (by kernel_rfl) (by kernel_rfl) k0
 obtain ⟨b1, b2, b3, b4, b5⟩ := sl_arr (sz := 4) (b := 32) (by kernel_rfl) (by kernel_rfl) k2
 obtain ⟨c1, c2, c3, c4, c5⟩ := sl_arr (sz := 5) (b := 40) (by kernel_rfl) (by kernel_rfl) k3
 obtain ⟨d1, d2, d3, d4, d5⟩ := sl_arr (sz := 8) (b := 96) (by kernel_rfl) (by kernel_rfl) k5
 refine ⟨⟨a.1.at_, a.1.cap, a.1.all.take a.1.len, a.2.1.1, a.2.1.2.1, a.2.1.2.2.1, a.2.1.2.2.2.1, a.2.1.2.2.2.2, a.2.2.1.at_, a.2.2.1.cap, a.2.2.1.all.take a.2.2.1.len, a.2.2.2.1.at_, a.2.2.2.1.cap, a.2.2.2.1.all.take a.2.2.2.1.len, a.2.2.2.2.1,
  a.2.2.2.2.2.1.at_, a.2.2.2.2.2.1.cap, a.2.2.2.2.2.1.all.take a.2.2.2.2.2.1.len, a.2.2.2.2.2.2⟩, ?_, ⟨?_, k1, ?_, ?_, r64_of_wf k4, ?_, k6⟩⟩
 ·rw [ha]
  unfold PlanS.cells
  simp only [a1, b1, c1, d1]
  rfl
 ·exact ⟨Nat.le_trans (Nat.le_of_eq a1) a2, Nat.le_trans (Nat.le_of_eq a1) (Nat.le_trans a2 (by omega)), a4, a5⟩
 ·exact ⟨Nat.le_trans (Nat.le_of_eq b1) b2, Nat.le_trans (Nat.le_of_eq b1) (Nat.le_trans b2 (by omega)), b4, b5⟩
 ·exact ⟨Nat.le_trans (Nat.le_of_eq c1) c2, Nat.le_trans (Nat.le_of_eq c1) (Nat.le_trans c2 (by omega)), c4, c5⟩
 ·exact ⟨Nat.le_trans (Nat.le_of_eq d1) d2, Nat.le_trans (Nat.le_of_eq d1) (Nat.le_trans d2 (by omega)), d4, d5⟩
theorem plan_arg {H : Type} {enc : TypeId × Value → H} {base : Nat} {d : DataW H} {p : List MemPlace} {v : Value} {W : World} (hval : Value.okWide Tryd.prog W .any base 53 v)
  (h : DataW.Trod enc Tryd.prog W 0 (fun _ => true) true 53 v d p) (y : ∀ n ∈ DataW.weights Tryd.prog 53 d, n ≤ reachBytes) : ∃ q : PlanS, v = .agg q.cells.toArray ∧ PlanL W q := by
 obtain ⟨cs, rfl, hsz⟩ := WideShapes.okWide_struct Tryd.underlying53 hval
 obtain ⟨fuel, hf⟩ := h
 obtain ⟨q, hc, hl⟩ := plan_opn hf y
 have hs' : cs.toList = q.cells := by simpa [Value.cells] using hc
 have : cs = q.cells.toArray := by rw [← hs']
 rw [this]
 exact ⟨q, rfl, hl⟩
end Go.Proofs.YtpljkcakijkklaaDoor

end
section
namespace Go.Proofs.YtpljkcakijkklaaDoor
set_option linter.unusedVariables false
set_option linter.unusedSimpArgs false
open Go.RowKit Go.Proofs.YtpljkcakijkklaaDoorW.PrintWords Go.Proofs.YtpljkcakijkklaaDoorW.PrintLast Go.Proofs.YtpljkcakijkklaaDoorW.PrintMore

theorem cells_new (w : World) (l : List Value) (t : TypeId) : ∀ j u, l[j]? = some u → (w.alloc (.cells l.toArray t)).cell? ((⟨w.heap.size, 0, none⟩ : Addr).add j) = some u := by
 intro j u hj
 have h := blk_cell (blk_new w (.cells l.toArray t)) j
 have e : (⟨w.heap.size, 0, none⟩ : Addr).add j = ⟨w.heap.size, j, none⟩ := by
  cases j with
  | zero => rfl
  | succ j => simp [Addr.add]
 rw [e, h]
 simpa using hj
theorem ArrL.cellsAt {w : World} {b : Addr} {sz : Nat} {α : Type} {c : α → List Value} {l : List α} (h : ArrL w (some b) sz c l) {i : Nat} {x : α} (hx : l[i]? = some x) (hz : 0 < sz) :
  (∀ u, (c x)[0]? = some u → w.cell? (b.add (i * sz)) = some u) ∧ (∀ j u, (c x)[j + 1]? = some u → w.cell? ⟨(b.add (i * sz)).block, (b.add (i * sz)).off + (j + 1), none⟩ = some u) := by
 obtain ⟨b', hb, hc⟩ := h i x hx
 injection hb with hb
 subst hb
 refine ⟨fun u hu => ?_, fun j u hu => ?_⟩
 ·have := cells_get hc 0 u hu
  rw [Addr.add_add] at this
  exact this
 ·rw [← add_field _ _ (j + 1) (by omega)]
  have := cells_get hc (j + 1) u hu
  rw [Addr.add_add] at this
  exact this
theorem guard_at {w : World} {b : Addr} {l : List (Cr × Cr)} (h : ArrL w (some b) 8 guardCells l) {i : Nat} {x : Cr × Cr} (hx : l[i]? = some x) :
  w.cell? (b.add (i * 8)) = some (.int .i64 x.1.op) ∧ w.cell? ⟨(b.add (i * 8)).block, (b.add (i * 8)).off + 1, none⟩ = some (.int .i64 x.1.n) ∧ w.cell? ⟨(b.add (i * 8)).block, (b.add (i * 8)).off + 2, none⟩ = some (.int .i64 x.1.m) ∧
  w.cell? ⟨(b.add (i * 8)).block, (b.add (i * 8)).off + 3, none⟩ = some (.slice x.1.at_ x.1.kids.length x.1.cap) ∧ w.cell? ⟨(b.add (i * 8)).block, (b.add (i * 8)).off + 4, none⟩ = some (.int .i64 x.2.op) ∧
  w.cell? ⟨(b.add (i * 8)).block, (b.add (i * 8)).off + 5, none⟩ = some (.int .i64 x.2.n) ∧ w.cell? ⟨(b.add (i * 8)).block, (b.add (i * 8)).off + 6, none⟩ = some (.int .i64 x.2.m) ∧ w.cell? ⟨(b.add (i * 8)).block, (b.add (i * 8)).off + 7, none⟩ = some (.slice x.2.at_ x.2.kids.length x.2.cap) := by
 obtain ⟨h0, h1⟩ := h.cellsAt hx (by decide)
 exact ⟨h0 _ rfl, h1 0 _ rfl, h1 1 _ rfl, h1 2 _ rfl, h1 3 _ rfl, h1 4 _ rfl, h1 5 _ rfl, h1 6 _ rfl⟩
theorem flat_get : ∀ {l : List Cr} {j i : Nat} {c : Cr}, l[j]? = some c → i < 4 → (l.flatMap Cr.cells)[j * 4 + i]? = c.cells[i]?
 | [], j, i, c, hj, hi => by simp at hj
 | d :: l, 0, i, c, hj, hi => by
  simp at hj
  subst hj
  rw [List.flatMap_cons, Nat.zero_mul, Nat.zero_add, List.getElem?_append_left (by simpa [Cr.cells] using hi)]
 | d :: l, j + 1, i, c, hj, hi => by
  rw [List.flatMap_cons, List.getElem?_append_right (by simp [Cr.cells]; omega), show (j + 1) * 4 + i - d.cells.length = j * 4 + i by simp [Cr.cells]; omega]
  exact flat_get (by simpa using hj) hi
theorem own_lies {w : World} {base : Nat} {t : TypeId} {v : Value} {l : List Cr} (h : w.ownsRow base t 4 v l.length (l.flatMap Cr.cells)) (hl : ∀ c ∈ l, Lies w c) (hne : l ≠ []) :
  ∃ g cap, v = .slice (some ⟨g, 0, none⟩) l.length cap ∧ base ≤ g ∧ l.length ≤ cap ∧ LiesL w (some ⟨g, 0, none⟩) 0 l := by
 obtain ⟨h1, h2⟩ := h
 rcases h2 with ⟨_, h0⟩ | ⟨g, cap, cur, hv, hg, hh, hn, hcap, hsz, htake⟩
 ·exact absurd (List.eq_nil_of_length_eq_zero h0) hne
 ·refine ⟨g, cap, hv, hg, hn, LiesL.of_get fun j c hj => ⟨⟨_, rfl, ?_⟩, hl c (List.mem_of_getElem? hj)⟩⟩
  rw [Nat.zero_add]
  refine World.cells?_of_each (Nat.zero_le _) rfl fun i hi => ?_
  have hc := blk_cell hh (j * 4 + i)
  have hjl : j < l.length := (List.getElem?_eq_some_iff.1 hj).1
  have hf := flat_get hj hi
  have e : ((⟨g, 0, none⟩ : Addr).add (j * 4)).add i = ⟨g, j * 4 + i, none⟩ := by
   rw [Addr.add_add]
   cases h : j * 4 + i with
   | zero => rfl
   | succ k => simp [Addr.add]
  rw [e, hc, ← hf, ← htake, List.getElem?_take, if_pos (by omega)]
  simp
def flatG (l : List (Cr × Cr)) : List Value := l.flatMap guardCells
theorem flatG_cores (l : List (Cr × Cr)) : flatG l = (l.flatMap fun g => [g.1, g.2]).flatMap Cr.cells := by
 unfold flatG
 induction l with
 | nil => rfl
 | cons g l ih => simp [List.flatMap_cons, ih, guardCells, List.append_assoc]
theorem flat2_len : ∀ l : List (Cr × Cr), (l.flatMap fun g => [g.1, g.2]).length = 2 * l.length
 | [] => rfl
 | a :: l => by rw [List.flatMap_cons, List.length_append, flat2_len l]; simp; omega
theorem flatG_take {l : List (Cr × Cr)} {i : Nat} {x : Cr × Cr} (h : l[i]? = some x) : flatG (l.take (i + 1)) = flatG (l.take i) ++ guardCells x := by
 have hi := (List.getElem?_eq_some_iff.1 h).1
 unfold flatG
 rw [List.take_add_one, h, List.flatMap_append]
 simp
theorem core_info : ∃ i, Tryd.prog.info? 24 = some i ∧ i.zero = some (.agg #[.int .i64 0, .int .i64 0, .int .i64 0, .slice none 0 0]) ∧ i.size = 4 ∧ i.bytes = 48 := by
 have h : (Tryd.prog.info? 24).map (fun i => (i.zero, i.size, i.bytes)) = some (some (.agg #[.int .i64 0, .int .i64 0, .int .i64 0, .slice none 0 0]), 4, 48) := by kernel_rfl
 obtain ⟨i, h1, h2⟩ := Option.map_eq_some_iff.1 h
 simp only [Prod.mk.injEq] at h2
 exact ⟨i, h1, h2⟩
end Go.Proofs.YtpljkcakijkklaaDoor

end
section
namespace Go.Proofs.YtpljkcakijkklaaDoor
set_option linter.unusedVariables false
set_option linter.unusedSimpArgs false
open Go.RowKit Go.Proofs.YtpljkcakijkklaaDoorW.PrintWords Go.Proofs.YtpljkcakijkklaaDoorW.PrintLast Go.Proofs.YtpljkcakijkklaaDoorW.PrintMore

theorem own_below {w w' : World} {base : Nat} {e : TypeId} {size : Nat} {v : Value} {n : Nat} {xs : List Value} (h : w.ownsRow base e size v n xs) (hb : Below w.heap.size w w') : w'.ownsRow base e size v n xs :=
 h.kept (row := none) ⟨hb.os, hb.tape, hb.output, hb.size, fun k hk _ => hb.block k hk⟩ (by cases v.ownBlock <;> simp)
def rowB (v : Value) : List Nat := match v.ownBlock with
 | some g => [g]
 | none => []
theorem rowB_mem {v : Value} {b : Nat} (h : b ∈ rowB v) : v.ownBlock = some b := by
 unfold rowB at h
 split at h
 ·rename_i g hg
  rw [List.mem_singleton.1 h]
  exact hg
 ·cases h
theorem rowB_of {v : Value} {b : Nat} (h : v.ownBlock = some b) : b ∈ rowB v := by
 unfold rowB
 rw [h]
 exact List.mem_singleton.2 rfl
structure Grow (lo base : Nat) (K : List Cr) (v : Value) (w : World) : Prop where
 own : w.ownsRow base 24 4 v K.length (K.flatMap Cr.cells)
 parts : NewL lo w K (rowB v)
theorem Grow.nil (lo base : Nat) (w : World) : Grow lo base [] (.slice none 0 0) w := ⟨World.ownsRow_nil _ _ _ _, NewL.nil _ _ _⟩
theorem Grow.below {lo base : Nat} {K : List Cr} {v : Value} {w w' : World} (h : Grow lo base K v w) (hb : Below w.heap.size w w') : Grow lo base K v w' :=
 ⟨own_below h.own hb, h.parts.step hb.size (fun k hk _ => hb.block k hk) fun b hb' => .inl hb'⟩
theorem Grow.push {lo base : Nat} {K : List Cr} {v v' : Value} {w w1 w2 w3 : World} {c : Cr} (h : Grow lo base K v w) (hb : Below w.heap.size w w1) (hlo : lo ≤ w.heap.size) (hc : New w.heap.size w1 c) (ha : Below w1.heap.size w1 w2)
  (hown : w3.ownsRow base 24 4 v' (K.length + 1) (K.flatMap Cr.cells ++ c.cells)) (hgrow : w2.grownBy w3 v.ownBlock) (hat : v'.ownBlock = v.ownBlock ∨ v'.ownBlock = some w2.heap.size) : Grow lo base (K ++ [c]) v' w3 where
 own := by
  rw [List.length_append, List.flatMap_append]
  simpa using hown
 parts := by
  have h1 := (h.below hb).parts
  have hrow : ∀ b ∈ rowB v, b < w.heap.size := fun b hb' => ((h.own.lt) b (rowB_mem hb')).2
  have h2 : NewL lo w1 (K ++ [c]) (rowB v) := h1.push hc hlo (fun b hb' => (h.parts.blocks b hb').2) hrow
  have h3 : NewL lo w2 (K ++ [c]) (rowB v) := h2.step ha.size (fun k hk _ => ha.block k hk) fun b hb' => .inl hb'
  refine h3.step hgrow.size (fun k hk hn => hgrow.block k hk fun e => hn (rowB_of e.symm)) fun b hb' => ?_
  have e := rowB_mem hb'
  rcases hat with e2 | e2
  ·exact .inl (rowB_of (e2.symm.trans e))
  ·rw [e2] at e
   injection e with e
   exact .inr (by omega)
theorem Grow.node {lo base : Nat} {K : List Cr} {v : Value} {w : World} (h : Grow lo base K v w) (hlo : lo ≤ base) {op n m : Int} (hi : I64 op ∧ I64 n ∧ I64 m) (hl : K.length ≤ 2932031007317) :
  ∃ c : Cr, v = .slice c.at_ c.kids.length c.cap ∧ c.op = op ∧ c.n = n ∧ c.m = m ∧ c.kids = K ∧ New lo w c := by
 cases K with
 | nil =>
  have h0 := h.own.2
  rcases h0 with ⟨rfl, -⟩ | ⟨g, cap, cur, rfl, hg, hh, hn, -⟩
  ·exact ⟨.node op n m none 0 [], rfl, rfl, rfl, rfl, rfl, New.leaf hi⟩
  ·refine ⟨.node op n m (some ⟨g, 0, none⟩) cap [], rfl, rfl, rfl, rfl, rfl, ?_⟩
   exact NewL.node (NewL.nil _ _ _) ⟨Nat.le_trans hlo hg, (h.own.lt g rfl).2⟩ ⟨_, _, hh⟩ hi ⟨Nat.zero_le _, by decide⟩ (by rw [LiesL]; trivial)
 | cons a t =>
  obtain ⟨g, cap, hv, hg, hcap, hL⟩ := own_lies h.own h.parts.lies (by simp)
  have hp := h.parts
  have hlt := h.own.lt g (by rw [hv]; rfl)
  have er : rowB v = [g] := by rw [hv]; rfl
  have hwr : Wr w g := by
   rcases h.own.2 with ⟨e, -⟩ | ⟨g', cap', cur, e, -, hh, -⟩
   ·rw [hv] at e; cases e
   ·rw [hv] at e
    injection e with e1 e2 e3
    injection e1 with e1
    injection e1 with e1 e4 e5
    exact ⟨cur, _, by rw [e1]; exact hh⟩
  rw [er] at hp
  exact ⟨.node op n m (some ⟨g, 0, none⟩) cap (a :: t), hv, rfl, rfl, rfl, rfl, hp.node ⟨Nat.le_trans hlo hg, hlt.2⟩ hwr hi ⟨hcap, hl⟩ hL⟩
def CopyC (c : Cr) : Prop := ∀ W, Lies W c → Calls Tryd.prog 33 #[.agg #[.int .i64 c.op, .int .i64 c.n, .int .i64 c.m, .slice c.at_ c.kids.length c.cap]] W
 fun e w' => (∃ c' : Cr, e = .returned (.agg #[.int .i64 c'.op, .int .i64 c'.n, .int .i64 c'.m, .slice c'.at_ c'.kids.length c'.cap]) ∧ c'.tr = c.tr ∧ New W.heap.size w' c') ∧ Below W.heap.size W w'
theorem copied_calls (c : Cr) : CopyC c := by
 refine Cr.ind (P := CopyC) (fun c ih => ?_) c
 intro w hl
 obtain ⟨i0, hi, hz0, hz1, hz2⟩ := core_info
 obtain ⟨w1, e1, b1, k1, k2, s1⟩ := box2 w (.cells #[.int .i64 c.op, .int .i64 c.n, .int .i64 c.m, .slice c.at_ c.kids.length c.cap] 24) (.cells #[.int .i64 0, .int .i64 0, .int .i64 0, .slice none 0 0] 24)
 have HE := Lib.hid e1
 have B1 := Lib.hid b1
 have HL := Lib.hid (hl.below b1)
 have HIH := Lib.hid ih
 have HC := Lib.hid fun (w' : World) (hb : Below w1.heap.size w1 w') => (show _ ∧ _ from ⟨blk_below k1 hb, blk_below k2 hb⟩)
 obtain ⟨g1, hg1⟩ : ∃ g, w.heap.size = g := ⟨_, rfl⟩
 have HG1 := Lib.hid hg1
 have HS1 := Lib.hid s1
 obtain ⟨len, hlen⟩ : ∃ n, c.kids.length = n := ⟨_, rfl⟩
 have HLEN := Lib.hid hlen
 have HRM := Lib.hid hl.room
 clear hl k1 k2 e1 b1 s1 ih hlen hg1
 rw [HLEN.out] at HC HE HRM ⊢
 obtain ⟨ca, hca⟩ : ∃ a, c.at_ = a := ⟨_, rfl⟩
 have HCA := Lib.hid hca
 rw [hca] at HC HE ⊢
 clear hca
 obtain ⟨x0, x1, x2, x3⟩ := core_cells (HC.out w1 (Below.refl _ _)).1
 go_enter Tryd.func33, Tryd.ntmps33
 go_wp2_with fail
 rw [HE.out]
 go_wp2_with fail
 clear x0 x1 x2 x3
 go_loopg [3, 9] len (fun gg v3 v9 wr => ∃ (i : Nat) (K : List Cr), v9 = .int .i64 i ∧ Aside0 (i + gg = len) ∧ Aside0 (trL K = trL (c.kids.take i)) ∧ Aside0 (Grow w1.heap.size w1.heap.size K v3 wr) ∧ Aside0 (Below w1.heap.size w1 wr))
 case atStart => exact ⟨0, [], rfl, ⟨by omega⟩, ⟨by rw [List.take_zero]⟩, ⟨Grow.nil _ _ _⟩, ⟨Below.refl _ _⟩⟩
 case round =>
  obtain ⟨i, K, rfl, hk, hT, hG, hB⟩ := hrel
  have HI := Lib.hid hk.out
  have HT := Lib.hid hT.out
  have HG := Lib.hid hG.out
  have HB := Lib.hid hB.out
  have HKL := Lib.hid (show K.length = i by
   have h := congrArg List.length hT.out
   rw [trL_map, trL_map, List.length_map, List.length_map, List.length_take] at h
   have := hk.out
   have := HLEN.out
   omega)
  clear hk hT hG hB
  by_cases hin : i < len
  ·obtain ⟨x, hx⟩ : ∃ x, c.kids[i]? = some x := ⟨_, List.getElem?_eq_getElem (by rw [HLEN.out]; exact hin)⟩
   obtain ⟨b, hb, hblk, c0, c1, c2, c3⟩ := HL.out.kids.cellsB HB.out hx
   have HXL := Lib.hid ((HL.out.kid (List.mem_of_getElem? hx)).below HB.out)
   have HXC := Lib.hid (HIH.out x (List.mem_of_getElem? hx))
   have q0 := eq_true (show (0 : Int) ≤ (i : Int) by omega)
   have q1 : ((i : Int) < (len : Int)) = True := eq_true (by omega)
   have q2 : (i < len) = True := eq_true hin
   have w5 : wrap64 ((i : Int) + 1) = ((i + 1 : Nat) : Int) := by have := HRM.out; unfold wrap64; omega
   have HX := Lib.hid hx
   have HLT := Lib.hid hin
   obtain rfl := HCA.out.symm.trans hb
   have hlt : (b.add (i * 4)).block < wr.heap.size := World.block_lt_of_cell? wr _ c0
   have n0 : ¬ (b.add (i * 4)).block = wr.heap.size := by omega
   have n1 : ¬ wr.heap.size = (b.add (i * 4)).block := by omega
   clear hx hblk hin hb
   go_wp2_with fail
   clear c0 c1 c2 c3 n0 n1 hlt
   obtain ⟨w2, e2, b2, k2, s2⟩ := box1 wr (.cells #[.int .i64 x.op, .int .i64 x.n, .int .i64 x.m, .slice x.at_ x.kids.length x.cap] 24)
   rw [e2]
   have B2 := Lib.hid b2
   have HS2 := Lib.hid s2
   clear e2 b2 k2 s2
   refine (HXC.out w2 (HXL.out.below B2.out)).mono ?_
   rintro e w3 ⟨⟨y, rfl, hy, hn⟩, b3⟩
   have HY := Lib.hid hy
   have HN := Lib.hid hn
   have B3 := Lib.hid b3
   have B23 := Lib.hid (B2.out.trans (b3.mono B2.out.size))
   have HO := Lib.hid (HG.out.below B23.out)
   have HCN := Lib.hid (cells_new w3 [.int .i64 y.op, .int .i64 y.n, .int .i64 y.m, .slice y.at_ y.kids.length y.cap] 24)
   have hb1 := (HB.out.trans (B23.out.mono HB.out.size)).size
   have hkl := HKL.out
   have hlt := HLT.out
   have hrm := HRM.out.2
   clear hy hn b3 HXC HXL
   go_wp2_with (first
    | (
     at_builtin
     refine wpList_append_own_at _ rfl _ _ 22 rfl w1.heap.size 24 i0 (.agg #[.int .i64 0, .int .i64 0, .int .i64 0, .slice none 0 0]) 4 48 Tryd.underlying22 hi hz0 hz1 hz2 rfl (by decide) _ K.length _ rfl (HO.out.own.alloc _) ⟨w3.heap.size, 0, none⟩ 1 1 [.int .i64 y.op, .int .i64 y.n, .int .i64 y.m, .slice y.at_ y.kids.length y.cap] rfl rfl HCN.out (fun u hu => by simp only [List.mem_cons, List.not_mem_nil, or_false] at hu; rcases hu with rfl | rfl | rfl | rfl <;> rfl) (by simp only [maxLen]; omega) (by omega) (by simp; omega) ?_
     intro v' wN hown' hgrow' hnil' hat'
     have X : Aside (Grow w1.heap.size w1.heap.size (K ++ [y]) v' wN ∧ Below w1.heap.size w1 wN) := ⟨HG.out.push B23.out HB.out.size (HN.out.mono (by rw [HS2.out]; omega)) (below_alloc (Below.refl _ _) _) hown' hgrow' hat', Below.grown ((HB.out.trans (B23.out.mono HB.out.size)).alloc hb1 _) hgrow' (by simp; omega) (fun j hj => ((HO.out.own.lt) j hj).1)⟩
     clear hown' hgrow' hnil' hat'))
   go_roundg (gk - 1)
   case measure => clear w5; have := HI.out; have := HLT.out; omega
   case rel => exact ⟨i + 1, K ++ [y], by first | rfl | simp [w5], ⟨by clear w5; have := HI.out; have := HLT.out; omega⟩, ⟨by rw [trL_append, HT.out, List.take_add_one, HX.out, trL_append]; show _ ++ trL [y] = _ ++ trL [x]; rw [trL, trL, trL, trL, HY.out]⟩, ⟨X.out.1⟩, ⟨X.out.2⟩⟩
  ·have hie : i = len := by have := HI.out; omega
   have q1 : ((i : Int) < (len : Int)) = False := eq_false (by omega)
   have q2 : (i < len) = False := eq_false hin
   obtain ⟨kA, kB⟩ := HC.out wr HB.out
   have HKA := Lib.hid kA
   have HKB := Lib.hid kB
   have HTF := Lib.hid (show trL K = trL c.kids by have := HT.out; rwa [hie, ← HLEN.out, List.take_length] at this)
   have a0 := (blk_cell kA 0).trans rfl
   have a1 := (blk_cell kA 1).trans rfl
   have a2 := (blk_cell kA 2).trans rfl
   have a3 := (blk_cell kA 3).trans rfl
   have f3 := blk_frozen kA 3
   have r0 := (blk_cell kB 0).trans rfl
   have r1 := (blk_cell kB 1).trans rfl
   have r2 := (blk_cell kB 2).trans rfl
   have r3 := (blk_cell kB 3).trans rfl
   have f0 := blk_frozen kB 0
   have f1 := blk_frozen kB 1
   have f2 := blk_frozen kB 2
   have f4 := blk_frozen kB 3
   have hI := Lib.hid HL.out.ints
   obtain ⟨y, rfl, yo, yn, ym, yK, hN⟩ := HG.out.node (Nat.le_refl _) HL.out.ints (by rw [HKL.out, hie]; exact HRM.out.2)
   have HN := Lib.hid hN
   have HY := Lib.hid (show y.tr = c.tr by rw [Cr.tr_eq, Cr.tr_eq c, yo, yn, ym, yK, HTF.out])
   have HYO := Lib.hid (And.intro yo (And.intro yn ym))
   clear hin hie kA kB yo yn ym yK hN HG
   go_wp2_with fail
   have ne1 : ¬ w.heap.size + 1 = w.heap.size := by omega
   have kc := blk_put (blk_put (blk_put (blk_put (blk_far (p := ⟨w.heap.size, 3, none⟩) HKB.out ne1 (.slice y.at_ y.kids.length y.cap)) 0 (.int .i64 c.op) rfl) 1 (.int .i64 c.n) rfl) 2 (.int .i64 c.m) rfl) 3 (.slice y.at_ y.kids.length y.cap) rfl
   refine bodyPost_ret (results_cell_row (fn := Tryd.f33) (p := 2) rfl _ _ (w.heap.size + 1) 24 #[.int .i64 c.op, .int .i64 c.n, .int .i64 c.m, .slice y.at_ y.kids.length y.cap] (0, 0) _ rfl kc Tryd.underlying24 rfl (by kernel_rfl)) rfl ?_
   have hB2 := B1.out.trans (HB.out.mono B1.out.size)
   refine ⟨⟨y, by rw [HYO.out.1, HYO.out.2.1, HYO.out.2.2], HY.out, ?_⟩, ((((hB2.setCell (p := ⟨w.heap.size, 3, none⟩) (Nat.le_refl _) _).setCell (p := ⟨w.heap.size + 1, 0, none⟩) (Nat.le_succ _) _).setCell (p := ⟨w.heap.size + 1, 1, none⟩) (Nat.le_succ _) _).setCell (p := ⟨w.heap.size + 1, 2, none⟩) (Nat.le_succ _) _).setCell (p := ⟨w.heap.size + 1, 3, none⟩) (Nat.le_succ _) _⟩
   refine (HN.out.frame (by simp) fun b hb => ?_).mono (by rw [HS1.out]; omega)
   have hb2 := (HN.out.blocks b hb).1
   rw [HS1.out] at hb2
   have m0 : b ≠ w.heap.size := by omega
   have m1 : b ≠ w.heap.size + 1 := by omega
   rw [Below.heap_setCell _ _ _ _ m1, Below.heap_setCell _ _ _ _ m1, Below.heap_setCell _ _ _ _ m1, Below.heap_setCell _ _ _ _ m1, Below.heap_setCell _ _ _ _ m0]
end Go.Proofs.YtpljkcakijkklaaDoor

end
section
namespace Go.Proofs.YtpljkcakijkklaaDoor
set_option linter.unusedVariables false
set_option linter.unusedSimpArgs false
open Go.RowKit Go.Proofs.YtpljkcakijkklaaDoorW.PrintWords Go.Proofs.YtpljkcakijkklaaDoorW.PrintLast Go.Proofs.YtpljkcakijkklaaDoorW.PrintMore

theorem rcores_new {p : PlanS} {w : World} (h : PlanL w p) : Calls Tryd.prog 19 #[.agg #[.slice p.ma p.mets.length p.mcap, .int .i64 p.r0, .int .i64 p.r1, .int .i64 p.r2, .int .i64 p.r3, .int .i64 p.r4, .slice p.wa p.wins.length p.wcap, .slice p.ca p.crons.length p.ccap, .int .i64 p.locals, .slice p.ga p.guards.length p.gcap, .int .i64 p.fin.op, .int .i64 p.fin.n, .int .i64 p.fin.m, .slice p.fin.at_ p.fin.kids.length p.fin.cap]] w fun e w' => (∃ A c, e = .returned (.slice A p.cores.length c) ∧ LiesL w' A 0 p.cores ∧ p.cores.length ≤ c ∧ ∀ q, A = some q → w.heap.size ≤ q.block) ∧ Below w.heap.size w w' := by
 obtain ⟨i0, hi, hz0, hz1, hz2⟩ := core_info
 obtain ⟨ma, mcap, mets, r0, r1, r2, r3, r4, wa, wcap, wins, ca, ccap, crons, locals, ga, gcap, gl, fin⟩ := p
 have hgl : gl.length ≤ gcap ∧ gl.length ≤ 1466015503658 := ⟨h.guards.1, h.guards.2.1⟩
 have hg2 := h.guards.2.2.2
 have hg3 : ∀ g ∈ gl, Lies w g.1 ∧ Lies w g.2 := h.guards.2.2.1
 have hfin : Lies w fin := h.fin
 obtain ⟨q, hq⟩ : ∃ q, PlanS.cores ⟨ma, mcap, mets, r0, r1, r2, r3, r4, wa, wcap, wins, ca, ccap, crons, locals, ga, gcap, gl, fin⟩ = q := ⟨_, rfl⟩
 have hqe : q = (gl.flatMap fun g => [g.1, g.2]) ++ [fin] := hq.symm
 have hcore := h.core
 rw [hq] at hcore ⊢
 simp only at hg2
 obtain ⟨w1, e1, b1, k1, s1⟩ := box1 w (.cells #[.slice ma mets.length mcap, .int .i64 r0, .int .i64 r1, .int .i64 r2, .int .i64 r3, .int .i64 r4, .slice wa wins.length wcap, .slice ca crons.length ccap, .int .i64 locals, .slice ga gl.length gcap, .int .i64 fin.op, .int .i64 fin.n, .int .i64 fin.m, .slice fin.at_ fin.kids.length fin.cap] 53)
 have HE := Lib.hid e1
 have B1 := Lib.hid b1
 have HC := Lib.hid fun c hc => (hcore c hc).below b1
 have HQ := Lib.hid hqe
 have HG := Lib.hid (show ArrL w1 ga 8 guardCells gl from hg2.below b1 (by decide))
 have HF := Lib.hid fun (w' : World) (hb : Below w1.heap.size w1 w') => (show _ ∧ _ ∧ _ ∧ _ ∧ _ from ⟨(blk_cell (blk_below k1 hb) 9).trans rfl, (blk_cell (blk_below k1 hb) 10).trans rfl, (blk_cell (blk_below k1 hb) 11).trans rfl, (blk_cell (blk_below k1 hb) 12).trans rfl, (blk_cell (blk_below k1 hb) 13).trans rfl⟩)
 clear h k1 e1 b1 s1 hg2 hg3 hfin hq hqe hcore
 go_enter Tryd.func19, Tryd.ntmps19
 go_wp2_with fail
 rw [HE.out]
 go_loopg [3, 4] gl.length (fun kq v3 v9 w' => ∃ i : Nat, v9 = .int .i64 i ∧ Aside0 (i + kq = gl.length) ∧ Aside0 (w'.ownsRow w1.heap.size 24 4 v3 (2 * i) (flatG (gl.take i))) ∧ Aside0 (Below w1.heap.size w1 w'))
 case atStart => exact ⟨0, by rfl, ⟨by omega⟩, ⟨World.ownsRow_nil _ _ _ _⟩, ⟨Below.refl _ _⟩⟩
 case round =>
  obtain ⟨i, rfl, hk, hO, hB⟩ := hrel
  have HO := Lib.hid hO.out
  have HB := Lib.hid hB.out
  clear hO hB
  by_cases hin : i < gl.length
  ·obtain ⟨x, hx⟩ : ∃ x, gl[i]? = some x := ⟨_, List.getElem?_eq_getElem hin⟩
   have hA := HG.out.below HB.out (by decide)
   obtain ⟨b, rfl, -⟩ := hA i x hx
   obtain ⟨c0, c1, c2, c3, c4, c5, c6, c7⟩ := guard_at hA hx
   have hlt : (b.add (i * 8)).block < wr.heap.size := World.block_lt_of_cell? wr _ c0
   have q0 := eq_true (show (0 : Int) ≤ (i : Int) by omega)
   have q1 : ((i : Int) < (gl.length : Int)) = True := eq_true (by omega)
   have q2 : (i < gl.length) = True := eq_true hin
   have n0 : ¬ (b.add (i * 8)).block = wr.heap.size := by omega
   have n1 : ¬ wr.heap.size = (b.add (i * 8)).block := by omega
   have hlen : 2 * i + 2 ≤ 1466015503658 * 2 := by omega
   have HX := Lib.hid hx
   obtain ⟨fg, -⟩ := HF.out wr HB.out
   have hlg : w.heap.size < wr.heap.size := World.block_lt_of_cell? wr _ fg
   have m0 : ¬ w.heap.size = wr.heap.size := by omega
   have m1 : ¬ wr.heap.size = w.heap.size := by omega
   have HC1 := Lib.hid (cells_new wr [.int .i64 x.1.op, .int .i64 x.1.n, .int .i64 x.1.m, .slice x.1.at_ x.1.kids.length x.1.cap] 24)
   have HC2 := Lib.hid fun w3 : World => cells_new w3 [.int .i64 x.2.op, .int .i64 x.2.n, .int .i64 x.2.m, .slice x.2.at_ x.2.kids.length x.2.cap] 24
   have hb1 := HB.out.size
   clear hA hx
   go_wp2_with (first
    | (
     at_builtin
     refine wpList_append_own_at _ rfl _ _ 22 rfl w1.heap.size 24 i0 (.agg #[.int .i64 0, .int .i64 0, .int .i64 0, .slice none 0 0]) 4 48 Tryd.underlying22 hi hz0 hz1 hz2 rfl (by decide) _ _ _ rfl (HO.out.alloc _) ⟨wr.heap.size, 0, none⟩ 1 1 [.int .i64 x.1.op, .int .i64 x.1.n, .int .i64 x.1.m, .slice x.1.at_ x.1.kids.length x.1.cap] rfl rfl HC1.out (fun u hu => by simp only [List.mem_cons, List.not_mem_nil, or_false] at hu; rcases hu with rfl | rfl | rfl | rfl <;> rfl) (by simp only [maxLen]; omega) (by omega) (by simp; omega) ?_
     intro v3 w3 hown' hgrow' hnil' hat'
     have Y : Aside0 (w3.ownsRow w1.heap.size 24 4 v3 (2 * i + 1) (flatG (gl.take i) ++ [.int .i64 x.1.op, .int .i64 x.1.n, .int .i64 x.1.m, .slice x.1.at_ x.1.kids.length x.1.cap])) := ⟨hown'⟩
     have Z : Aside0 (Below w1.heap.size w1 w3) := ⟨Below.grown (HB.out.alloc hb1 _) hgrow' (by simp; omega) (fun j hj => by
      rcases HO.out.2 with ⟨rfl, -⟩ | ⟨g, cap, cur, rfl, hg, -⟩
      ·cases hj
      ·cases hj; exact hg)⟩
     obtain ⟨d0, d1, d2, d3, d4, d5, d6, d7⟩ := guard_at (HG.out.below Z.out (by decide)) HX.out
     obtain ⟨dg, -⟩ := HF.out w3 Z.out
     have hlt3 : (b.add (i * 8)).block < w3.heap.size := World.block_lt_of_cell? w3 _ d0
     have hlg3 : w.heap.size < w3.heap.size := World.block_lt_of_cell? w3 _ dg
     have n3 : ¬ (b.add (i * 8)).block = w3.heap.size := by omega
     have n4 : ¬ w3.heap.size = (b.add (i * 8)).block := by omega
     have m3 : ¬ w.heap.size = w3.heap.size := by omega
     have m4 : ¬ w3.heap.size = w.heap.size := by omega
     have hb3 := Z.out.size
     clear hown' hgrow' hnil' hat' c0 c1 c2 c3 c4 c5 c6 c7 fg hlg m0 m1 n0 n1 hlt)
    | (
     at_builtin
     refine wpList_append_own_at _ rfl _ _ 22 rfl w1.heap.size 24 i0 (.agg #[.int .i64 0, .int .i64 0, .int .i64 0, .slice none 0 0]) 4 48 Tryd.underlying22 hi hz0 hz1 hz2 rfl (by decide) _ _ _ rfl (Y.out.alloc _) ⟨w3.heap.size, 0, none⟩ 1 1 [.int .i64 x.2.op, .int .i64 x.2.n, .int .i64 x.2.m, .slice x.2.at_ x.2.kids.length x.2.cap] rfl rfl (HC2.out w3) (fun u hu => by simp only [List.mem_cons, List.not_mem_nil, or_false] at hu; rcases hu with rfl | rfl | rfl | rfl <;> rfl) (by simp only [maxLen]; omega) (by omega) (by simp; omega) ?_
     intro v5 w5 hown' hgrow' hnil' hat'
     have X : Aside (w5.ownsRow w1.heap.size 24 4 v5 (2 * (i + 1)) (flatG (gl.take (i + 1))) ∧ Below w1.heap.size w1 w5) := ⟨by rw [flatG_take HX.out]; rw [List.append_assoc] at hown'; exact hown', Below.grown (Z.out.alloc hb3 _) hgrow' (by simp; omega) (fun j hj => by
      rcases Y.out.2 with ⟨rfl, -⟩ | ⟨g, cap, cur, rfl, hg, -⟩
      ·cases hj
      ·cases hj; exact hg)⟩
     clear hown' hgrow' hnil' hat'))
   go_roundg (gk - 1)
   case measure => have := hk.out; omega
   case rel => exact ⟨i + 1, by rfl, ⟨by have := hk.out; omega⟩, ⟨X.out.1⟩, ⟨X.out.2⟩⟩
  ·have hie : i = gl.length := by have := hk.out; omega
   have q1 : ((i : Int) < (gl.length : Int)) = False := eq_false (by omega)
   have q2 : (i < gl.length) = False := eq_false hin
   have hO2 := HO.out
   rw [hie, List.take_length] at hO2
   have HO2 := Lib.hid hO2
   obtain ⟨fg, f0, f1, f2, f3⟩ := HF.out wr HB.out
   have hb1 := HB.out.size
   have hlt : w.heap.size < wr.heap.size := World.block_lt_of_cell? wr _ f0
   have n0 : ¬ w.heap.size = wr.heap.size := by omega
   have n1 : ¬ wr.heap.size = w.heap.size := by omega
   have HC1 := Lib.hid (cells_new wr [.int .i64 fin.op, .int .i64 fin.n, .int .i64 fin.m, .slice fin.at_ fin.kids.length fin.cap] 24)
   clear hO2
   go_wp2_with (first
    | (
     at_builtin
     refine wpList_append_own_at _ rfl _ _ 22 rfl w1.heap.size 24 i0 (.agg #[.int .i64 0, .int .i64 0, .int .i64 0, .slice none 0 0]) 4 48 Tryd.underlying22 hi hz0 hz1 hz2 rfl (by decide) _ _ _ rfl (HO2.out.alloc _) ⟨wr.heap.size, 0, none⟩ 1 1 [.int .i64 fin.op, .int .i64 fin.n, .int .i64 fin.m, .slice fin.at_ fin.kids.length fin.cap] rfl rfl HC1.out (fun u hu => by simp only [List.mem_cons, List.not_mem_nil, or_false] at hu; rcases hu with rfl | rfl | rfl | rfl <;> rfl) (by simp only [maxLen]; omega) (by omega) (by simp; omega) ?_
     intro v' w3 hown' hgrow' hnil' hat'
     have X : Aside (w3.ownsRow w1.heap.size 24 4 v' q.length (q.flatMap Cr.cells) ∧ Below w1.heap.size w1 w3) := ⟨by
      rw [HQ.out]
      have e1 : ((gl.flatMap fun g => [g.1, g.2]) ++ [fin]).length = 2 * gl.length + 1 := by
       rw [List.length_append, flat2_len]
       rfl
      rw [e1, List.flatMap_append, ← flatG_cores]
      simpa [Cr.cells] using hown', Below.grown (HB.out.alloc hb1 _) hgrow' (by simp; omega) (fun j hj => by
      rcases HO2.out.2 with ⟨rfl, -⟩ | ⟨g, cap, cur, rfl, hg, -⟩
      ·cases hj
      ·cases hj; exact hg)⟩
     clear hown' hgrow' hnil' hat'))
   go_ret
   have hne : q ≠ [] := by rw [HQ.out]; simp
   obtain ⟨g, cap, rfl, hg, hcap, hl⟩ := own_lies X.out.1 (fun c hc => (HC.out c hc).below X.out.2) hne
   exact ⟨⟨_, _, rfl, hl, hcap, fun q e => by cases e; exact Nat.le_trans B1.out.size hg⟩, B1.out.trans (X.out.2.mono B1.out.size)⟩
theorem rcores_calls {p : PlanS} {w : World} (h : PlanL w p) : Calls Tryd.prog 19 #[.agg #[.slice p.ma p.mets.length p.mcap, .int .i64 p.r0, .int .i64 p.r1, .int .i64 p.r2, .int .i64 p.r3, .int .i64 p.r4, .slice p.wa p.wins.length p.wcap, .slice p.ca p.crons.length p.ccap, .int .i64 p.locals, .slice p.ga p.guards.length p.gcap, .int .i64 p.fin.op, .int .i64 p.fin.n, .int .i64 p.fin.m, .slice p.fin.at_ p.fin.kids.length p.fin.cap]] w fun e w' => (∃ A c, e = .returned (.slice A p.cores.length c) ∧ LiesL w' A 0 p.cores ∧ p.cores.length ≤ c) ∧ Below w.heap.size w w' :=
 (rcores_new h).mono fun e w' hx => by
  obtain ⟨⟨A, c, h1, h2, h3, -⟩, h4⟩ := hx
  exact ⟨⟨A, c, h1, h2, h3⟩, h4⟩
end Go.Proofs.YtpljkcakijkklaaDoor

end
section
namespace Go.Proofs.YtpljkcakijkklaaDoor
set_option linter.unusedVariables false
set_option linter.unusedSimpArgs false
open Go.RowKit Go.Proofs.YtpljkcakijkklaaDoorW.PrintWords Go.Proofs.YtpljkcakijkklaaDoorW.PrintLast Go.Proofs.YtpljkcakijkklaaDoorW.PrintMore

theorem cores_len {w : World} {p : PlanS} (h : PlanL w p) : p.cores.length ≤ 2932031007317 := by
 unfold PlanS.cores
 rw [List.length_append, flat2_len]
 have := h.guards.1
 have := h.guards.2.1
 simp only [List.length_cons, List.length_nil]
 omega
theorem few_calls {p : PlanS} {w : World} (h : PlanL w p) : Calls Tryd.prog 16 #[.agg #[.slice p.ma p.mets.length p.mcap, .int .i64 p.r0, .int .i64 p.r1, .int .i64 p.r2, .int .i64 p.r3, .int .i64 p.r4, .slice p.wa p.wins.length p.wcap, .slice p.ca p.crons.length p.ccap, .int .i64 p.locals, .slice p.ga p.guards.length p.gcap, .int .i64 p.fin.op, .int .i64 p.fin.n, .int .i64 p.fin.m, .slice p.fin.at_ p.fin.kids.length p.fin.cap]] w fun e w' => (∃ b, e = .returned (.bool b)) ∧ Below w.heap.size w w' := by
 obtain ⟨w1, e1, b1, k1, s1⟩ := box1 w (.cells #[.slice p.ma p.mets.length p.mcap, .int .i64 p.r0, .int .i64 p.r1, .int .i64 p.r2, .int .i64 p.r3, .int .i64 p.r4, .slice p.wa p.wins.length p.wcap, .slice p.ca p.crons.length p.ccap, .int .i64 p.locals, .slice p.ga p.guards.length p.gcap, .int .i64 p.fin.op, .int .i64 p.fin.n, .int .i64 p.fin.m, .slice p.fin.at_ p.fin.kids.length p.fin.cap] 53)
 have hlen := cores_len h
 have HE := Lib.hid e1
 have B1 := Lib.hid b1
 have HS := Lib.hid (rcores_calls (h.below b1))
 obtain ⟨l, hl⟩ : ∃ l, p.cores = l := ⟨_, rfl⟩
 rw [hl] at HS hlen
 clear h k1 e1 b1 s1 hl
 go_enter Tryd.func16, Tryd.ntmps16
 go_wp2_with fail
 rw [HE.out]
 refine HS.out.mono ?_
 rintro e w2 ⟨⟨A, c, rfl, hL, hc⟩, b2⟩
 have HL := Lib.hid hL
 have B2 := Lib.hid (B1.out.trans (b2.mono B1.out.size))
 obtain ⟨len, hln⟩ : ∃ n, l.length = n := ⟨_, rfl⟩
 have HN := Lib.hid hln
 rw [hln] at hlen ⊢
 clear hL b2 hc HS hln
 go_wp2_with fail
 go_loopg [4, 5] len (fun gg v4 v5 wr => ∃ (i k : Nat), v4 = .int .i64 k ∧ v5 = .int .i64 i ∧ Aside0 (i + gg = len ∧ k ≤ 8193) ∧ Aside0 (Below w2.heap.size w2 wr))
 case atStart => exact ⟨0, 0, rfl, rfl, ⟨by omega, by decide⟩, ⟨Below.refl _ _⟩⟩
 case round =>
  obtain ⟨i, k, rfl, rfl, hi, BW⟩ := hrel
  have HI := Lib.hid hi.out
  have HB := Lib.hid BW.out
  clear hi BW
  by_cases hend : i < len ∧ k ≤ 4096
  ·obtain ⟨hlt, hk⟩ := hend
   obtain ⟨y, hy⟩ : ∃ y, l[i]? = some y := ⟨_, List.getElem?_eq_getElem (by rw [HN.out]; exact hlt)⟩
   obtain ⟨b, rfl, hblk, c0, c1, c2, c3⟩ := HL.out.cellsB HB.out hy
   have HYL := Lib.hid (LiesL.lies HL.out (List.mem_of_getElem? hy))
   have q0 := eq_true (show (0 : Int) ≤ (i : Int) by omega)
   have q1 : ((i : Int) < (len : Int)) = True := eq_true (by omega)
   have q2 : (i < len) = True := eq_true hlt
   have q3 : ((k : Int) ≤ 4096) = True := eq_true (by omega)
   have q4 : (k ≤ 4096) = True := eq_true hk
   have HLT := Lib.hid (And.intro hlt hk)
   obtain ⟨t, ht⟩ : ∃ t, min y.total 4097 = t := ⟨_, rfl⟩
   obtain ⟨k2, hk2⟩ : ∃ k2, k + t = k2 := ⟨_, rfl⟩
   have HK2 := Lib.hid (show k2 ≤ 8193 by omega)
   have HTT := Lib.hid ht
   have w4 : wrap64 ((k : Int) + (t : Int)) = (k2 : Int) := by unfold wrap64; omega
   have w5 : wrap64 ((i : Int) + 1) = ((i + 1 : Nat) : Int) := by unfold wrap64; omega
   clear hy hlt hk ht hk2
   go_wp2_with fail
   refine (rNodes_calls y _ (HYL.out.below HB.out)).mono ?_
   rintro e w7 ⟨rfl, b7⟩
   rw [HTT.out]
   have B7 := Lib.hid (HB.out.trans (b7.mono HB.out.size))
   clear b7 c0 c1 c2 c3 hblk
   go_wp2_with fail
   go_roundg (gk - 1)
   case measure => clear w4 w5; have := HI.out; have := HLT.out; omega
   case rel => exact ⟨i + 1, k2, by first | rfl | simp [w4], by first | rfl | simp [w5], ⟨by clear w4 w5; have := HI.out; have := HLT.out; omega, HK2.out⟩, ⟨B7.out⟩⟩
  ·have HEND := Lib.hid hend
   by_cases hlt : i < len
   ·have hk : ¬ k ≤ 4096 := fun hk => hend ⟨hlt, hk⟩
    have q1 : ((i : Int) < (len : Int)) = True := eq_true (by omega)
    have q2 : (i < len) = True := eq_true hlt
    have q3 : ((k : Int) ≤ 4096) = False := eq_false (by omega)
    have q4 : (k ≤ 4096) = False := eq_false hk
    clear hend hlt hk
    go_wp2_with fail
    go_ret
    exact ⟨⟨_, rfl⟩, B2.out.trans (HB.out.mono B2.out.size)⟩
   ·have q1 : ((i : Int) < (len : Int)) = False := eq_false (by omega)
    have q2 : (i < len) = False := eq_false hlt
    clear hend hlt
    go_wp2_with fail
    go_ret
    exact ⟨⟨_, rfl⟩, B2.out.trans (HB.out.mono B2.out.size)⟩
end Go.Proofs.YtpljkcakijkklaaDoor

end
