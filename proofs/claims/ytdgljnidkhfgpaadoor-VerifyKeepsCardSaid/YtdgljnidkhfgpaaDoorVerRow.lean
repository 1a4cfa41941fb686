/-
  The program as an argument that can be read as data.
-/
import Derived.Test.YtdgljnidkhfgpaaDoorVerDoor
import Derived.Test.YtdgljnidkhfgpaaDoorOpens
namespace Go.Proofs.YtdgljnidkhfgpaaDoor
set_option linter.unusedVariables false
set_option linter.unusedSimpArgs false
open Go.RowKit Go.Proofs.YtdgljnidkhfgpaaDoorW.PrintWords
theorem wf_bounds {n : Int} (h : (Lit.int .i64 n).wf = true) : -9223372036854775808 ≤ n ∧ n ≤ 9223372036854775807 := by
  have h2 : IntKind.i64.min ≤ n ∧ n ≤ 9223372036854775807 := by simpa [Lit.wf] using h
  have e : IntKind.i64.min = -9223372036854775808 := by decide
  omega
theorem sl_c {P : Program} {e : TypeId} {α : Type} {c : α → List Value} {okE : World → α → Prop} {k : Kd α} {W : World} {s : Sl α} (hs : Sl.ok P e c okE W s) (hk : ∀ x, k.K W x (c x)) (hz : P.cellsOf e = k.sz) :
    (s.all.take s.len).length = s.len ∧ Kd.C k W s.at_ (s.all.take s.len).length (s.all.take s.len) := by
  obtain ⟨h1, h2, h3, h4, h5, h6⟩ := hs
  have hl : (s.all.take s.len).length = s.len := by rw [List.length_take]; omega
  refine ⟨hl, rfl, by rw [hl]; simp only [maxLen] at h2; omega, fun hp => ?_⟩
  rw [hl] at hp
  rcases h6 with ⟨_, h6⟩ | ⟨a, ha, hc⟩
  · omega
  refine ⟨a, ha, fun j p hj => ⟨c p, k.K_len (hk p), hk p, fun i u hu => ?_⟩⟩
  rw [List.getElem?_take] at hj
  split at hj
  · have hz' := cells_get (hc j p hj) i u hu
    rw [hz, Addr.add_add] at hz'
    exact hz'
  · cases hj
set_option maxRecDepth 100000
theorem instr_opn : Opn Tryd.prog 52 (fun x : InstrS => [.int .i64 x.f0, .int .i64 x.f1]) (fun _ x => -9223372036854775808 ≤ x.f1 ∧ x.f1 ≤ 9223372036854775807) := by
  intro H enc w fuel cs x hx hw
  obtain ⟨a, ha, hk⟩ := opn_struct Tryd.underlying52 (by kernel_rfl) (opnF_cons rfl (sz := 1) (by kernel_rfl) (opn_int Tryd.underlying3) (opnF_last rfl (opn_int Tryd.underlying2))) hx hw
  exact ⟨⟨a.1, a.2⟩, ha, wf_bounds hk.2⟩
theorem win_opn : Opn Tryd.prog 78 (fun x : WinS => [.int .i64 x.f0, .int .i64 x.f1, .int .i64 x.f2, .int .i64 x.f3]) (fun _ _ => True) := by
  intro H enc w fuel cs x hx hw
  obtain ⟨a, ha, hk⟩ := opn_struct Tryd.underlying78 (by kernel_rfl) (opnF_cons rfl (sz := 1) (by kernel_rfl) (opn_int Tryd.underlying3) (opnF_cons rfl (sz := 1) (by kernel_rfl) (opn_int Tryd.underlying3) (opnF_cons rfl (sz := 1) (by kernel_rfl) (opn_int Tryd.underlying2) (opnF_last rfl (opn_int Tryd.underlying2))))) hx hw
  exact ⟨⟨a.1, a.2.1, a.2.2.1, a.2.2.2⟩, ha, trivial⟩
theorem cron_opn : Opn Tryd.prog 82 (fun x : CronS => [.int .u64 x.f0, .int .u64 x.f1, .int .u64 x.f2, .int .u64 x.f3, .int .u64 x.f4]) (fun _ _ => True) := by
  intro H enc w fuel cs x hx hw
  obtain ⟨a, ha, hk⟩ := opn_struct Tryd.underlying82 (by kernel_rfl) (opnF_cons rfl (sz := 1) (by kernel_rfl) (opn_int Tryd.underlying80) (opnF_cons rfl (sz := 1) (by kernel_rfl) (opn_int Tryd.underlying80) (opnF_cons rfl (sz := 1) (by kernel_rfl) (opn_int Tryd.underlying80) (opnF_cons rfl (sz := 1) (by kernel_rfl) (opn_int Tryd.underlying80) (opnF_last rfl (opn_int Tryd.underlying80)))))) hx hw
  exact ⟨⟨a.1, a.2.1, a.2.2.1, a.2.2.2.1, a.2.2.2.2⟩, ha, trivial⟩
theorem rules_opn : Opn Tryd.prog 24 (fun x : Int × Int × Int × Int × Int => [.int .i64 x.1, .int .i64 x.2.1, .int .i64 x.2.2.1, .int .i64 x.2.2.2.1, .int .i64 x.2.2.2.2]) (fun _ _ => True) := by
  intro H enc w fuel cs x hx hw
  obtain ⟨a, ha, hk⟩ := opn_struct Tryd.underlying24 (by kernel_rfl) (opnF_cons rfl (sz := 1) (by kernel_rfl) (opn_int Tryd.underlying2) (opnF_cons rfl (sz := 1) (by kernel_rfl) (opn_int Tryd.underlying2) (opnF_cons rfl (sz := 1) (by kernel_rfl) (opn_int Tryd.underlying2) (opnF_cons rfl (sz := 1) (by kernel_rfl) (opn_int Tryd.underlying2) (opnF_last rfl (opn_int Tryd.underlying2)))))) hx hw
  exact ⟨a, ha, trivial⟩
/-- A program as it comes in. -/
structure PgS where
  m : Int
  r : Int × Int × Int × Int × Int
  consts : Sl Int
  wins : Sl WinS
  crons : Sl CronS
  locals : Int
  height : Int
  code : Sl InstrS
def PgS.cells (x : PgS) : List Value := [.int .i64 x.m, .int .i64 x.r.1, .int .i64 x.r.2.1, .int .i64 x.r.2.2.1, .int .i64 x.r.2.2.2.1, .int .i64 x.r.2.2.2.2, .slice x.consts.at_ x.consts.len x.consts.cap, .slice x.wins.at_ x.wins.len x.wins.cap, .slice x.crons.at_ x.crons.len x.crons.cap, .int .i64 x.locals, .int .i64 x.height, .slice x.code.at_ x.code.len x.code.cap]
def PgS.ok (W : World) (x : PgS) : Prop :=
  Sl.ok Tryd.prog 2 (fun n : Int => [.int .i64 n]) (fun _ n => (Lit.int .i64 n).wf = true) W x.consts ∧
  Sl.ok Tryd.prog 78 (fun x : WinS => [.int .i64 x.f0, .int .i64 x.f1, .int .i64 x.f2, .int .i64 x.f3]) (fun _ _ => True) W x.wins ∧
  Sl.ok Tryd.prog 82 (fun x : CronS => [.int .u64 x.f0, .int .u64 x.f1, .int .u64 x.f2, .int .u64 x.f3, .int .u64 x.f4]) (fun _ _ => True) W x.crons ∧
  Sl.ok Tryd.prog 52 (fun x : InstrS => [.int .i64 x.f0, .int .i64 x.f1]) (fun _ x => -9223372036854775808 ≤ x.f1 ∧ x.f1 ≤ 9223372036854775807) W x.code
theorem prog_opn : Opn Tryd.prog 38 PgS.cells PgS.ok := by
  intro H enc w fuel cs x hx hw
  obtain ⟨a, ha, hk⟩ := opn_struct Tryd.underlying38 (by kernel_rfl)
    (opnF_cons rfl (sz := 1) (by kernel_rfl) (opn_int Tryd.underlying3)
      (opnF_cons rfl (sz := 5) (by kernel_rfl) rules_opn
        (opnF_cons rfl (sz := 1) (by kernel_rfl) (opn_slice Tryd.underlying35 (opn_int Tryd.underlying2))
          (opnF_cons rfl (sz := 1) (by kernel_rfl) (opn_slice Tryd.underlying25 win_opn)
            (opnF_cons rfl (sz := 1) (by kernel_rfl) (opn_slice Tryd.underlying26 cron_opn)
              (opnF_cons rfl (sz := 1) (by kernel_rfl) (opn_int Tryd.underlying3)
                (opnF_cons rfl (sz := 1) (by kernel_rfl) (opn_int Tryd.underlying3)
                  (opnF_last rfl (opn_slice Tryd.underlying36 instr_opn))))))))) hx hw
  exact ⟨⟨a.1, a.2.1, a.2.2.1, a.2.2.2.1, a.2.2.2.2.1, a.2.2.2.2.2.1, a.2.2.2.2.2.2.1, a.2.2.2.2.2.2.2⟩, ha, ⟨hk.2.2.1, hk.2.2.2.1, hk.2.2.2.2.1, hk.2.2.2.2.2.2.2⟩⟩
def PgS.pg (x : PgS) : Pg := ⟨x.m, x.r.1, x.r.2.1, x.r.2.2.1, x.r.2.2.2.1, x.r.2.2.2.2, x.consts.all.take x.consts.len, x.wins.all.take x.wins.len, x.crons.all.take x.crons.len, x.locals, x.height, x.code.all.take x.code.len⟩
def PgS.hd (x : PgS) : Hd := ⟨x.consts.at_, x.consts.cap, x.wins.at_, x.wins.cap, x.crons.at_, x.crons.cap, x.code.at_, x.code.cap⟩
theorem PgS.isIn {W : World} {x : PgS} (h : x.ok W) : PgIn W x.pg x.hd ∧ (∀ y ∈ x.pg.code, -9223372036854775808 ≤ y.f1 ∧ y.f1 ≤ 9223372036854775807) ∧
    x.pg.consts.length = x.consts.len ∧ x.pg.wins.length = x.wins.len ∧ x.pg.crons.length = x.crons.len ∧ x.pg.code.length = x.code.len := by
  obtain ⟨h1, h2, h3, h4⟩ := h
  have a1 := sl_c (k := Kd.int .i64) h1 (fun _ => rfl) (by kernel_rfl)
  have a2 := sl_c (k := kWinS) h2 (fun x => kWinS_mk W x) (by kernel_rfl)
  have a3 := sl_c (k := kCronS) h3 (fun x => kCronS_mk W x) (by kernel_rfl)
  have a4 := sl_c (k := kInstrS) h4 (fun x => kInstrS_mk W x) (by kernel_rfl)
  refine ⟨⟨a1.2, ?_, a2.2, ?_, a3.2, ?_, a4.2, ?_⟩, fun y hy => h4.2.2.2.2.1 y (List.mem_of_mem_take hy), a1.1, a2.1, a3.1, a4.1⟩
  · exact Nat.le_trans (Nat.le_of_eq a1.1) h1.1
  · exact Nat.le_trans (Nat.le_of_eq a2.1) h2.1
  · exact Nat.le_trans (Nat.le_of_eq a3.1) h3.1
  · exact Nat.le_trans (Nat.le_of_eq a4.1) h4.1
/-- A value that can be read as a program is one. -/
theorem prog_arg {H : Type} {enc : TypeId × Value → H} {base : Nat} {d : DataW H} {p : List MemPlace} {v : Value} {W : World} (hval : Value.okWide Tryd.prog W .any base 38 v)
    (h : DataW.Trod enc Tryd.prog W 0 (fun _ => true) true 38 v d p) (y : ∀ n ∈ DataW.weights Tryd.prog 38 d, n ≤ reachBytes) :
    ∃ (q : Pg) (e : Hd), PgIn W q e ∧ (∀ y ∈ q.code, -9223372036854775808 ≤ y.f1 ∧ y.f1 ≤ 9223372036854775807) ∧
      v = .agg #[.int .i64 q.m, .int .i64 q.r0, .int .i64 q.r1, .int .i64 q.r2, .int .i64 q.r3, .int .i64 q.r4, .slice e.a6 q.consts.length e.c6, .slice e.a7 q.wins.length e.c7, .slice e.a8 q.crons.length e.c8, .int .i64 q.locals, .int .i64 q.height, .slice e.a11 q.code.length e.c11] := by
  obtain ⟨cs, rfl, hsz⟩ := WideShapes.okWide_struct Tryd.underlying38 hval
  obtain ⟨fuel, hf⟩ := h
  obtain ⟨s, hs, hok⟩ := prog_opn hf y
  obtain ⟨i1, i2, i3, i4, i5, i6⟩ := PgS.isIn hok
  refine ⟨s.pg, s.hd, i1, i2, ?_⟩
  rw [i3, i4, i5, i6]
  have hs' : cs.toList = s.cells := by simpa [Value.cells] using hs
  have : cs = s.cells.toArray := by rw [← hs']
  rw [this]
  rfl
theorem VerifyDown_row {H : Type} {enc : TypeId × Value → H} {base : Nat} {d : DataW H} {p : List MemPlace} (v : Value) (W : World) (hL : laidMetH Tryd.prog laid2 W) (hval : Value.okWide Tryd.prog W .any base 38 v)
    (h : DataW.Trod enc Tryd.prog W 0 (fun _ => true) true 38 v d p) (y : ∀ n ∈ DataW.weights Tryd.prog 38 d, n ≤ reachBytes) :
    Calls Tryd.prog 4 #[v] W fun e w' => e = .returned (.bool true) ∧ Below W.heap.size W w' := by
  obtain ⟨q, e, h1, h2, rfl⟩ := prog_arg hval h y
  obtain ⟨hF, hT⟩ := of_laid hL
  exact down_calls h1 hF hT h2
end Go.Proofs.YtdgljnidkhfgpaaDoor
