/-
  Texts of this seat, joined, less what CoreCopies does not lean on: Clone, NewP.
-/
import Derived.Test.YtpljkcakijkklaaDoorQCoreCopies19
import Derived.Lib.SliceRun
set_option linter.unusedVariables false
set_option linter.unusedSimpArgs false
set_option maxHeartbeats 4000000
set_option maxRecDepth 100000
section
namespace Go.Proofs.YtpljkcakijkklaaDoor
set_option linter.unusedVariables false
set_option linter.unusedSimpArgs false
open Go.RowKit Go.Proofs.YtpljkcakijkklaaDoorW.PrintWords Go.Proofs.YtpljkcakijkklaaDoorW.PrintLast Go.Proofs.YtpljkcakijkklaaDoorW.PrintMore

theorem arr_cells {w : World} {b : Addr} {sz : Nat} {α : Type} {c : α → List Value} : ∀ {l : List α} (h : ArrL w (some b) sz c l) (hs : ∀ x, (c x).length = sz) (j : Nat) (u : Value), (l.flatMap c)[j]? = some u → w.cell? (b.add j) = some u := by
 intro l h hs j u hj
 have hsz : 0 < sz := by
  rcases Nat.eq_zero_or_pos sz with h0 | h0
  ·exfalso
   have hz : (l.flatMap c) = [] := by
    rw [List.flatMap_eq_nil_iff]
    intro x _
    exact List.eq_nil_of_length_eq_zero ((hs x).trans h0)
   rw [hz] at hj
   cases hj
  ·exact h0
 have key : ∀ (l : List α) (i : Nat) (u : Value), (l.flatMap c)[i]? = some u → ∃ x, l[i / sz]? = some x ∧ (c x)[i % sz]? = some u := by
  intro l
  induction l with
  | nil => intro i u hi; cases hi
  | cons a t ih =>
   intro i u hi
   rw [List.flatMap_cons] at hi
   rcases Nat.lt_or_ge i sz with hlt | hge
   ·rw [List.getElem?_append_left (by rw [hs]; exact hlt)] at hi
    rw [Nat.div_eq_of_lt hlt, Nat.mod_eq_of_lt hlt]
    exact ⟨a, rfl, hi⟩
   ·rw [List.getElem?_append_right (by rw [hs]; exact hge), hs] at hi
    obtain ⟨x, h1, h2⟩ := ih (i - sz) u hi
    refine ⟨x, ?_, ?_⟩
    ·rw [Nat.div_eq_sub_div hsz hge, List.getElem?_cons_succ]
     exact h1
    ·rw [Nat.mod_eq_sub_mod hge]
     exact h2
 obtain ⟨x, h1, h2⟩ := key l j u hj
 obtain ⟨b', e, hc⟩ := h _ _ h1
 injection e with e
 subst e
 have h3 := cells_get hc _ u h2
 rw [Addr.add_add, Nat.div_add_mod'] at h3
 exact h3
theorem own_arr {w : World} {base : Nat} {t : TypeId} {sz : Nat} {v : Value} {α : Type} {c : α → List Value} {l : List α} (h : w.ownsRow base t sz v l.length (l.flatMap c)) (hs : ∀ x, (c x).length = sz) (hz : 0 < sz) :
  ∃ a cap, v = .slice a l.length cap ∧ l.length ≤ cap ∧ ArrL w a sz c l := by
 obtain ⟨h1, h2⟩ := h
 rcases h2 with ⟨rfl, h0⟩ | ⟨g, cap, cur, rfl, hg, hh, hn, hcap, hsz, htake⟩
 ·refine ⟨none, 0, by rw [h0], by omega, fun i x hx => ?_⟩
  have := (List.getElem?_eq_some_iff.1 hx).1
  omega
 ·refine ⟨_, cap, rfl, hn, fun i x hx => ⟨_, rfl, World.cells?_of_each (Nat.zero_le _) (hs x) fun j hj => ?_⟩⟩
  have hil : i < l.length := (List.getElem?_eq_some_iff.1 hx).1
  have hf : (l.flatMap c)[i * sz + j]? = (c x)[j]? := by
   clear hh hn hcap hsz htake h1
   induction l generalizing i with
   | nil => cases hx
   | cons a t ih =>
    cases i with
    | zero =>
     simp at hx
     subst hx
     rw [List.flatMap_cons, Nat.zero_mul, Nat.zero_add, List.getElem?_append_left (by rw [hs]; exact hj)]
    | succ i =>
     rw [List.flatMap_cons, List.getElem?_append_right (by rw [hs, Nat.succ_mul]; omega), hs, show (i + 1) * sz + j - sz = i * sz + j by rw [Nat.succ_mul]; omega]
     exact ih i (by simpa using hx) (by simpa using hil)
  have hc := blk_cell hh (i * sz + j)
  have e : ((⟨g, 0, none⟩ : Addr).add (i * sz)).add j = ⟨g, i * sz + j, none⟩ := by
   rw [Addr.add_add]
   cases h : i * sz + j with
   | zero => rfl
   | succ k => simp [Addr.add]
  have hle : i * sz + j < l.length * sz := by
   have : (i + 1) * sz ≤ l.length * sz := Nat.mul_le_mul_right _ hil
   rw [Nat.succ_mul] at this
   omega
  rw [e, hc, ← hf, ← htake, List.getElem?_take, if_pos hle]
  simp
theorem strings_info : ∃ i, Tryd.prog.info? 9 = some i ∧ i.zero = some (Value.string ByteArray.empty) ∧ i.size = 1 ∧ i.bytes = 16 := by
 obtain ⟨i0, hi, hzz⟩ := Option.map_eq_some_iff.1 (show (Tryd.prog.info? 9).map (fun i => (i.zero, i.size, i.bytes)) = some (some (Value.string ByteArray.empty), 1, 16) by kernel_rfl)
 simp only [Prod.mk.injEq] at hzz
 exact ⟨i0, hi, hzz.1, hzz.2.1, hzz.2.2⟩
theorem strings_one (l : List ByteArray) : ∀ u ∈ l.flatMap (fun s => [Value.string s]), u.oneCell' = true := by
 intro u hu
 obtain ⟨x, hx, hu⟩ := List.mem_flatMap.1 hu
 simp only [WinP.cells, CronP.cells, List.mem_cons, List.not_mem_nil, or_false] at hu
 first
  | (subst hu; rfl)
  | (rcases hu with rfl | rfl | rfl | rfl <;> rfl)
  | (rcases hu with rfl | rfl | rfl | rfl | rfl <;> rfl)
theorem clone_strings {a : Option Addr} {cap : Nat} {l : List ByteArray} {w : World} (h : ArrL w a 1 (fun s => [Value.string s]) l) (hl : l.length ≤ 8796093021952) :
  Calls Tryd.prog 30 #[.slice a l.length cap] w fun e w' => (∃ v, e = .returned v ∧ w'.ownsRow w.heap.size 9 1 v l.length (l.flatMap (fun s => [Value.string s]))) ∧ Below w.heap.size w w' := by
 obtain ⟨i0, hi, hz0, hz1, hz2⟩ := strings_info
 cases a with
 | none =>
  obtain rfl : l = [] := by
   cases l with
   | nil => rfl
   | cons x t =>
    obtain ⟨b, hb, -⟩ := h 0 x rfl
    cases hb
  have hq : ∀ w : World, (binOp .eql 46 (.slice none 0 cap) (.slice none 0 0)).run Tryd.prog w = .ok (.bool true) w := fun w => Lib.run_eql_slice_nil (P := Tryd.prog) w 46 9 none 0 cap 0 0 Tryd.underlying46
  go_enter Tryd.func30, Tryd.ntmps30
  go_wp2_with fail
  go_ret
  exact ⟨⟨_, rfl, World.ownsRow_nil _ _ _ _⟩, Below.refl _ _⟩
 | some b =>
  have hc := arr_cells h (fun x => by first | rfl | simp)
  have HC := Lib.hid hc
  have HL := Lib.hid hl
  have hlen : (l.flatMap (fun s => [Value.string s])).length = l.length * 1 := by
   rw [List.length_flatMap]
   have : (l.map fun x => ((fun s => [Value.string s]) x).length) = l.map fun _ => 1 := rfl
   rw [this, List.map_const', List.sum_replicate_nat]
  have HLEN := Lib.hid hlen
  obtain ⟨n, hn⟩ : ∃ n, l.length = n := ⟨_, rfl⟩
  rw [hn] at HLEN HL ⊢
  have hq : ∀ w : World, (binOp .eql 46 (.slice (some b) n cap) (.slice none 0 0)).run Tryd.prog w = .ok (.bool false) w := fun w => Lib.run_eql_slice_nil (P := Tryd.prog) w 46 9 (some b) n cap 0 0 Tryd.underlying46
  clear hc hl h hlen
  go_enter Tryd.func30, Tryd.ntmps30
  have hlim := HL.out
  go_wp2_with (first
   | (
    at_builtin
    refine wpList_append_own_at _ rfl _ _ 46 rfl w.heap.size 9 i0 (Value.string ByteArray.empty) 1 16 Tryd.underlying46 hi hz0 hz1 hz2 rfl (by decide) _ 0 [] rfl ?own b n cap (l.flatMap (fun s => [Value.string s])) rfl HLEN.out ?cells (strings_one l) (by simp only [maxLen]; omega) (by omega) (by simp) ?_
    case own => exact ⟨rfl, .inr ⟨w.heap.size, 0, #[], rfl, Nat.le_refl _, blk_new _ _, Nat.le_refl _, by decide, rfl, rfl⟩⟩
    case cells =>
     intro j u hj
     have h1 := HC.out j u hj
     exact (Below.cell (below_alloc (Below.refl _ _) _) (World.block_lt_of_cell? w _ h1)).trans h1
    intro v' w3 hown' hgrow' hnil' hat'
    have X : Aside (w3.ownsRow w.heap.size 9 1 v' n (l.flatMap (fun s => [Value.string s])) ∧ Below w.heap.size w w3) := ⟨by rw [Nat.zero_add, List.nil_append] at hown'; exact hown', Below.grown (below_alloc (Below.refl _ _) _) hgrow' (by simp) (fun j hj => by cases hj; exact Nat.le_refl _)⟩
    clear hown' hgrow' hnil' hat'))
  go_ret
  exact ⟨⟨_, rfl, X.out.1⟩, X.out.2⟩
theorem wins_info : ∃ i, Tryd.prog.info? 62 = some i ∧ i.zero = some (.agg #[.int .i64 0, .int .i64 0, .int .i64 0, .int .i64 0]) ∧ i.size = 4 ∧ i.bytes = 32 := by
 obtain ⟨i0, hi, hzz⟩ := Option.map_eq_some_iff.1 (show (Tryd.prog.info? 62).map (fun i => (i.zero, i.size, i.bytes)) = some (some (.agg #[.int .i64 0, .int .i64 0, .int .i64 0, .int .i64 0]), 4, 32) by kernel_rfl)
 simp only [Prod.mk.injEq] at hzz
 exact ⟨i0, hi, hzz.1, hzz.2.1, hzz.2.2⟩
theorem wins_one (l : List WinP) : ∀ u ∈ l.flatMap WinP.cells, u.oneCell' = true := by
 intro u hu
 obtain ⟨x, hx, hu⟩ := List.mem_flatMap.1 hu
 simp only [WinP.cells, CronP.cells, List.mem_cons, List.not_mem_nil, or_false] at hu
 first
  | (subst hu; rfl)
  | (rcases hu with rfl | rfl | rfl | rfl <;> rfl)
  | (rcases hu with rfl | rfl | rfl | rfl | rfl <;> rfl)
theorem clone_wins {a : Option Addr} {cap : Nat} {l : List WinP} {w : World} (h : ArrL w a 4 WinP.cells l) (hl : l.length ≤ 4398046510976) :
  Calls Tryd.prog 31 #[.slice a l.length cap] w fun e w' => (∃ v, e = .returned v ∧ w'.ownsRow w.heap.size 62 4 v l.length (l.flatMap WinP.cells)) ∧ Below w.heap.size w w' := by
 obtain ⟨i0, hi, hz0, hz1, hz2⟩ := wins_info
 cases a with
 | none =>
  obtain rfl : l = [] := by
   cases l with
   | nil => rfl
   | cons x t =>
    obtain ⟨b, hb, -⟩ := h 0 x rfl
    cases hb
  have hq : ∀ w : World, (binOp .eql 49 (.slice none 0 cap) (.slice none 0 0)).run Tryd.prog w = .ok (.bool true) w := fun w => Lib.run_eql_slice_nil (P := Tryd.prog) w 49 62 none 0 cap 0 0 Tryd.underlying49
  go_enter Tryd.func31, Tryd.ntmps31
  go_wp2_with fail
  go_ret
  exact ⟨⟨_, rfl, World.ownsRow_nil _ _ _ _⟩, Below.refl _ _⟩
 | some b =>
  have hc := arr_cells h (fun x => by first | rfl | simp)
  have HC := Lib.hid hc
  have HL := Lib.hid hl
  have hlen : (l.flatMap WinP.cells).length = l.length * 4 := by
   rw [List.length_flatMap]
   have : (l.map fun x => (WinP.cells x).length) = l.map fun _ => 4 := rfl
   rw [this, List.map_const', List.sum_replicate_nat]
  have HLEN := Lib.hid hlen
  obtain ⟨n, hn⟩ : ∃ n, l.length = n := ⟨_, rfl⟩
  rw [hn] at HLEN HL ⊢
  have hq : ∀ w : World, (binOp .eql 49 (.slice (some b) n cap) (.slice none 0 0)).run Tryd.prog w = .ok (.bool false) w := fun w => Lib.run_eql_slice_nil (P := Tryd.prog) w 49 62 (some b) n cap 0 0 Tryd.underlying49
  clear hc hl h hlen
  go_enter Tryd.func31, Tryd.ntmps31
  have hlim := HL.out
  go_wp2_with (first
   | (
    at_builtin
    refine wpList_append_own_at _ rfl _ _ 49 rfl w.heap.size 62 i0 (.agg #[.int .i64 0, .int .i64 0, .int .i64 0, .int .i64 0]) 4 32 Tryd.underlying49 hi hz0 hz1 hz2 rfl (by decide) _ 0 [] rfl ?own b n cap (l.flatMap WinP.cells) rfl HLEN.out ?cells (wins_one l) (by simp only [maxLen]; omega) (by omega) (by simp) ?_
    case own => exact ⟨rfl, .inr ⟨w.heap.size, 0, #[], rfl, Nat.le_refl _, blk_new _ _, Nat.le_refl _, by decide, rfl, rfl⟩⟩
    case cells =>
     intro j u hj
     have h1 := HC.out j u hj
     exact (Below.cell (below_alloc (Below.refl _ _) _) (World.block_lt_of_cell? w _ h1)).trans h1
    intro v' w3 hown' hgrow' hnil' hat'
    have X : Aside (w3.ownsRow w.heap.size 62 4 v' n (l.flatMap WinP.cells) ∧ Below w.heap.size w w3) := ⟨by rw [Nat.zero_add, List.nil_append] at hown'; exact hown', Below.grown (below_alloc (Below.refl _ _) _) hgrow' (by simp) (fun j hj => by cases hj; exact Nat.le_refl _)⟩
    clear hown' hgrow' hnil' hat'))
  go_ret
  exact ⟨⟨_, rfl, X.out.1⟩, X.out.2⟩
theorem crons_info : ∃ i, Tryd.prog.info? 65 = some i ∧ i.zero = some (.agg #[.int .u64 0, .int .u64 0, .int .u64 0, .int .u64 0, .int .u64 0]) ∧ i.size = 5 ∧ i.bytes = 40 := by
 obtain ⟨i0, hi, hzz⟩ := Option.map_eq_some_iff.1 (show (Tryd.prog.info? 65).map (fun i => (i.zero, i.size, i.bytes)) = some (some (.agg #[.int .u64 0, .int .u64 0, .int .u64 0, .int .u64 0, .int .u64 0]), 5, 40) by kernel_rfl)
 simp only [Prod.mk.injEq] at hzz
 exact ⟨i0, hi, hzz.1, hzz.2.1, hzz.2.2⟩
theorem crons_one (l : List CronP) : ∀ u ∈ l.flatMap CronP.cells, u.oneCell' = true := by
 intro u hu
 obtain ⟨x, hx, hu⟩ := List.mem_flatMap.1 hu
 simp only [WinP.cells, CronP.cells, List.mem_cons, List.not_mem_nil, or_false] at hu
 first
  | (subst hu; rfl)
  | (rcases hu with rfl | rfl | rfl | rfl <;> rfl)
  | (rcases hu with rfl | rfl | rfl | rfl | rfl <;> rfl)
theorem clone_crons {a : Option Addr} {cap : Nat} {l : List CronP} {w : World} (h : ArrL w a 5 CronP.cells l) (hl : l.length ≤ 3518437208780) :
  Calls Tryd.prog 32 #[.slice a l.length cap] w fun e w' => (∃ v, e = .returned v ∧ w'.ownsRow w.heap.size 65 5 v l.length (l.flatMap CronP.cells)) ∧ Below w.heap.size w w' := by
 obtain ⟨i0, hi, hz0, hz1, hz2⟩ := crons_info
 cases a with
 | none =>
  obtain rfl : l = [] := by
   cases l with
   | nil => rfl
   | cons x t =>
    obtain ⟨b, hb, -⟩ := h 0 x rfl
    cases hb
  have hq : ∀ w : World, (binOp .eql 50 (.slice none 0 cap) (.slice none 0 0)).run Tryd.prog w = .ok (.bool true) w := fun w => Lib.run_eql_slice_nil (P := Tryd.prog) w 50 65 none 0 cap 0 0 Tryd.underlying50
  go_enter Tryd.func32, Tryd.ntmps32
  go_wp2_with fail
  go_ret
  exact ⟨⟨_, rfl, World.ownsRow_nil _ _ _ _⟩, Below.refl _ _⟩
 | some b =>
  have hc := arr_cells h (fun x => by first | rfl | simp)
  have HC := Lib.hid hc
  have HL := Lib.hid hl
  have hlen : (l.flatMap CronP.cells).length = l.length * 5 := by
   rw [List.length_flatMap]
   have : (l.map fun x => (CronP.cells x).length) = l.map fun _ => 5 := rfl
   rw [this, List.map_const', List.sum_replicate_nat]
  have HLEN := Lib.hid hlen
  obtain ⟨n, hn⟩ : ∃ n, l.length = n := ⟨_, rfl⟩
  rw [hn] at HLEN HL ⊢
  have hq : ∀ w : World, (binOp .eql 50 (.slice (some b) n cap) (.slice none 0 0)).run Tryd.prog w = .ok (.bool false) w := fun w => Lib.run_eql_slice_nil (P := Tryd.prog) w 50 65 (some b) n cap 0 0 Tryd.underlying50
  clear hc hl h hlen
  go_enter Tryd.func32, Tryd.ntmps32
  have hlim := HL.out
  go_wp2_with (first
   | (
    at_builtin
    refine wpList_append_own_at _ rfl _ _ 50 rfl w.heap.size 65 i0 (.agg #[.int .u64 0, .int .u64 0, .int .u64 0, .int .u64 0, .int .u64 0]) 5 40 Tryd.underlying50 hi hz0 hz1 hz2 rfl (by decide) _ 0 [] rfl ?own b n cap (l.flatMap CronP.cells) rfl HLEN.out ?cells (crons_one l) (by simp only [maxLen]; omega) (by omega) (by simp) ?_
    case own => exact ⟨rfl, .inr ⟨w.heap.size, 0, #[], rfl, Nat.le_refl _, blk_new _ _, Nat.le_refl _, by decide, rfl, rfl⟩⟩
    case cells =>
     intro j u hj
     have h1 := HC.out j u hj
     exact (Below.cell (below_alloc (Below.refl _ _) _) (World.block_lt_of_cell? w _ h1)).trans h1
    intro v' w3 hown' hgrow' hnil' hat'
    have X : Aside (w3.ownsRow w.heap.size 65 5 v' n (l.flatMap CronP.cells) ∧ Below w.heap.size w w3) := ⟨by rw [Nat.zero_add, List.nil_append] at hown'; exact hown', Below.grown (below_alloc (Below.refl _ _) _) hgrow' (by simp) (fun j hj => by cases hj; exact Nat.le_refl _)⟩
    clear hown' hgrow' hnil' hat'))
  go_ret
  exact ⟨⟨_, rfl, X.out.1⟩, X.out.2⟩
end Go.Proofs.YtpljkcakijkklaaDoor

end
section
namespace Go.Proofs.YtpljkcakijkklaaDoor
set_option linter.unusedVariables false
set_option linter.unusedSimpArgs false
open Go.RowKit Go.Proofs.YtpljkcakijkklaaDoorW.PrintWords Go.Proofs.YtpljkcakijkklaaDoorW.PrintLast Go.Proofs.YtpljkcakijkklaaDoorW.PrintMore

structure Ex (ks : List Nat) (w w' : World) : Prop where
 os : w'.os = w.os
 tape : w'.tape = w.tape
 output : w'.output = w.output
 size : w.heap.size ≤ w'.heap.size
 block : ∀ k, k < w.heap.size → k ∉ ks → w'.heap[k]? = w.heap[k]?
theorem Ex.refl (ks : List Nat) (w : World) : Ex ks w w := ⟨rfl, rfl, rfl, Nat.le_refl _, fun _ _ _ => rfl⟩
theorem Ex.trans {ks : List Nat} {a b c : World} (h : Ex ks a b) (k : Ex ks b c) : Ex ks a c :=
 ⟨k.os.trans h.os, k.tape.trans h.tape, k.output.trans h.output, Nat.le_trans h.size k.size, fun i hi hn => (k.block i (Nat.lt_of_lt_of_le hi h.size) hn).trans (h.block i hi hn)⟩
theorem Ex.of_below {ks : List Nat} {w w' : World} (h : Below w.heap.size w w') : Ex ks w w' := ⟨h.os, h.tape, h.output, h.size, fun k hk _ => h.block k hk⟩
theorem Ex.set {ks : List Nat} {w w' : World} (h : Ex ks w w') {p : Addr} (hp : p.block ∈ ks) (u : Value) : Ex ks w (w'.setCell p u) :=
 h.trans ⟨rfl, rfl, rfl, by simp, fun k _ hk => Below.heap_setCell _ _ _ _ fun e => hk (e ▸ hp)⟩
theorem Ex.below {ks : List Nat} {n : Nat} {w w' : World} (h : Ex ks w w') (hn : ∀ k ∈ ks, n ≤ k) (ha : n ≤ w.heap.size) : Below n w w' :=
 ⟨h.os, h.tape, h.output, h.size, fun k hk => h.block k (by omega) fun e => by have := hn k e; omega⟩
theorem Ex.mono {ks ks' : List Nat} {w w' : World} (h : Ex ks w w') (hs : ∀ k ∈ ks, k ∈ ks') : Ex ks' w w' := ⟨h.os, h.tape, h.output, h.size, fun k hk hn => h.block k hk fun e => hn (hs k e)⟩
theorem New.ex {lo : Nat} {w w' : World} {c : Cr} {ks : List Nat} (h : New lo w c) (he : Ex ks w w') (hk : ∀ b ∈ ks, b ∉ c.fp) : New lo w' c := h.frame he.size fun b hb => he.block b (h.blocks b hb).2 fun e => hk b e hb
theorem NewL.ex {lo : Nat} {w w' : World} {l : List Cr} {row : List Nat} {ks : List Nat} (h : NewL lo w l row) (he : Ex ks w w') (hk : ∀ b ∈ ks, b ∉ fpL l) : NewL lo w' l row where
 lies := fun c hc => (h.lies c hc).frame fun b hb => he.block b (h.blocks b (fpL_mem hc b hb)).2 fun e => hk b e (fpL_mem hc b hb)
 blocks := fun b hb => ⟨(h.blocks b hb).1, Nat.lt_of_lt_of_le (h.blocks b hb).2 he.size⟩
 wr := fun b hb => (h.wr b hb).of (he.block b (h.blocks b hb).2 fun e => hk b e hb)
 apart := h.apart
 row := h.row
 zf := h.zf
theorem NewL.rows {lo : Nat} {w : World} {l : List Cr} {row row' : List Nat} (h : NewL lo w l row) (hr : ∀ b ∈ row', b ∉ fpL l) : NewL lo w l row' := ⟨h.lies, h.blocks, h.wr, h.apart, hr, h.zf⟩
theorem NewL.mono {lo lo' : Nat} {w : World} {l : List Cr} {row : List Nat} (h : NewL lo w l row) (hl : lo' ≤ lo) : NewL lo' w l row := ⟨h.lies, fun b hb => ⟨Nat.le_trans hl (h.blocks b hb).1, (h.blocks b hb).2⟩, h.wr, h.apart, h.row, h.zf⟩
theorem own_ex {w w' : World} {base : Nat} {e : TypeId} {size : Nat} {v : Value} {n : Nat} {xs : List Value} {ks : List Nat} (h : w.ownsRow base e size v n xs) (he : Ex ks w w') (hk : ∀ b, v.ownBlock = some b → b ∉ ks) : w'.ownsRow base e size v n xs := by
 refine ⟨h.1, ?_⟩
 rcases h.2 with h2 | ⟨g, cap, cur, rfl, hg, hh, h3⟩
 ·exact .inl h2
 ·exact .inr ⟨g, cap, cur, rfl, hg, (he.block g (blk_lt hh) (hk g rfl)).trans hh, h3⟩
theorem own_mono {w : World} {base base' : Nat} {e : TypeId} {size : Nat} {v : Value} {n : Nat} {xs : List Value} (h : w.ownsRow base e size v n xs) (hb : base' ≤ base) : w.ownsRow base' e size v n xs := by
 refine ⟨h.1, ?_⟩
 rcases h.2 with h2 | ⟨g, cap, cur, rfl, hg, h3⟩
 ·exact .inl h2
 ·exact .inr ⟨g, cap, cur, rfl, Nat.le_trans hb hg, h3⟩
structure SameP (q p : PlanS) : Prop where
 mets : q.mets = p.mets
 rules : q.r0 = p.r0 ∧ q.r1 = p.r1 ∧ q.r2 = p.r2 ∧ q.r3 = p.r3 ∧ q.r4 = p.r4
 wins : q.wins = p.wins
 crons : q.crons = p.crons
 locals : q.locals = p.locals
 guards : q.guards.map (fun g => (g.1.tr, g.2.tr)) = p.guards.map (fun g => (g.1.tr, g.2.tr))
 fin : q.fin.tr = p.fin.tr
theorem SameP.refl (p : PlanS) : SameP p p := ⟨rfl, ⟨rfl, rfl, rfl, rfl, rfl⟩, rfl, rfl, rfl, rfl, rfl⟩
theorem SameP.symm {p q : PlanS} (h : SameP p q) : SameP q p := ⟨h.mets.symm, ⟨h.rules.1.symm, h.rules.2.1.symm, h.rules.2.2.1.symm, h.rules.2.2.2.1.symm, h.rules.2.2.2.2.symm⟩, h.wins.symm, h.crons.symm, h.locals.symm, h.guards.symm, h.fin.symm⟩
theorem SameP.trans {p q r : PlanS} (h : SameP p q) (k : SameP q r) : SameP p r := ⟨h.mets.trans k.mets, ⟨h.rules.1.trans k.rules.1, h.rules.2.1.trans k.rules.2.1, h.rules.2.2.1.trans k.rules.2.2.1, h.rules.2.2.2.1.trans k.rules.2.2.2.1, h.rules.2.2.2.2.trans k.rules.2.2.2.2⟩, h.wins.trans k.wins, h.crons.trans k.crons, h.locals.trans k.locals, h.guards.trans k.guards, h.fin.trans k.fin⟩
def PlanS.rows (q : PlanS) : List Nat := rowB (.slice q.ma q.mets.length q.mcap) ++ (rowB (.slice q.wa q.wins.length q.wcap) ++ (rowB (.slice q.ca q.crons.length q.ccap) ++ rowB (.slice q.ga q.guards.length q.gcap)))
structure NewP (lo : Nat) (w : World) (q : PlanS) : Prop where
 mets : w.ownsRow lo 9 1 (.slice q.ma q.mets.length q.mcap) q.mets.length (q.mets.flatMap fun s => [Value.string s])
 wins : w.ownsRow lo 62 4 (.slice q.wa q.wins.length q.wcap) q.wins.length (q.wins.flatMap WinP.cells)
 crons : w.ownsRow lo 65 5 (.slice q.ca q.crons.length q.ccap) q.crons.length (q.crons.flatMap CronP.cells)
 guards : w.ownsRow lo 60 8 (.slice q.ga q.guards.length q.gcap) q.guards.length (q.guards.flatMap guardCells)
 cores : NewL lo w q.cores q.rows
theorem guardCells_len (g : Cr × Cr) : (guardCells g).length = 8 := rfl
theorem own_arr' {w : World} {base : Nat} {t : TypeId} {sz : Nat} {a : Option Addr} {cap : Nat} {α : Type} {c : α → List Value} {l : List α} (h : w.ownsRow base t sz (.slice a l.length cap) l.length (l.flatMap c)) (hs : ∀ x, (c x).length = sz) (hz : 0 < sz) : l.length ≤ cap ∧ ArrL w a sz c l := by
 obtain ⟨a', cap', e, h1, h2⟩ := own_arr h hs hz
 injection e with e1 e2 e3
 subst e1 e3
 exact ⟨h1, h2⟩
theorem NewP.planL {lo : Nat} {w w0 : World} {q p : PlanS} (h : NewP lo w q) (hs : SameP q p) (hp : PlanL w0 p) : PlanL w q where
 mets := by
  obtain ⟨h1, h2⟩ := own_arr' h.mets (fun _ => rfl) (by decide)
  exact ⟨h1, by rw [hs.mets]; exact hp.mets.2.1, by rw [hs.mets]; exact hp.mets.2.2.1, h2⟩
 rules := by
  obtain ⟨e0, e1, e2, e3, e4⟩ := hs.rules
  rw [e0, e1, e2, e3, e4]
  exact hp.rules
 wins := by
  obtain ⟨h1, h2⟩ := own_arr' h.wins (fun _ => rfl) (by decide)
  exact ⟨h1, by rw [hs.wins]; exact hp.wins.2.1, by rw [hs.wins]; exact hp.wins.2.2.1, h2⟩
 crons := by
  obtain ⟨h1, h2⟩ := own_arr' h.crons (fun _ => rfl) (by decide)
  exact ⟨h1, by rw [hs.crons]; exact hp.crons.2.1, by rw [hs.crons]; exact hp.crons.2.2.1, h2⟩
 locals := by rw [hs.locals]; exact hp.locals
 guards := by
  obtain ⟨h1, h2⟩ := own_arr' h.guards guardCells_len (by decide)
  refine ⟨h1, ?_, fun g hg => ⟨h.cores.lies _ ?_, h.cores.lies _ ?_⟩, h2⟩
  ·have e := congrArg List.length hs.guards
   rw [List.length_map, List.length_map] at e
   rw [e]
   exact hp.guards.2.1
  ·exact List.mem_append_left _ (List.mem_flatMap.2 ⟨g, hg, by simp⟩)
  ·exact List.mem_append_left _ (List.mem_flatMap.2 ⟨g, hg, by simp⟩)
 fin := h.cores.lies _ (List.mem_append_right _ (List.mem_singleton.2 rfl))
structure GrowG (lo : Nat) (R : List Nat) (K : List (Cr × Cr)) (v : Value) (w : World) : Prop where
 own : w.ownsRow lo 60 8 v K.length (K.flatMap guardCells)
 parts : NewL lo w (K.flatMap fun g => [g.1, g.2]) (rowB v ++ R)
theorem GrowG.nil (lo : Nat) (R : List Nat) (w : World) : GrowG lo R [] (.slice none 0 0) w := ⟨World.ownsRow_nil _ _ _ _, NewL.nil _ _ _⟩
theorem GrowG.below {lo : Nat} {R : List Nat} {K : List (Cr × Cr)} {v : Value} {w w' : World} (h : GrowG lo R K v w) (hb : Below w.heap.size w w') : GrowG lo R K v w' :=
 ⟨own_below h.own hb, h.parts.step hb.size (fun k hk _ => hb.block k hk) fun b hb' => .inl hb'⟩
theorem GrowG.push {lo : Nat} {R : List Nat} {K : List (Cr × Cr)} {v v' : Value} {w w1 w2 w3 w4 : World} {c d : Cr} (h : GrowG lo R K v w) (hlo : lo ≤ w.heap.size) (hR : ∀ b ∈ R, b < w.heap.size) (hb : Below w.heap.size w w1) (hc : New w.heap.size w1 c) (hb2 : Below w1.heap.size w1 w2) (hd : New w1.heap.size w2 d) (ha : Below w2.heap.size w2 w3)
  (hown : w4.ownsRow lo 60 8 v' (K.length + 1) (K.flatMap guardCells ++ guardCells (c, d))) (hgrow : w3.grownBy w4 v.ownBlock) (hat : v'.ownBlock = v.ownBlock ∨ v'.ownBlock = some w3.heap.size) : GrowG lo R (K ++ [(c, d)]) v' w4 where
 own := by
  rw [List.length_append, List.flatMap_append]
  simpa using hown
 parts := by
  have hrow : ∀ b ∈ rowB v ++ R, b < w.heap.size := fun b hb' => (List.mem_append.1 hb').elim (fun e => ((h.own.lt) b (rowB_mem e)).2) (hR b)
  have h1 := (h.below hb).parts
  have h2 := h1.push hc hlo (fun b hb' => (h.parts.blocks b hb').2) hrow
  have h3 := h2.step hb2.size (fun k hk _ => hb2.block k hk) fun b hb' => .inl hb'
  have h4 := h3.push hd (Nat.le_trans hlo hb.size) (fun b hb' => (h2.blocks b hb').2) (fun b hb' => Nat.lt_of_lt_of_le (hrow b hb') hb.size)
  have h5 := h4.step ha.size (fun k hk _ => ha.block k hk) fun b hb' => .inl hb'
  have e : (K ++ [(c, d)]).flatMap (fun g => [g.1, g.2]) = ((K.flatMap fun g => [g.1, g.2]) ++ [c]) ++ [d] := by simp
  rw [e]
  refine h5.step hgrow.size (fun k hk hn => hgrow.block k hk fun e => hn (List.mem_append_left _ (rowB_of e.symm))) fun b hb' => ?_
  rcases List.mem_append.1 hb' with e1 | e1
  ·have e := rowB_mem e1
   rcases hat with e2 | e2
   ·exact .inl (List.mem_append_left _ (rowB_of (e2.symm.trans e)))
   ·rw [e2] at e
    injection e with e
    exact .inr (by omega)
  ·exact .inl (List.mem_append_right _ e1)
theorem guard_info : ∃ i, Tryd.prog.info? 60 = some i ∧ i.zero = some (.agg #[.int .i64 0, .int .i64 0, .int .i64 0, .slice none 0 0, .int .i64 0, .int .i64 0, .int .i64 0, .slice none 0 0]) ∧ i.size = 8 ∧ i.bytes = 96 := by
 obtain ⟨i0, hi, hzz⟩ := Option.map_eq_some_iff.1 (show (Tryd.prog.info? 60).map (fun i => (i.zero, i.size, i.bytes)) = some (some (.agg #[.int .i64 0, .int .i64 0, .int .i64 0, .slice none 0 0, .int .i64 0, .int .i64 0, .int .i64 0, .slice none 0 0]), 8, 96) by kernel_rfl)
 simp only [Prod.mk.injEq] at hzz
 exact ⟨i0, hi, hzz.1, hzz.2.1, hzz.2.2⟩
end Go.Proofs.YtpljkcakijkklaaDoor

end
