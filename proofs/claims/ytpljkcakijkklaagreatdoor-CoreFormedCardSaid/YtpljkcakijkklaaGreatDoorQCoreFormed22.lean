/-
  Texts of this seat, joined, less what CoreFormed does not lean on: Memo3, FormedP, FormedP2, Formed1, Rformed.
-/
import Derived.Test.YtpljkcakijkklaaGreatDoorQCoreFormed14
import Derived.Test.YtpljkcakijkklaaGreatDoorQCoreFormed20
import Derived.Laws.EntriesVeiled
import Derived.Test.YtpljkcakijkklaaGreatDoorQCoreFormed11
set_option linter.unusedVariables false
set_option linter.unusedSimpArgs false
set_option maxHeartbeats 16000000
set_option maxRecDepth 100000
section
namespace Go.Proofs.YtpljkcakijkklaaGreatDoor
set_option linter.unusedVariables false
set_option linter.unusedSimpArgs false
open Go.RowKit Go.Maps Go.Proofs.YtpljkcakijkklaaGreatDoorW.PrintWords Go.Proofs.YtpljkcakijkklaaGreatDoorW.PrintLast Go.Proofs.YtpljkcakijkklaaGreatDoorW.PrintMore

theorem walk_calls {w0 : World} {gm g3 g4 : Nat} (k3 : w0.heap[g3]? = some (heldO gm)) (k4 : w0.heap[g4]? = some (walkO g3 g4)) (n3 : ¬ g3 = gm) (n4 : ¬ g4 = gm) (hg0 : IsM gm w0) (c : Cr) : Lies w0 c → WalkC w0 gm g3 g4 c := by
 refine Cr.ind (P := fun c => Lies w0 c → WalkC w0 gm g3 g4 c) (fun c ih => ?_) c
 intro hl hok h N W hb hm _ hN
 have ih' : ∀ k ∈ c.kids, WalkC w0 gm g3 g4 k := fun k hk => ih k hk (hl.kid hk)
 have hok2 := hok.eq
 rw [Cr.total_eq] at hN ⊢
 obtain ⟨op, n, m, at_, cap, l⟩ := c
 simp only [Cr.op_node, Cr.n_node, Cr.m_node, Cr.at_node, Cr.cap_node, Cr.kids_node] at *
 by_cases h7 : op = 7
 ·subst h7
  obtain ⟨hlen, -⟩ := hok2.1 rfl
  obtain ⟨k0, hk⟩ : ∃ k0, l = [k0] := by
   match l, hlen with
   | [k0], _ => exact ⟨k0, rfl⟩
  cases hx : h n with
  | none => exact walk_new k3 k4 n3 n4 hg0 hl hok2.2 ih' hb hm hN hk hx
  | some f => exact walk_old k3 k4 n3 n4 hg0 hl hok2.2 ih' hb hm hN hk hx
 ·exact walk_plain k3 k4 n3 n4 hg0 hl hok2.2 ih' hb hm hN h7

theorem memos_calls {p : PlanS} {w : World} (h : PlanL w p) (hok : MOkL p.cores) (htot : totalL p.cores ≤ 4096) {bb : Bool} (hb : (memoL p.cores (fun _ => none)).isSome = bb) : Calls Tryz.prog 38 #[.agg #[.slice p.ma p.mets.length p.mcap, .int .i64 p.r0, .int .i64 p.r1, .int .i64 p.r2, .int .i64 p.r3, .int .i64 p.r4, .slice p.wa p.wins.length p.wcap, .slice p.ca p.crons.length p.ccap, .int .i64 p.locals, .slice p.ga p.guards.length p.gcap, .int .i64 p.fin.op, .int .i64 p.fin.n, .int .i64 p.fin.m, .slice p.fin.at_ p.fin.kids.length p.fin.cap]] w fun e w' => e = .returned (.bool bb) ∧ Below w.heap.size w w' := by
 have hmm := @run_makeMap Tryz.prog
 have HP := Lib.hid h
 have HOK := Lib.hid hok
 have HT := Lib.hid htot
 have HBB := Lib.hid hb
 clear h hok htot hb
 go_enter Tryz.func38, Tryz.ntmps38
 go_wp2_with fail
 obtain ⟨w4, e4⟩ : ∃ w4, (((w.alloc (.cells #[.slice p.ma p.mets.length p.mcap, .int .i64 p.r0, .int .i64 p.r1, .int .i64 p.r2, .int .i64 p.r3, .int .i64 p.r4, .slice p.wa p.wins.length p.wcap, .slice p.ca p.crons.length p.ccap, .int .i64 p.locals, .slice p.ga p.guards.length p.gcap, .int .i64 p.fin.op, .int .i64 p.fin.n, .int .i64 p.fin.m, .slice p.fin.at_ p.fin.kids.length p.fin.cap] 49)).alloc (.map #[] 0)).alloc (.cells #[.map (some (w.heap.size + 1))] 119)).alloc (.cells #[.func (.func 67) #[] #[.pointer (some ⟨w.heap.size + 1 + 1, 0, none⟩), .pointer (some ⟨w.heap.size + 1 + 1 + 1, 0, none⟩)]] 30) = w4 := ⟨_, rfl⟩
 have b4 : Below w.heap.size w w4 := by rw [← e4]; exact below_alloc (below_alloc (below_alloc (below_alloc (Below.refl _ _) _) _) _) _
 have m4 : MapIs (w.heap.size + 1) (fun _ => none) 0 w4 := by
  obtain ⟨wa, ea⟩ : ∃ wa, w.alloc (.cells #[.slice p.ma p.mets.length p.mcap, .int .i64 p.r0, .int .i64 p.r1, .int .i64 p.r2, .int .i64 p.r3, .int .i64 p.r4, .slice p.wa p.wins.length p.wcap, .slice p.ca p.crons.length p.ccap, .int .i64 p.locals, .slice p.ga p.guards.length p.gcap, .int .i64 p.fin.op, .int .i64 p.fin.n, .int .i64 p.fin.m, .slice p.fin.at_ p.fin.kids.length p.fin.cap] 49) = wa := ⟨_, rfl⟩
  have sa : wa.heap.size = w.heap.size + 1 := by rw [← ea]; simp
  have m0 : MapIs (w.heap.size + 1) (fun _ => none) 0 (wa.alloc (.map #[] 0)) := by
   have hh := World.ownsMap_made (H := Value) wa Tryz.prog 2 RV
   rw [sa] at hh
   exact ⟨⟨_, hh, isMap_empty, fun x => rfl⟩, fun x c hx => by cases hx⟩
  have hb : Below (wa.alloc (.map #[] 0)).heap.size (wa.alloc (.map #[] 0)) w4 := by rw [← e4, ea]; exact below_alloc (below_alloc (Below.refl _ _) _) _
  exact m0.below hb
 have k3 : w4.heap[w.heap.size + 1 + 1]? = some (heldO (w.heap.size + 1)) := by
  rw [← e4]
  refine blk_alloc ?_ _
  have := blk_new ((w.alloc (.cells #[.slice p.ma p.mets.length p.mcap, .int .i64 p.r0, .int .i64 p.r1, .int .i64 p.r2, .int .i64 p.r3, .int .i64 p.r4, .slice p.wa p.wins.length p.wcap, .slice p.ca p.crons.length p.ccap, .int .i64 p.locals, .slice p.ga p.guards.length p.gcap, .int .i64 p.fin.op, .int .i64 p.fin.n, .int .i64 p.fin.m, .slice p.fin.at_ p.fin.kids.length p.fin.cap] 49)).alloc (.map #[] 0)) (.cells #[.map (some (w.heap.size + 1))] 119)
  simpa using this
 have k4 : w4.heap[w.heap.size + 1 + 1 + 1]? = some (walkO (w.heap.size + 1 + 1) (w.heap.size + 1 + 1 + 1)) := by
  rw [← e4]
  have := blk_new (((w.alloc (.cells #[.slice p.ma p.mets.length p.mcap, .int .i64 p.r0, .int .i64 p.r1, .int .i64 p.r2, .int .i64 p.r3, .int .i64 p.r4, .slice p.wa p.wins.length p.wcap, .slice p.ca p.crons.length p.ccap, .int .i64 p.locals, .slice p.ga p.guards.length p.gcap, .int .i64 p.fin.op, .int .i64 p.fin.n, .int .i64 p.fin.m, .slice p.fin.at_ p.fin.kids.length p.fin.cap] 49)).alloc (.map #[] 0)).alloc (.cells #[.map (some (w.heap.size + 1))] 119)) (.cells #[.func (.func 67) #[] #[.pointer (some ⟨w.heap.size + 1 + 1, 0, none⟩), .pointer (some ⟨w.heap.size + 1 + 1 + 1, 0, none⟩)]] 30)
  simpa using this
 have B4 := Lib.hid b4
 have M4 := Lib.hid m4
 have K3 := Lib.hid k3
 have K4 := Lib.hid k4
 rw [e4]
 obtain ⟨g3, hg3⟩ : ∃ g, w.heap.size + 1 + 1 = g := ⟨_, rfl⟩
 obtain ⟨gm, hgm⟩ : ∃ g, w.heap.size + 1 = g := ⟨_, rfl⟩
 obtain ⟨g4, hg4⟩ : ∃ g, w.heap.size + 1 + 1 + 1 = g := ⟨_, rfl⟩
 have hs : w.heap.size ≤ gm ∧ gm ≠ g3 ∧ gm ≠ g4 := by omega
 rw [hg4] at K4
 rw [hg3] at K3 K4
 rw [hgm] at M4 K3
 have HG := Lib.hid hs
 have HG4 := Lib.hid hg4
 clear b4 m4 k3 k4 e4 hs hg3 hgm
 refine (cores_calls (HP.out.below B4.out)).mono ?_
 rintro e w5 ⟨⟨A, c, rfl, hL, hc⟩, b5⟩
 have B5 := Lib.hid b5
 have HL := Lib.hid hL
 have HLB := Lib.hid (cores_len HP.out)
 obtain ⟨q, hq⟩ : ∃ q, p.cores = q := ⟨_, rfl⟩
 rw [hq] at HL HOK HT HBB HLB ⊢
 have M5 := Lib.hid (M4.out.below b5)
 have K35 := Lib.hid (blk_below K3.out b5)
 have K45 := Lib.hid (blk_below K4.out b5)
 clear hL hc b5 hq
 go_wp2_with fail
 try rw [HG4.out]
 refine (containsS_calls (g := 70) (lb := #[.pointer (some ⟨g4, 0, none⟩)]) (fun _ _ => rfl) (St := StM w5 gm q (fun _ => none) 0) (Fin := FinM w5 gm q (fun _ => none)) c (fun i W hS => HL.out.bx hS.1 M5.out.isM) (by have := HLB.out; omega)
  ⟨BX.refl _ _, fun _ => none, by rw [List.take_zero]; exact memoL_nil _, by rw [List.take_zero, totalL]; exact M5.out⟩
  (step_of K45.out (Ne.symm HG.out.2.2) HL.out HOK.out (fun k hk => walk_calls K35.out K45.out (Ne.symm HG.out.2.1) (Ne.symm HG.out.2.2) M5.out.isM k (LiesL.lies HL.out hk)) (by have := HT.out; simp only [maxLen]; omega) (fun ka hc => memo12_calls ka hc))).mono ?_
 rintro e w9 (⟨rfl, hf⟩ | ⟨rfl, hf⟩)
 ·have HF := Lib.hid hf
  clear hf
  go_wp2_with fail
  go_ret
  have hres : bb = false := by rw [← HBB.out, HF.out.2]; rfl
  exact ⟨by rw [hres]; first | done | rfl | simp, B4.out.trans ((B5.out.mono B4.out.size).trans (HF.out.1.below HG.out.1 (Nat.le_trans B4.out.size B5.out.size)))⟩
 ·have HF := Lib.hid hf
  clear hf
  go_wp2_with fail
  go_ret
  obtain ⟨f1, h', f2, f3⟩ := HF.out
  rw [List.take_length] at f2
  have hres : bb = true := by rw [← HBB.out, f2]; rfl
  exact ⟨by rw [hres]; first | done | rfl | simp, B4.out.trans ((B5.out.mono B4.out.size).trans (f1.below HG.out.1 (Nat.le_trans B4.out.size B5.out.size)))⟩
end Go.Proofs.YtpljkcakijkklaaGreatDoor

end
section
namespace Go.Proofs.YtpljkcakijkklaaGreatDoor
set_option linter.unusedVariables false
set_option linter.unusedSimpArgs false
open Go.RowKit

noncomputable def srt (p : PlanS) (c : Cr) : Int := sortS p.wins.length p.crons.length p.locals c
def winOk (p : PlanS) (x : WinP) : Bool := winB x.met x.agg x.span x.rank && decide (x.met < p.mets.length)
noncomputable def guardOk (p : PlanS) (g : Cr × Cr) : Bool := decide (srt p g.1 = 2) && decide (srt p g.2 = 3)
noncomputable def formedP (p : PlanS) : Bool :=
 decide (p.mets.length ≤ 64) && (decide (p.wins.length ≤ 256) && (decide (p.crons.length ≤ 256) && (rightB p.r0 p.r1 p.r2 p.r3 p.r4 && (decide (0 ≤ p.locals) && (decide (p.locals ≤ 256) && (decide (totalL p.cores ≤ 4096) &&
  (p.wins.all (winOk p) && (p.crons.all formedB && (p.guards.all (guardOk p) && (decide (srt p p.fin = 3) && (memoL p.cores (fun _ => none)).isSome))))))))))
def headP (p : PlanS) : Prop := p.mets.length ≤ 64 ∧ p.wins.length ≤ 256 ∧ p.crons.length ≤ 256 ∧ rightB p.r0 p.r1 p.r2 p.r3 p.r4 = true ∧ 0 ≤ p.locals ∧ p.locals ≤ 256 ∧ totalL p.cores ≤ 4096
theorem formedP_head {p : PlanS} (h : headP p) : formedP p = (p.wins.all (winOk p) && (p.crons.all formedB && (p.guards.all (guardOk p) && (decide (srt p p.fin = 3) && (memoL p.cores (fun _ => none)).isSome)))) := by
 obtain ⟨h1, h2, h3, h4, h5, h6, h7⟩ := h
 unfold formedP
 rw [decide_eq_true h1, decide_eq_true h2, decide_eq_true h3, h4, decide_eq_true h5, decide_eq_true h6, decide_eq_true h7]
 rfl
theorem formedP_no {p : PlanS} (h : ¬ headP p) : formedP p = false := by
 cases hf : formedP p with
 | false => rfl
 | true =>
  unfold formedP at hf
  simp only [Bool.and_eq_true, decide_eq_true_iff] at hf
  exact absurd ⟨hf.1, hf.2.1, hf.2.2.1, hf.2.2.2.1, hf.2.2.2.2.1, hf.2.2.2.2.2.1, hf.2.2.2.2.2.2.1⟩ h
theorem all_false {α : Type} {l : List α} {f : α → Bool} {i : Nat} {x : α} (hx : l[i]? = some x) (h : f x = false) : l.all f = false := by
 rw [List.all_eq_false]
 exact ⟨x, List.mem_of_getElem? hx, by rw [h]; decide⟩
theorem all_true {α : Type} {l : List α} {f : α → Bool} (h : ∀ (i : Nat) x, l[i]? = some x → f x = true) : l.all f = true := by
 rw [List.all_eq_true]
 intro x hx
 obtain ⟨i, hi, rfl⟩ := List.getElem_of_mem hx
 exact h i _ (List.getElem?_eq_getElem hi)
theorem cores_sorts {p : PlanS} (hg : p.guards.all (guardOk p) = true) (hf : srt p p.fin = 3) : ∀ c ∈ p.cores, sortS p.wins.length p.crons.length p.locals c ≠ 0 := by
 intro c hc
 unfold PlanS.cores at hc
 rcases List.mem_append.1 hc with hc | hc
 ·obtain ⟨g, hgm, hc⟩ := List.mem_flatMap.1 hc
  have hok := List.all_eq_true.1 hg g hgm
  unfold guardOk srt at hok
  rw [Bool.and_eq_true, decide_eq_true_iff, decide_eq_true_iff] at hok
  rcases List.mem_cons.1 hc with rfl | hc
  ·omega
  ·obtain rfl := List.mem_singleton.1 hc
   omega
 ·obtain rfl := List.mem_singleton.1 hc
  unfold srt at hf
  omega
end Go.Proofs.YtpljkcakijkklaaGreatDoor

end
section
namespace Go.Proofs.YtpljkcakijkklaaGreatDoor
set_option linter.unusedVariables false
set_option linter.unusedSimpArgs false
open Go.RowKit

theorem formedP_fails {p : PlanS} (h : (p.wins.all (winOk p) && (p.crons.all formedB && (p.guards.all (guardOk p) && (decide (srt p p.fin = 3) && (memoL p.cores (fun _ => none)).isSome)))) = false) : formedP p = false := by
 by_cases hh : headP p
 ·rw [formedP_head hh]
  exact h
 ·exact formedP_no hh
def wantN (len j : Nat) : Int := if j % 2 = 0 ∧ j + 1 < len then 2 else 3
theorem flat2_get : ∀ (l : List (Cr × Cr)) (j : Nat), (l.flatMap fun g => [g.1, g.2])[2 * j]? = l[j]?.map (·.1) ∧ (l.flatMap fun g => [g.1, g.2])[2 * j + 1]? = l[j]?.map (·.2)
 | [], j => by simp
 | g :: l, 0 => by simp
 | g :: l, j + 1 => by
  have h := flat2_get l j
  have e : (g :: l).flatMap (fun g => [g.1, g.2]) = g.1 :: g.2 :: l.flatMap (fun g => [g.1, g.2]) := by simp
  rw [e, show 2 * (j + 1) = 2 * j + 1 + 1 from by omega, List.getElem?_cons_succ, List.getElem?_cons_succ, List.getElem?_cons_succ, List.getElem?_cons_succ, List.getElem?_cons_succ]
  exact h
theorem coresP_len (p : PlanS) : p.cores.length = 2 * p.guards.length + 1 := by
 unfold PlanS.cores
 rw [List.length_append, flat2_len]
 rfl
theorem cores_even (p : PlanS) {j : Nat} {g : Cr × Cr} (h : p.guards[j]? = some g) : p.cores[2 * j]? = some g.1 ∧ p.cores[2 * j + 1]? = some g.2 := by
 have hj := (List.getElem?_eq_some_iff.1 h).1
 have hg := flat2_get p.guards j
 rw [h] at hg
 unfold PlanS.cores
 rw [List.getElem?_append_left (by rw [flat2_len]; omega), List.getElem?_append_left (by rw [flat2_len]; omega)]
 exact hg
theorem cores_last (p : PlanS) : p.cores[2 * p.guards.length]? = some p.fin := by
 unfold PlanS.cores
 rw [List.getElem?_append_right (by rw [flat2_len]; omega), flat2_len, Nat.sub_self]
 rfl
theorem wants_all {p : PlanS} (h : ∀ (j : Nat) c, p.cores[j]? = some c → srt p c = wantN p.cores.length j) : p.guards.all (guardOk p) = true ∧ srt p p.fin = 3 := by
 have hlen := coresP_len p
 constructor
 ·refine all_true fun j g hg => ?_
  obtain ⟨h0, h1⟩ := cores_even p hg
  have hj := (List.getElem?_eq_some_iff.1 hg).1
  have e0 := h _ _ h0
  have e1 := h _ _ h1
  unfold wantN at e0 e1
  rw [if_pos (by omega)] at e0
  rw [if_neg (by omega)] at e1
  unfold guardOk
  rw [decide_eq_true e0, decide_eq_true e1]
  rfl
 ·have e := h _ _ (cores_last p)
  unfold wantN at e
  rw [if_neg (by omega)] at e
  exact e
theorem wants_of {p : PlanS} (hg : p.guards.all (guardOk p) = true) (hf : srt p p.fin = 3) {j : Nat} {c : Cr} (hc : p.cores[j]? = some c) : srt p c = wantN p.cores.length j := by
 have hlen := coresP_len p
 have hj := (List.getElem?_eq_some_iff.1 hc).1
 have get (k : Nat) (hk : k < p.guards.length) : srt p p.guards[k].1 = 2 ∧ srt p p.guards[k].2 = 3 := by
  have := List.all_eq_true.1 hg _ (List.getElem_mem hk)
  unfold guardOk at this
  simpa using this
 unfold wantN
 rcases Nat.lt_or_ge j (2 * p.guards.length) with hlt | hge
 ·have hk : j / 2 < p.guards.length := by omega
  obtain ⟨h0, h1⟩ := cores_even p (List.getElem?_eq_getElem hk)
  obtain ⟨s0, s1⟩ := get _ hk
  rcases Nat.mod_two_eq_zero_or_one j with he | he
  ·rw [show 2 * (j / 2) = j from by omega, hc] at h0
   injection h0 with h0
   rw [if_pos (by omega), h0]
   exact s0
  ·rw [show 2 * (j / 2) + 1 = j from by omega, hc] at h1
   injection h1 with h1
   rw [if_neg (by omega), h1]
   exact s1
 ·obtain rfl : j = 2 * p.guards.length := by omega
  rw [cores_last] at hc
  injection hc with hc
  rw [if_neg (by omega), ← hc]
  exact hf
theorem formedP_unwanted {p : PlanS} {j : Nat} {c : Cr} (hc : p.cores[j]? = some c) (h : ¬ srt p c = wantN p.cores.length j) : formedP p = false := by
 refine formedP_fails ?_
 cases hg : p.guards.all (guardOk p) with
 | false => simp
 | true =>
  by_cases hf : srt p p.fin = 3
  ·exact absurd (wants_of hg hf hc) h
  ·rw [decide_eq_false hf]
   simp
theorem formedP_many {p : PlanS} {i : Nat} (h : 4096 < totalL (p.cores.take i)) : formedP p = false :=
 formedP_no fun hh => by have := totalL_take_le p.cores i; have := hh.2.2.2.2.2.2; omega
theorem formedP_memo {p : PlanS} {i : Nat} (h : memoL (p.cores.take i) (fun _ => none) = none) : formedP p = false := by
 refine formedP_fails ?_
 rw [memoL_fail h]
 simp
theorem formedP_all {p : PlanS} (h1 : p.mets.length ≤ 64) (h2 : p.wins.length ≤ 256) (h3 : p.crons.length ≤ 256) (h4 : rightB p.r0 p.r1 p.r2 p.r3 p.r4 = true) (h5 : 0 ≤ p.locals) (h6 : p.locals ≤ 256) (h7 : totalL p.cores ≤ 4096)
  (hw : ∀ (i : Nat) x, p.wins[i]? = some x → winOk p x = true) (hc : ∀ (i : Nat) x, p.crons[i]? = some x → formedB x = true) (hs : ∀ (j : Nat) c, p.cores[j]? = some c → srt p c = wantN p.cores.length j) {h : Held} (hm : memoL p.cores (fun _ => none) = some h) : formedP p = true := by
 obtain ⟨hg, hf⟩ := wants_all hs
 rw [formedP_head ⟨h1, h2, h3, h4, h5, h6, h7⟩, all_true hw, all_true hc, hg, decide_eq_true hf, hm]
 rfl
theorem formedP_win {p : PlanS} {i : Nat} {x : WinP} (hx : p.wins[i]? = some x) (h : winOk p x = false) : formedP p = false :=
 formedP_fails (by rw [all_false hx h]; rfl)
theorem formedP_cron {p : PlanS} {i : Nat} {x : CronP} (hx : p.crons[i]? = some x) (h : formedB x = false) : formedP p = false :=
 formedP_fails (by rw [all_false hx h]; simp)
end Go.Proofs.YtpljkcakijkklaaGreatDoor

end
section
namespace Go.Proofs.YtpljkcakijkklaaGreatDoor
set_option linter.unusedVariables false
set_option linter.unusedSimpArgs false
open Go.RowKit Go.Proofs.YtpljkcakijkklaaGreatDoorW.PrintWords Go.Proofs.YtpljkcakijkklaaGreatDoorW.PrintLast Go.Proofs.YtpljkcakijkklaaGreatDoorW.PrintMore

theorem one_lies {w : World} {g : Nat} {c : Cr} (k : w.heap[g]? = some (.cells #[.int .i64 c.op, .int .i64 c.n, .int .i64 c.m, .slice c.at_ c.kids.length c.cap] 24 (0, 0))) (hl : Lies w c) : LiesL w (some ⟨g, 0, none⟩) 0 [c] := by
 rw [LiesL, LiesL]
 refine ⟨⟨_, rfl, World.cells?_of_each (Nat.zero_le _) rfl fun i hi => ?_⟩, hl, trivial⟩
 match i, hi with
 | 0, _ => exact (blk_cell k 0).trans rfl
 | 1, _ => exact (blk_cell k 1).trans rfl
 | 2, _ => exact (blk_cell k 2).trans rfl
 | 3, _ => exact (blk_cell k 3).trans rfl
theorem plan_cells {w : World} {g : Nat} {p : PlanS} (h : w.heap[g]? = some (planO p)) : (w.cell? ⟨g, 0, none⟩ = some (.slice p.ma p.mets.length p.mcap)) ∧ (w.cell? ⟨g, 1, none⟩ = some (.int .i64 p.r0) ∧ w.cell? ⟨g, 2, none⟩ = some (.int .i64 p.r1) ∧ w.cell? ⟨g, 3, none⟩ = some (.int .i64 p.r2) ∧ w.cell? ⟨g, 4, none⟩ = some (.int .i64 p.r3) ∧ w.cell? ⟨g, 5, none⟩ = some (.int .i64 p.r4)) ∧
  (w.cell? ⟨g, 6, none⟩ = some (.slice p.wa p.wins.length p.wcap) ∧ w.cell? ⟨g, 7, none⟩ = some (.slice p.ca p.crons.length p.ccap) ∧ w.cell? ⟨g, 8, none⟩ = some (.int .i64 p.locals) ∧ w.cell? ⟨g, 9, none⟩ = some (.slice p.ga p.guards.length p.gcap)) ∧
  (w.cell? ⟨g, 10, none⟩ = some (.int .i64 p.fin.op) ∧ w.cell? ⟨g, 11, none⟩ = some (.int .i64 p.fin.n) ∧ w.cell? ⟨g, 12, none⟩ = some (.int .i64 p.fin.m) ∧ w.cell? ⟨g, 13, none⟩ = some (.slice p.fin.at_ p.fin.kids.length p.fin.cap)) :=
 ⟨(blk_cell h 0).trans rfl, ⟨(blk_cell h 1).trans rfl, (blk_cell h 2).trans rfl, (blk_cell h 3).trans rfl, (blk_cell h 4).trans rfl, (blk_cell h 5).trans rfl⟩, ⟨(blk_cell h 6).trans rfl, (blk_cell h 7).trans rfl, (blk_cell h 8).trans rfl, (blk_cell h 9).trans rfl⟩, ⟨(blk_cell h 10).trans rfl, (blk_cell h 11).trans rfl, (blk_cell h 12).trans rfl, (blk_cell h 13).trans rfl⟩⟩
theorem cformed_calls {p : PlanS} {w : World} (h : PlanL w p) (hF : FieldsAt w) : Calls Tryz.prog 13 #[.agg #[.slice p.ma p.mets.length p.mcap, .int .i64 p.r0, .int .i64 p.r1, .int .i64 p.r2, .int .i64 p.r3, .int .i64 p.r4, .slice p.wa p.wins.length p.wcap, .slice p.ca p.crons.length p.ccap, .int .i64 p.locals, .slice p.ga p.guards.length p.gcap, .int .i64 p.fin.op, .int .i64 p.fin.n, .int .i64 p.fin.m, .slice p.fin.at_ p.fin.kids.length p.fin.cap]] w fun e w' => e = .returned (.bool (formedP p)) ∧ Below w.heap.size w w' := by
 obtain ⟨w1, e1, b1, k1, s1⟩ := box1 w (.cells #[.slice p.ma p.mets.length p.mcap, .int .i64 p.r0, .int .i64 p.r1, .int .i64 p.r2, .int .i64 p.r3, .int .i64 p.r4, .slice p.wa p.wins.length p.wcap, .slice p.ca p.crons.length p.ccap, .int .i64 p.locals, .slice p.ga p.guards.length p.gcap, .int .i64 p.fin.op, .int .i64 p.fin.n, .int .i64 p.fin.m, .slice p.fin.at_ p.fin.kids.length p.fin.cap] 49)
 have HE := Lib.hid e1
 have B1 := Lib.hid b1
 have HP := Lib.hid (h.below b1)
 have HFA := Lib.hid (hF.below b1 (World.block_lt_of_cell? w _ (hF 0 (by decide)).1))
 have HC := Lib.hid fun (w' : World) (hb : Below w1.heap.size w1 w') => plan_cells (p := p) (blk_below k1 hb)
 obtain ⟨gP, hgP⟩ : ∃ g, w.heap.size = g := ⟨_, rfl⟩
 have HGP := Lib.hid hgP
 rw [hgP] at HC
 have HNO := Lib.hid (fun h : ¬ headP p => formedP_no h)
 have HHD := Lib.hid (fun h : headP p => formedP_head h)
 obtain ⟨fb, hfb⟩ : ∃ b, formedP p = b := ⟨_, rfl⟩
 rw [hfb] at HNO HHD ⊢
 have hlm := Lib.hid (And.intro h.mets.1 h.mets.2.1)
 clear h hF k1 e1 b1 s1 hfb hgP
 go_enter Tryz.func13, Tryz.ntmps13
 by_cases c1 : p.mets.length ≤ 64
 case neg =>
  have n0a : ((64 : Int) < (p.mets.length : Int)) = True := eq_true (by omega)
  have n0b : (64 < p.mets.length) = True := eq_true (by omega)
  have hres := Lib.hid (HNO.out (fun hh => c1 hh.1))
  clear c1
  go_wp2_with fail
  rw [HE.out]
  go_ret
  exact ⟨by rw [hres.out]; first | done | rfl | simp, B1.out⟩
 have n0a : ((64 : Int) < (p.mets.length : Int)) = False := eq_false (by omega)
 have n0b : (64 < p.mets.length) = False := eq_false (by omega)
 have Hc1 := Lib.hid c1
 clear c1
 by_cases c2 : p.wins.length ≤ 256
 case neg =>
  have n1a : ((256 : Int) < (p.wins.length : Int)) = True := eq_true (by omega)
  have n1b : (256 < p.wins.length) = True := eq_true (by omega)
  have hres := Lib.hid (HNO.out (fun hh => c2 hh.2.1))
  clear c2
  go_wp2_with fail
  rw [HE.out]
  go_ret
  exact ⟨by rw [hres.out]; first | done | rfl | simp, B1.out⟩
 have n1a : ((256 : Int) < (p.wins.length : Int)) = False := eq_false (by omega)
 have n1b : (256 < p.wins.length) = False := eq_false (by omega)
 have Hc2 := Lib.hid c2
 clear c2
 by_cases c3 : p.crons.length ≤ 256
 case neg =>
  have n2a : ((256 : Int) < (p.crons.length : Int)) = True := eq_true (by omega)
  have n2b : (256 < p.crons.length) = True := eq_true (by omega)
  have hres := Lib.hid (HNO.out (fun hh => c3 hh.2.2.1))
  clear c3
  go_wp2_with fail
  rw [HE.out]
  go_ret
  exact ⟨by rw [hres.out]; first | done | rfl | simp, B1.out⟩
 have n2a : ((256 : Int) < (p.crons.length : Int)) = False := eq_false (by omega)
 have n2b : (256 < p.crons.length) = False := eq_false (by omega)
 have Hc3 := Lib.hid c3
 clear c3
 go_wp2_with fail
 rw [HE.out, HGP.out]
 refine (right_calls _ _ _ _ _ _).mono ?_
 rintro e w2 ⟨rfl, b2⟩
 have B2 := Lib.hid b2
 clear b2
 obtain ⟨rb, hrb⟩ : ∃ b, rightB p.r0 p.r1 p.r2 p.r3 p.r4 = b := ⟨_, rfl⟩
 rw [hrb]
 have HRB := Lib.hid hrb
 clear hrb
 obtain ⟨x0, ⟨x1, x2, x3, x4, x5⟩, ⟨x6, x7, x8, x9⟩, ⟨x10, x11, x12, x13⟩⟩ := HC.out w2 B2.out
 cases rb with
 | false =>
  have hres := Lib.hid (HNO.out (fun hh => by have := hh.2.2.2.1; rw [HRB.out] at this; cases this))
  go_wp2_with fail
  go_ret
  exact ⟨by rw [hres.out]; first | done | rfl | simp, B1.out.trans (B2.out.mono B1.out.size)⟩
 | true =>
  by_cases l0 : 0 ≤ p.locals
  case neg =>
   have n0 : (p.locals < 0) = True := eq_true (by omega)
   have hres := Lib.hid (HNO.out (fun hh => l0 hh.2.2.2.2.1))
   clear l0
   go_wp2_with fail
   go_ret
   exact ⟨by rw [hres.out]; first | done | rfl | simp, B1.out.trans (B2.out.mono B1.out.size)⟩
  have n0 : (p.locals < 0) = False := eq_false (by omega)
  have HL0 := Lib.hid l0
  by_cases l1 : p.locals ≤ 256
  case neg =>
   have n1 : ((256 : Int) < p.locals) = True := eq_true (by omega)
   have hres := Lib.hid (HNO.out (fun hh => l1 hh.2.2.2.2.2.1))
   clear l0 l1
   go_wp2_with fail
   go_ret
   exact ⟨by rw [hres.out]; first | done | rfl | simp, B1.out.trans (B2.out.mono B1.out.size)⟩
  have n1 : ((256 : Int) < p.locals) = False := eq_false (by omega)
  have HL1 := Lib.hid l1
  clear l0 l1
  obtain ⟨sb, hsb⟩ : ∃ b, decide (totalL p.cores ≤ 4096) = b := ⟨_, rfl⟩
  have HSB := Lib.hid hsb
  clear hsb
  go_wp2_with fail
  refine (csmall_calls (HP.out.below B2.out) HSB.out).mono ?_
  rintro e w3 ⟨rfl, b3⟩
  have B3 := Lib.hid (B2.out.trans (b3.mono B2.out.size))
  clear b3 x0 x1 x2 x3 x4 x5 x6 x7 x8 x9 x10 x11 x12 x13 n0 n1 B2
  obtain ⟨x0, ⟨x1, x2, x3, x4, x5⟩, ⟨x6, x7, x8, x9⟩, ⟨x10, x11, x12, x13⟩⟩ := HC.out w3 B3.out
  cases sb with
  | false =>
   have hres := Lib.hid (HNO.out (fun hh => by have := of_decide_eq_false HSB.out; exact this hh.2.2.2.2.2.2))
   go_wp2_with fail
   go_ret
   exact ⟨by rw [hres.out]; first | done | rfl | simp, B1.out.trans (B3.out.mono B1.out.size)⟩
  | true =>
   have HEAD := Lib.hid (show headP p from ⟨Hc1.out, Hc2.out, Hc3.out, HRB.out, HL0.out, HL1.out, of_decide_eq_true HSB.out⟩)
   have HEQ := Lib.hid (HHD.out HEAD.out)
   have HW := Lib.hid HP.out.wins
   have HCR := Lib.hid HP.out.crons
   have HGU := Lib.hid HP.out.guards
   clear n0a n0b n1a n1b n2a n2b
   go_wp2_with fail
   clear x0 x1 x2 x3 x4 x5 x6 x7 x8 x9 x10 x11 x12 x13
   obtain ⟨wa, hwa⟩ : ∃ a, p.wa = a := ⟨_, rfl⟩
   rw [hwa] at HW ⊢
   have HWA := Lib.hid hwa
   clear hwa
   go_loopg [50] p.wins.length (fun gg v50 wr => ∃ i : Nat, v50 = .int .i64 i ∧ Aside0 (i + gg = p.wins.length) ∧ Aside0 (∀ (j : Nat) x, j < i → p.wins[j]? = some x → winOk p x = true) ∧ Aside0 (Below w3.heap.size w3 wr))
   case atStart => exact ⟨0, rfl, ⟨by omega⟩, ⟨fun j x hj => by omega⟩, ⟨Below.refl _ _⟩⟩
   case round =>
    obtain ⟨i, rfl, hi, hQ, hB⟩ := hrel
    have HI := Lib.hid hi.out
    have HQ := Lib.hid hQ.out
    have HB := Lib.hid hB.out
    have HBB := Lib.hid (B3.out.trans (hB.out.mono B3.out.size))
    clear hi hQ hB
    by_cases hlt : i < p.wins.length
    ·obtain ⟨x, hx⟩ : ∃ x, p.wins[i]? = some x := ⟨_, List.getElem?_eq_getElem hlt⟩
     have hA := (HW.out.2.2.2).below HBB.out (by decide)
     obtain ⟨b, rfl, -⟩ := hA i x hx
     obtain ⟨h0, h1⟩ := hA.cellsAt hx (by decide)
     have c0 : wr.cell? (b.add (i * 4)) = some (.int .i64 x.met) := h0 _ rfl
     have c1 : wr.cell? ⟨(b.add (i * 4)).block, (b.add (i * 4)).off + 1, none⟩ = some (.int .i64 x.agg) := h1 0 _ rfl
     have c2 : wr.cell? ⟨(b.add (i * 4)).block, (b.add (i * 4)).off + 2, none⟩ = some (.int .i64 x.span) := h1 1 _ rfl
     have c3 : wr.cell? ⟨(b.add (i * 4)).block, (b.add (i * 4)).off + 3, none⟩ = some (.int .i64 x.rank) := h1 2 _ rfl
     have q0 := eq_true (show (0 : Int) ≤ (i : Int) by omega)
     have q1 : ((i : Int) < (p.wins.length : Int)) = True := eq_true (by omega)
     have q2 : (i < p.wins.length) = True := eq_true hlt
     have w5 : wrap64 ((i : Int) + 1) = ((i + 1 : Nat) : Int) := by have := Hc2.out; unfold wrap64; omega
     obtain ⟨w4, e4, b4, k4, s4⟩ := box1 wr (.cells #[.int .i64 x.met, .int .i64 x.agg, .int .i64 x.span, .int .i64 x.rank] 80)
     have HE4 := Lib.hid e4
     have K4 := Lib.hid k4
     have B4 := Lib.hid b4
     have HX := Lib.hid hx
     have HLT := Lib.hid hlt
     clear hA h0 h1 hx e4 k4 b4 s4 hlt
     go_wp2_with fail
     rw [HE4.out]
     refine (winright_calls _ _ _ _ _).mono ?_
     rintro e w7 ⟨rfl, b7⟩
     have B7 := Lib.hid (HB.out.trans ((B4.out.trans (b7.mono B4.out.size)).mono HB.out.size))
     have k7 := blk_below K4.out b7
     obtain ⟨g4, hg4⟩ : ∃ g, wr.heap.size = g := ⟨_, rfl⟩
     rw [hg4] at k7 ⊢
     have d0 := (blk_cell k7 0).trans rfl
     obtain ⟨x0, -⟩ := HC.out w7 (B3.out.trans (B7.out.mono B3.out.size))
     obtain ⟨wb, hwb⟩ : ∃ b, winB x.met x.agg x.span x.rank = b := ⟨_, rfl⟩
     rw [hwb]
     have HWB := Lib.hid hwb
     clear b7 k7 hg4 hwb c0 c1 c2 c3
     cases wb with
     | false =>
      have hres := Lib.hid (show fb = false by rw [HEQ.out, all_false HX.out (show winOk p x = false by unfold winOk; rw [HWB.out]; rfl)]; rfl)
      clear w5
      go_wp2_with fail
      go_ret
      exact ⟨by rw [hres.out]; first | done | rfl | simp, B1.out.trans ((B3.out.trans (B7.out.mono B3.out.size)).mono B1.out.size)⟩
     | true =>
      by_cases hm : x.met < (p.mets.length : Int)
      ·have m1 : ((p.mets.length : Int) ≤ x.met) = False := eq_false (by omega)
       have HM := Lib.hid hm
       clear hm
       go_wp2_with fail
       go_roundg (gk - 1)
       case measure => clear w5; have := HI.out; have := HLT.out; omega
       case rel => exact ⟨i + 1, by first | rfl | simp [w5], ⟨by clear w5; have := HI.out; have := HLT.out; omega⟩, ⟨fun j y hj hy => by
        by_cases e : j = i
        ·subst e
         rw [HX.out] at hy
         injection hy with hy
         subst hy
         unfold winOk
         rw [HWB.out, decide_eq_true HM.out]
         rfl
        ·exact HQ.out j y (by omega) hy⟩, ⟨B7.out⟩⟩
      ·have m1 : ((p.mets.length : Int) ≤ x.met) = True := eq_true (by omega)
       have hres := Lib.hid (show fb = false by rw [HEQ.out, all_false HX.out (show winOk p x = false by unfold winOk; rw [decide_eq_false hm]; simp)]; rfl)
       clear hm w5
       go_wp2_with fail
       go_ret
       exact ⟨by rw [hres.out]; first | done | rfl | simp, B1.out.trans ((B3.out.trans (B7.out.mono B3.out.size)).mono B1.out.size)⟩
    ·have q1 : ((i : Int) < (p.wins.length : Int)) = False := eq_false (by omega)
     have q2 : (i < p.wins.length) = False := eq_false hlt
     have hall := all_true (fun (j : Nat) x hx => HQ.out j x (by have := (List.getElem?_eq_some_iff.1 hx).1; omega) hx)
     have heq := HEQ.out
     rw [hall, Bool.true_and] at heq
     have HEQ2 := Lib.hid heq
     obtain ⟨x0, ⟨x1, x2, x3, x4, x5⟩, ⟨x6, x7, x8, x9⟩, ⟨x10, x11, x12, x13⟩⟩ := HC.out wr HBB.out
     clear hlt hall heq
     go_wp2_with fail
     clear x0 x1 x2 x3 x4 x5 x6 x7 x8 x9 x10 x11 x12 x13 q1 q2
     obtain ⟨wA, rfl⟩ : ∃ x, x = wr := ⟨_, rfl⟩
     have HBA := Lib.hid HBB.out
     clear HBB HB HQ HI
     obtain ⟨ca, hca⟩ : ∃ a, p.ca = a := ⟨_, rfl⟩
     rw [hca] at HCR ⊢
     have HCA := Lib.hid hca
     clear hca
     go_loopg [69] p.crons.length (fun gg v69 wr => ∃ i : Nat, v69 = .int .i64 i ∧ Aside0 (i + gg = p.crons.length) ∧ Aside0 (∀ (j : Nat) x, j < i → p.crons[j]? = some x → formedB x = true) ∧ Aside0 (Below wA.heap.size wA wr))
     case atStart => exact ⟨0, rfl, ⟨by omega⟩, ⟨fun j x hj => by omega⟩, ⟨Below.refl _ _⟩⟩
     case round =>
      obtain ⟨i, rfl, hi, hQ, hB⟩ := hrel
      have HI := Lib.hid hi.out
      have HQ := Lib.hid hQ.out
      have HB := Lib.hid hB.out
      have HBB := Lib.hid (HBA.out.trans (hB.out.mono HBA.out.size))
      clear hi hQ hB
      by_cases hlt : i < p.crons.length
      ·obtain ⟨x, hx⟩ : ∃ x, p.crons[i]? = some x := ⟨_, List.getElem?_eq_getElem hlt⟩
       have hA := (HCR.out.2.2.2).below HBB.out (by decide)
       obtain ⟨b, rfl, -⟩ := hA i x hx
       obtain ⟨h0, h1⟩ := hA.cellsAt hx (by decide)
       have c0 : wr.cell? (b.add (i * 5)) = some (.int .u64 x.f0) := h0 _ rfl
       have c1 : wr.cell? ⟨(b.add (i * 5)).block, (b.add (i * 5)).off + 1, none⟩ = some (.int .u64 x.f1) := h1 0 _ rfl
       have c2 : wr.cell? ⟨(b.add (i * 5)).block, (b.add (i * 5)).off + 2, none⟩ = some (.int .u64 x.f2) := h1 1 _ rfl
       have c3 : wr.cell? ⟨(b.add (i * 5)).block, (b.add (i * 5)).off + 3, none⟩ = some (.int .u64 x.f3) := h1 2 _ rfl
       have c4 : wr.cell? ⟨(b.add (i * 5)).block, (b.add (i * 5)).off + 4, none⟩ = some (.int .u64 x.f4) := h1 3 _ rfl
       have q0 := eq_true (show (0 : Int) ≤ (i : Int) by omega)
       have q1 : ((i : Int) < (p.crons.length : Int)) = True := eq_true (by omega)
       have q2 : (i < p.crons.length) = True := eq_true hlt
       have w5 : wrap64 ((i : Int) + 1) = ((i + 1 : Nat) : Int) := by have := Hc3.out; unfold wrap64; omega
       obtain ⟨w4, e4, b4, k4, s4⟩ := box1 wr (.cells #[.int .u64 x.f0, .int .u64 x.f1, .int .u64 x.f2, .int .u64 x.f3, .int .u64 x.f4] 84)
       have HE4 := Lib.hid e4
       have B4 := Lib.hid b4
       have HX := Lib.hid hx
       have HLT := Lib.hid hlt
       have HF4 := Lib.hid (HFA.out.below (HBB.out.trans (b4.mono HBB.out.size)) (World.block_lt_of_cell? w1 _ (HFA.out 0 (by decide)).1))
       clear hA h0 h1 hx e4 k4 b4 s4 hlt
       go_wp2_with fail
       rw [HE4.out]
       refine (formed_calls x w4 HF4.out).mono ?_
       rintro e w7 ⟨rfl, b7⟩
       have B7 := Lib.hid (HB.out.trans ((B4.out.trans (b7.mono B4.out.size)).mono HB.out.size))
       obtain ⟨wb, hwb⟩ : ∃ b, formedB x = b := ⟨_, rfl⟩
       rw [hwb]
       have HWB := Lib.hid hwb
       clear b7 hwb c0 c1 c2 c3 c4
       cases wb with
       | false =>
        have hres := Lib.hid (show fb = false by rw [HEQ2.out, all_false HX.out HWB.out]; rfl)
        clear w5
        go_wp2_with fail
        go_ret
        exact ⟨by rw [hres.out]; first | done | rfl | simp, B1.out.trans ((HBA.out.trans (B7.out.mono HBA.out.size)).mono B1.out.size)⟩
       | true =>
        go_wp2_with fail
        go_roundg (gk - 1)
        case measure => clear w5; have := HI.out; have := HLT.out; omega
        case rel => exact ⟨i + 1, by first | rfl | simp [w5], ⟨by clear w5; have := HI.out; have := HLT.out; omega⟩, ⟨fun j y hj hy => by
         by_cases e : j = i
         ·subst e
          rw [HX.out] at hy
          injection hy with hy
          subst hy
          exact HWB.out
         ·exact HQ.out j y (by omega) hy⟩, ⟨B7.out⟩⟩
      ·have q1 : ((i : Int) < (p.crons.length : Int)) = False := eq_false (by omega)
       have q2 : (i < p.crons.length) = False := eq_false hlt
       have hall := all_true (fun (j : Nat) x hx => HQ.out j x (by have := (List.getElem?_eq_some_iff.1 hx).1; omega) hx)
       have heq := HEQ2.out
       rw [hall, Bool.true_and] at heq
       have HEQ3 := Lib.hid heq
       obtain ⟨x0, ⟨x1, x2, x3, x4, x5⟩, ⟨x6, x7, x8, x9⟩, ⟨x10, x11, x12, x13⟩⟩ := HC.out wr HBB.out
       have hltP : gP < wr.heap.size := World.block_lt_of_cell? wr _ x0
       have nP0 : ¬ gP = wr.heap.size := by omega
       have nP1 : ¬ wr.heap.size = gP := by omega
       clear hlt hall heq
       go_wp2_with fail
       clear x0 x1 x2 x3 x4 x5 x6 x7 x8 x9 x10 x11 x12 x13 q1 q2 hltP nP0 nP1
       obtain ⟨wC, eC, bC, kC, sC⟩ := box1 wr (.cells #[.int .i64 (p.wins.length : Int), .int .i64 (p.crons.length : Int), .int .i64 p.locals] 87)
       rw [eC]
       obtain ⟨gR, hgR⟩ : ∃ g, wr.heap.size = g := ⟨_, rfl⟩
       rw [hgR] at kC ⊢
       have HBC := Lib.hid (HBB.out.trans (bC.mono HBB.out.size))
       have KR := Lib.hid kC
       clear eC bC kC sC hgR HBB HB HQ HI
       obtain ⟨ga, hga⟩ : ∃ a, p.ga = a := ⟨_, rfl⟩
       rw [hga] at HGU ⊢
       have HGA := Lib.hid hga
       clear hga
       go_loopg [89] p.guards.length (fun gg v89 wr => ∃ i : Nat, v89 = .int .i64 i ∧ Aside0 (i + gg = p.guards.length) ∧ Aside0 (∀ (j : Nat) x, j < i → p.guards[j]? = some x → guardOk p x = true) ∧ Aside0 (Below wC.heap.size wC wr))
       case atStart => exact ⟨0, rfl, ⟨by omega⟩, ⟨fun j x hj => by omega⟩, ⟨Below.refl _ _⟩⟩
       case round =>
        obtain ⟨i, rfl, hi, hQ, hB⟩ := hrel
        have HI := Lib.hid hi.out
        have HQ := Lib.hid hQ.out
        have HB := Lib.hid hB.out
        have HBB := Lib.hid (HBC.out.trans (hB.out.mono HBC.out.size))
        have kr := blk_below KR.out hB.out
        clear hi hQ hB
        by_cases hlt : i < p.guards.length
        ·obtain ⟨x, hx⟩ : ∃ x, p.guards[i]? = some x := ⟨_, List.getElem?_eq_getElem hlt⟩
         have hA := (HGU.out.2.2.2).below HBB.out (by decide)
         obtain ⟨b, rfl, -⟩ := hA i x hx
         obtain ⟨c0, c1, c2, c3, c4, c5, c6, c7⟩ := guard_at hA hx
         have hgl := HGU.out.2.2.1 x (List.mem_of_getElem? hx)
         have q0 := eq_true (show (0 : Int) ≤ (i : Int) by omega)
         have q1 : ((i : Int) < (p.guards.length : Int)) = True := eq_true (by omega)
         have q2 : (i < p.guards.length) = True := eq_true hlt
         have w5 : wrap64 ((i : Int) + 1) = ((i + 1 : Nat) : Int) := by have := HGU.out.1; have := HGU.out.2.1; unfold wrap64; omega
         have r0 := (blk_cell kr 0).trans rfl
         have r1 := (blk_cell kr 1).trans rfl
         have r2 := (blk_cell kr 2).trans rfl
         have ltR := blk_lt kr
         have nR0 : ¬ gR = wr.heap.size := by omega
         have nR1 : ¬ wr.heap.size = gR := by omega
         have nR2 : ¬ gR = wr.heap.size + 1 := by omega
         have nR3 : ¬ wr.heap.size + 1 = gR := by omega
         obtain ⟨w4, e4, b4, k4, k5, s4⟩ := box2 wr (.cells #[.int .i64 x.1.op, .int .i64 x.1.n, .int .i64 x.1.m, .slice x.1.at_ x.1.kids.length x.1.cap, .int .i64 x.2.op, .int .i64 x.2.n, .int .i64 x.2.m, .slice x.2.at_ x.2.kids.length x.2.cap] 89) (.cells #[.int .i64 x.1.op, .int .i64 x.1.n, .int .i64 x.1.m, .slice x.1.at_ x.1.kids.length x.1.cap] 24)
         have HE4 := Lib.hid e4
         have B4 := Lib.hid b4
         have K4 := Lib.hid k4
         have KR4 := Lib.hid (blk_below kr b4)
         have HX := Lib.hid hx
         have HLT := Lib.hid hlt
         have HL1 := Lib.hid (one_lies k5 (hgl.1.below (HBB.out.trans (b4.mono HBB.out.size))))
         have HL2 := Lib.hid hgl.2
         obtain ⟨s1b, hs1⟩ : ∃ b, ([x.1] : List Cr).all (fun k => sortS p.wins.length p.crons.length p.locals k == 2) = b := ⟨_, rfl⟩
         obtain ⟨s2b, hs2⟩ : ∃ b, ([x.2] : List Cr).all (fun k => sortS p.wins.length p.crons.length p.locals k == 3) = b := ⟨_, rfl⟩
         have HS1 := Lib.hid hs1
         have HS2 := Lib.hid hs2
         clear hA hx e4 k4 k5 b4 s4 hlt kr hgl hs1 hs2
         go_wp2_with fail
         rw [HE4.out]
         clear c0 c1 c2 c3 c4 c5 c6 c7 r0 r1 r2 ltR nR0 nR1 nR2 nR3
         refine (all_calls (sort := 2) (l := [x.1]) 1 HL1.out (by simp) (sortS p.wins.length p.crons.length p.locals) (fun k _ => sort_calls _ _ _ k) HS1.out).mono ?_
         rintro e w7 ⟨rfl, b7⟩
         have B7 := Lib.hid (HB.out.trans ((B4.out.trans (b7.mono B4.out.size)).mono HB.out.size))
         have HBB7 := Lib.hid (HBC.out.trans (B7.out.mono HBC.out.size))
         have k7 := blk_below K4.out b7
         have kr7 := blk_below KR4.out b7
         clear b7
         cases s1b with
         | false =>
          have hres := Lib.hid (show fb = false by rw [HEQ3.out, all_false HX.out (show guardOk p x = false by unfold guardOk srt; have := HS1.out; simp at this; rw [decide_eq_false this]; rfl)]; rfl)
          clear w5 k7 kr7
          go_wp2_with fail
          go_ret
          exact ⟨by rw [hres.out]; first | done | rfl | simp, B1.out.trans (HBB7.out.mono B1.out.size)⟩
         | true =>
          obtain ⟨g9, hg9⟩ : ∃ g, wr.heap.size = g := ⟨_, rfl⟩
          rw [hg9] at k7 ⊢
          have d4 := (blk_cell k7 4).trans rfl
          have d5 := (blk_cell k7 5).trans rfl
          have d6 := (blk_cell k7 6).trans rfl
          have d7 := (blk_cell k7 7).trans rfl
          have r0 := (blk_cell kr7 0).trans rfl
          have r1 := (blk_cell kr7 1).trans rfl
          have r2 := (blk_cell kr7 2).trans rfl
          obtain ⟨w8, e8, b8, k8, s8⟩ := box1 w7 (.cells #[.int .i64 x.2.op, .int .i64 x.2.n, .int .i64 x.2.m, .slice x.2.at_ x.2.kids.length x.2.cap] 24)
          have HE8 := Lib.hid e8
          have B8 := Lib.hid (B7.out.trans (b8.mono B7.out.size))
          have HL3 := Lib.hid (one_lies k8 (HL2.out.below (HBB7.out.trans (b8.mono HBB7.out.size))))
          clear hg9 k7 kr7 e8 b8 k8 s8
          go_wp2_with fail
          rw [HE8.out]
          refine (all_calls (sort := 3) (l := [x.2]) 1 HL3.out (by simp) (sortS p.wins.length p.crons.length p.locals) (fun k _ => sort_calls _ _ _ k) HS2.out).mono ?_
          rintro e w9 ⟨rfl, b9⟩
          have B9 := Lib.hid (B8.out.trans (b9.mono B8.out.size))
          clear b9 d4 d5 d6 d7 r0 r1 r2
          cases s2b with
          | false =>
           have hres := Lib.hid (show fb = false by rw [HEQ3.out, all_false HX.out (show guardOk p x = false by unfold guardOk srt; have := HS2.out; simp at this; rw [decide_eq_false this]; simp)]; rfl)
           clear w5
           go_wp2_with fail
           go_ret
           exact ⟨by rw [hres.out]; first | done | rfl | simp, B1.out.trans ((HBC.out.trans (B9.out.mono HBC.out.size)).mono B1.out.size)⟩
          | true =>
           go_wp2_with fail
           go_roundg (gk - 1)
           case measure => clear w5; have := HI.out; have := HLT.out; omega
           case rel => exact ⟨i + 1, by first | rfl | simp [w5], ⟨by clear w5; have := HI.out; have := HLT.out; omega⟩, ⟨fun j y hj hy => by
            by_cases e : j = i
            ·subst e
             rw [HX.out] at hy
             injection hy with hy
             subst hy
             have h1 := HS1.out
             have h2 := HS2.out
             simp at h1 h2
             unfold guardOk srt
             rw [decide_eq_true h1, decide_eq_true h2]
             rfl
            ·exact HQ.out j y (by omega) hy⟩, ⟨B9.out⟩⟩
        ·have q1 : ((i : Int) < (p.guards.length : Int)) = False := eq_false (by omega)
         have q2 : (i < p.guards.length) = False := eq_false hlt
         have hall := all_true (fun (j : Nat) x hx => HQ.out j x (by have := (List.getElem?_eq_some_iff.1 hx).1; omega) hx)
         have HALL := Lib.hid hall
         have heq := HEQ3.out
         rw [hall, Bool.true_and] at heq
         have HEQ4 := Lib.hid heq
         obtain ⟨x0, ⟨x1, x2, x3, x4, x5⟩, ⟨x6, x7, x8, x9⟩, ⟨x10, x11, x12, x13⟩⟩ := HC.out wr HBB.out
         have hltP : gP < wr.heap.size := World.block_lt_of_cell? wr _ x0
         have nP0 : ¬ gP = wr.heap.size := by omega
         have nP1 : ¬ wr.heap.size = gP := by omega
         have r0 := (blk_cell kr 0).trans rfl
         have r1 := (blk_cell kr 1).trans rfl
         have r2 := (blk_cell kr 2).trans rfl
         obtain ⟨w4, e4, b4, k4, s4⟩ := box1 wr (.cells #[.int .i64 p.fin.op, .int .i64 p.fin.n, .int .i64 p.fin.m, .slice p.fin.at_ p.fin.kids.length p.fin.cap] 24)
         have HE4 := Lib.hid e4
         have B4 := Lib.hid (HBB.out.trans (b4.mono HBB.out.size))
         have HL1 := Lib.hid (one_lies k4 ((HP.out.fin).below (HBB.out.trans (b4.mono HBB.out.size))))
         obtain ⟨s1b, hs1⟩ : ∃ b, ([p.fin] : List Cr).all (fun k => sortS p.wins.length p.crons.length p.locals k == 3) = b := ⟨_, rfl⟩
         have HS1 := Lib.hid hs1
         clear hlt hall heq e4 b4 k4 s4 kr hs1
         go_wp2_with fail
         rw [HE4.out]
         clear x0 x1 x2 x3 x4 x5 x6 x7 x8 x9 x10 x11 x12 x13 r0 r1 r2 hltP nP0 nP1 q1 q2
         refine (all_calls (sort := 3) (l := [p.fin]) 1 HL1.out (by simp) (sortS p.wins.length p.crons.length p.locals) (fun k _ => sort_calls _ _ _ k) HS1.out).mono ?_
         rintro e w7 ⟨rfl, b7⟩
         have B7 := Lib.hid (B4.out.trans (b7.mono B4.out.size))
         clear b7
         cases s1b with
         | false =>
          have hres := Lib.hid (show fb = false by rw [HEQ4.out]; unfold srt; have := HS1.out; simp at this; rw [decide_eq_false this]; rfl)
          go_wp2_with fail
          go_ret
          exact ⟨by rw [hres.out]; first | done | rfl | simp, B1.out.trans (B7.out.mono B1.out.size)⟩
         | true =>
          obtain ⟨x0, ⟨x1, x2, x3, x4, x5⟩, ⟨x6, x7, x8, x9⟩, ⟨x10, x11, x12, x13⟩⟩ := HC.out w7 B7.out
          have hfin : srt p p.fin = 3 := by have := HS1.out; unfold srt; simpa using this
          have hres := Lib.hid (show fb = (memoL p.cores (fun _ => none)).isSome by rw [HEQ4.out, decide_eq_true hfin, Bool.true_and])
          obtain ⟨mb, hmb⟩ : ∃ b, (memoL p.cores (fun _ => none)).isSome = b := ⟨_, rfl⟩
          have HM := Lib.hid (memos_calls (HP.out.below B7.out) (mokL_of HEAD.out.2.2.2.2.2.1 (cores_sorts HALL.out hfin)) HEAD.out.2.2.2.2.2.2 hmb)
          rw [hmb] at hres
          clear hfin hmb
          go_wp2_with fail
          refine HM.out.mono ?_
          rintro e w8 ⟨rfl, b8⟩
          clear x0 x1 x2 x3 x4 x5 x6 x7 x8 x9 x10 x11 x12 x13
          go_wp2_with fail
          go_ret
          exact ⟨by rw [hres.out]; first | done | rfl | simp, B1.out.trans ((B7.out.trans (b8.mono B7.out.size)).mono B1.out.size)⟩
end Go.Proofs.YtpljkcakijkklaaGreatDoor

end
section
namespace Go.Proofs.YtpljkcakijkklaaGreatDoor
set_option linter.unusedVariables false
set_option linter.unusedSimpArgs false
open Go.RowKit Go.Proofs.YtpljkcakijkklaaGreatDoorW.PrintWords Go.Proofs.YtpljkcakijkklaaGreatDoorW.PrintLast Go.Proofs.YtpljkcakijkklaaGreatDoorW.PrintMore

theorem held_make (W : World) : (Instr.makeSlice 22 (.int .i64 256) (.int .i64 256)).run Tryz.prog W = .ok (.slice (some ⟨W.heap.size, 0, none⟩) 256 256) (W.alloc (.cells (madeCells #[.int .i64 0, .int .i64 0, .int .i64 0, .slice none 0 0] 1024) 24)) := by
 obtain ⟨i0, hi, hz0, hz1, hz2⟩ := core_info
 have h := run_make (P := Tryz.prog) W 22 24 i0 (.agg #[.int .i64 0, .int .i64 0, .int .i64 0, .slice none 0 0]) Tryz.underlying22 hi hz0 .i64 .i64 256 256 (by decide) (by decide) (by rw [hz2]; decide) (by decide)
 simpa [hz1, Value.cells] using h
theorem held_new (w0 W : World) : HeldAt w0 W.heap.size (fun _ => none) (W.alloc (.cells (madeCells #[.int .i64 0, .int .i64 0, .int .i64 0, .slice none 0 0] 1024) 24)) where
 blk := by
  refine ⟨_, blk_new W _, size_madeCells _ _, fun x j hx hj => ?_⟩
  unfold madeCells
  rw [Array.getElem?_map, Array.getElem?_range, if_pos (by omega)]
  have e : (x * 4 + j) % 4 = j := by omega
  rcases (show j = 0 ∨ j = 1 ∨ j = 2 ∨ j = 3 by omega) with rfl | rfl | rfl | rfl <;> (simp only [Option.map_some, List.size_toArray, List.length_cons, List.length_nil, e]; rfl)
 lies := fun x c h => by cases h
theorem big_no {k : Nat} (h : k ≤ 4096) : ((4096 : Int) < (k : Int)) = False ∧ (4096 < k) = False := ⟨eq_false (by omega), eq_false (by omega)⟩
theorem big_yes {k : Nat} (h : ¬ k ≤ 4096) : ((4096 : Int) < (k : Int)) = True ∧ (4096 < k) = True := ⟨eq_true (by omega), eq_true (by omega)⟩
theorem win_at {w : World} {b : Addr} {l : List WinP} (h : ArrL w (some b) 4 WinP.cells l) {i : Nat} {x : WinP} (hx : l[i]? = some x) :
  w.cell? (b.add (i * 4)) = some (.int .i64 x.met) ∧ w.cell? ⟨(b.add (i * 4)).block, (b.add (i * 4)).off + 1, none⟩ = some (.int .i64 x.agg) ∧ w.cell? ⟨(b.add (i * 4)).block, (b.add (i * 4)).off + 2, none⟩ = some (.int .i64 x.span) ∧ w.cell? ⟨(b.add (i * 4)).block, (b.add (i * 4)).off + 3, none⟩ = some (.int .i64 x.rank) := by
 obtain ⟨h0, h1⟩ := h.cellsAt hx (by decide)
 exact ⟨h0 _ rfl, h1 0 _ rfl, h1 1 _ rfl, h1 2 _ rfl⟩
theorem cron_at {w : World} {b : Addr} {l : List CronP} (h : ArrL w (some b) 5 CronP.cells l) {i : Nat} {x : CronP} (hx : l[i]? = some x) :
  w.cell? (b.add (i * 5)) = some (.int .u64 x.f0) ∧ w.cell? ⟨(b.add (i * 5)).block, (b.add (i * 5)).off + 1, none⟩ = some (.int .u64 x.f1) ∧ w.cell? ⟨(b.add (i * 5)).block, (b.add (i * 5)).off + 2, none⟩ = some (.int .u64 x.f2) ∧ w.cell? ⟨(b.add (i * 5)).block, (b.add (i * 5)).off + 3, none⟩ = some (.int .u64 x.f3) ∧ w.cell? ⟨(b.add (i * 5)).block, (b.add (i * 5)).off + 4, none⟩ = some (.int .u64 x.f4) := by
 obtain ⟨h0, h1⟩ := h.cellsAt hx (by decide)
 exact ⟨h0 _ rfl, h1 0 _ rfl, h1 1 _ rfl, h1 2 _ rfl, h1 3 _ rfl⟩
theorem refformed_calls {p : PlanS} {w : World} (h : PlanL w p) : Calls Tryz.prog 14 #[.agg #[.slice p.ma p.mets.length p.mcap, .int .i64 p.r0, .int .i64 p.r1, .int .i64 p.r2, .int .i64 p.r3, .int .i64 p.r4, .slice p.wa p.wins.length p.wcap, .slice p.ca p.crons.length p.ccap, .int .i64 p.locals, .slice p.ga p.guards.length p.gcap, .int .i64 p.fin.op, .int .i64 p.fin.n, .int .i64 p.fin.m, .slice p.fin.at_ p.fin.kids.length p.fin.cap]] w fun e w' => e = .returned (.bool (formedP p)) ∧ Below w.heap.size w w' := by
 obtain ⟨w1, e1, b1, k1, s1⟩ := box1 w (.cells #[.slice p.ma p.mets.length p.mcap, .int .i64 p.r0, .int .i64 p.r1, .int .i64 p.r2, .int .i64 p.r3, .int .i64 p.r4, .slice p.wa p.wins.length p.wcap, .slice p.ca p.crons.length p.ccap, .int .i64 p.locals, .slice p.ga p.guards.length p.gcap, .int .i64 p.fin.op, .int .i64 p.fin.n, .int .i64 p.fin.m, .slice p.fin.at_ p.fin.kids.length p.fin.cap] 49)
 have HE := Lib.hid e1
 have B1 := Lib.hid b1
 have HP := Lib.hid (h.below b1)
 have HC := Lib.hid fun (w' : World) (hb : Below w1.heap.size w1 w') => plan_cells (p := p) (blk_below k1 hb)
 obtain ⟨gP, hgP⟩ : ∃ g, w.heap.size = g := ⟨_, rfl⟩
 have HGP := Lib.hid hgP
 rw [hgP] at HC
 have HNO := Lib.hid (fun h : ¬ headP p => formedP_no h)
 obtain ⟨fb, hfb⟩ : ∃ b, formedP p = b := ⟨_, rfl⟩
 have HFB := Lib.hid hfb
 rw [hfb] at HNO ⊢
 have hlm := Lib.hid (And.intro h.mets.1 h.mets.2.1)
 clear h k1 e1 b1 s1 hfb hgP
 go_enter Tryz.func14, Tryz.ntmps14
 by_cases c1 : p.mets.length ≤ 64
 case neg =>
  have n0a : ((64 : Int) < (p.mets.length : Int)) = True := eq_true (by omega)
  have n0b : (64 < p.mets.length) = True := eq_true (by omega)
  have hres := Lib.hid (HNO.out (fun hh => c1 hh.1))
  clear c1
  go_wp2_with fail
  rw [HE.out]
  go_ret
  exact ⟨by rw [hres.out]; first | done | rfl | simp, B1.out⟩
 have n0a : ((64 : Int) < (p.mets.length : Int)) = False := eq_false (by omega)
 have n0b : (64 < p.mets.length) = False := eq_false (by omega)
 have Hc1 := Lib.hid c1
 clear c1
 by_cases c2 : p.wins.length ≤ 256
 case neg =>
  have n1a : ((256 : Int) < (p.wins.length : Int)) = True := eq_true (by omega)
  have n1b : (256 < p.wins.length) = True := eq_true (by omega)
  have hres := Lib.hid (HNO.out (fun hh => c2 hh.2.1))
  clear c2
  go_wp2_with fail
  rw [HE.out]
  go_ret
  exact ⟨by rw [hres.out]; first | done | rfl | simp, B1.out⟩
 have n1a : ((256 : Int) < (p.wins.length : Int)) = False := eq_false (by omega)
 have n1b : (256 < p.wins.length) = False := eq_false (by omega)
 have Hc2 := Lib.hid c2
 clear c2
 by_cases c3 : p.crons.length ≤ 256
 case neg =>
  have n2a : ((256 : Int) < (p.crons.length : Int)) = True := eq_true (by omega)
  have n2b : (256 < p.crons.length) = True := eq_true (by omega)
  have hres := Lib.hid (HNO.out (fun hh => c3 hh.2.2.1))
  clear c3
  go_wp2_with fail
  rw [HE.out]
  go_ret
  exact ⟨by rw [hres.out]; first | done | rfl | simp, B1.out⟩
 have n2a : ((256 : Int) < (p.crons.length : Int)) = False := eq_false (by omega)
 have n2b : (256 < p.crons.length) = False := eq_false (by omega)
 have Hc3 := Lib.hid c3
 clear c3
 go_wp2_with fail
 rw [HE.out, HGP.out]
 refine (rright_calls _ _ _ _ _ _).mono ?_
 rintro e w2 ⟨rfl, b2⟩
 have B2 := Lib.hid b2
 clear b2
 obtain ⟨rb, hrb⟩ : ∃ b, rightB p.r0 p.r1 p.r2 p.r3 p.r4 = b := ⟨_, rfl⟩
 rw [hrb]
 have HRB := Lib.hid hrb
 clear hrb
 obtain ⟨x0, ⟨x1, x2, x3, x4, x5⟩, ⟨x6, x7, x8, x9⟩, ⟨x10, x11, x12, x13⟩⟩ := HC.out w2 B2.out
 cases rb with
 | false =>
  have hres := Lib.hid (HNO.out (fun hh => by have := hh.2.2.2.1; rw [HRB.out] at this; cases this))
  go_wp2_with fail
  go_ret
  exact ⟨by rw [hres.out]; first | done | rfl | simp, B1.out.trans (B2.out.mono B1.out.size)⟩
 | true =>
  by_cases l0 : 0 ≤ p.locals
  case neg =>
   have n0 : (p.locals < 0) = True := eq_true (by omega)
   have hres := Lib.hid (HNO.out (fun hh => l0 hh.2.2.2.2.1))
   clear l0
   go_wp2_with fail
   go_ret
   exact ⟨by rw [hres.out]; first | done | rfl | simp, B1.out.trans (B2.out.mono B1.out.size)⟩
  have n0 : (p.locals < 0) = False := eq_false (by omega)
  have HL0 := Lib.hid l0
  by_cases l1 : p.locals ≤ 256
  case neg =>
   have n1 : ((256 : Int) < p.locals) = True := eq_true (by omega)
   have hres := Lib.hid (HNO.out (fun hh => l1 hh.2.2.2.2.2.1))
   clear l0 l1
   go_wp2_with fail
   go_ret
   exact ⟨by rw [hres.out]; first | done | rfl | simp, B1.out.trans (B2.out.mono B1.out.size)⟩
  have n1 : ((256 : Int) < p.locals) = False := eq_false (by omega)
  have HL1 := Lib.hid l1
  clear l0 l1
  obtain ⟨wa, hwa⟩ : ∃ a, p.wa = a := ⟨_, rfl⟩
  obtain ⟨ca, hca⟩ : ∃ a, p.ca = a := ⟨_, rfl⟩
  have HW := Lib.hid HP.out.wins
  have HCR := Lib.hid HP.out.crons
  rw [hwa] at HW
  rw [hca] at HCR
  rw [hwa, hca] at HC
  rw [hwa] at x6
  rw [hca] at x7
  have HWA := Lib.hid hwa
  have HCA := Lib.hid hca
  clear hwa hca
  have LNW : p.wins.length ≤ 256 := Hc2.out
  have LNC : p.crons.length ≤ 256 := Hc3.out
  have HLW := Lib.hid LNW
  have HLC := Lib.hid LNC
  clear LNW LNC
  go_wp2_with fail
  clear x0 x1 x2 x3 x4 x5 x6 x7 x8 x9 x10 x11 x12 x13 n0 n1 n0a n0b n1a n1b n2a n2b
  go_loopg [3] p.wins.length (fun gg v3 wr => ∃ i : Nat, v3 = .int .i64 i ∧ Aside0 (i + gg = p.wins.length) ∧ Aside0 (∀ (j : Nat) x, j < i → p.wins[j]? = some x → winOk p x = true) ∧ Aside0 (Below w2.heap.size w2 wr))
  case atStart => exact ⟨0, rfl, ⟨by omega⟩, ⟨fun j x hj => by omega⟩, ⟨Below.refl _ _⟩⟩
  case round =>
   obtain ⟨i, rfl, hi, hQ, hB⟩ := hrel
   have HI := Lib.hid hi.out
   have HQ := Lib.hid hQ.out
   have HB := Lib.hid hB.out
   have HBB := Lib.hid (B2.out.trans (hB.out.mono B2.out.size))
   clear hi hQ hB
   obtain ⟨x0, ⟨x1, x2, x3, x4, x5⟩, ⟨x6, x7, x8, x9⟩, ⟨x10, x11, x12, x13⟩⟩ := HC.out wr HBB.out
   by_cases hlt : i < p.wins.length
   ·obtain ⟨x, hx⟩ : ∃ x, p.wins[i]? = some x := ⟨_, List.getElem?_eq_getElem hlt⟩
    have hA := HW.out.2.2.2
    obtain ⟨b, rfl, -⟩ := hA i x hx
    have HCW := Lib.hid fun (w' : World) (hb : Below wr.heap.size wr w') => (show _ ∧ _ from ⟨HC.out w' (HBB.out.trans (hb.mono HBB.out.size)), win_at (hA.below (HBB.out.trans (hb.mono HBB.out.size)) (by decide)) hx⟩)
    have q0 := eq_true (show (0 : Int) ≤ (i : Int) by omega)
    have q1 : ((i : Int) < (p.wins.length : Int)) = True := eq_true (by omega)
    have q2 : (i < p.wins.length) = True := eq_true hlt
    have w5 : wrap64 ((i : Int) + 1) = ((i + 1 : Nat) : Int) := by have := HLW.out; unfold wrap64; omega
    have HX := Lib.hid hx
    have HLT := Lib.hid hlt
    obtain ⟨wb, hwb⟩ : ∃ b, winB x.met x.agg x.span x.rank = b := ⟨_, rfl⟩
    have HWB := Lib.hid hwb
    clear hlt hA hx hwb
    cases wb with
    | false =>
     have hres := Lib.hid (show fb = false from HFB.out.symm.trans (formedP_win HX.out (show winOk p x = false by unfold winOk; rw [HWB.out]; rfl)))
     clear w5
     go_wp2_with fail
     clear x0 x1 x2 x3 x4 x5 x6 x7 x8 x9 x10 x11 x12 x13
     refine wp_region_held_drew (S := fun w' => Aside0 (Below wr.heap.size wr w')) (by kernel_rfl) ?_ (fun hHeld => ?_)
     ·exact ⟨(Below.refl _ _).drew⟩
     generalize World.drew _ = wDa at hHeld ⊢
     have HCr := HCW
     refine' tk 0 ?_
     try simp only [pt]
     refine' tk 1 ?_
     try simp only [pt]
     refine' tk 2 ?_
     try simp only [pt]
     refine' tk 3 ?_
     try simp only [pt]
     refine' tk 4 ?_
     try simp only [pt]
     refine' cm 5 (fun K hK => ?_)
     go_simp
     refine (rwinright_calls _ _ _ _ _).mono ?_
     rintro e w7 ⟨rfl, b7⟩
     rw [HWB.out]
     refine hK.out _ _ ⟨hHeld.out.trans (b7.mono hHeld.out.size)⟩ (fun hHeld => ?_)
     clear hK K
     try simp only [pt]
     refine' tk 6 ?_
     try simp only [pt]
     refine' tk 7 ?_
     try simp only [pt]
     refine' tn 8 ?_
     try simp only [pt]
     refine' tn 9 ?_
     try simp only [pt]
     refine' tn 10 ?_
     try simp only [pt]
     refine' tn 11 ?_
     try simp only [pt]
     refine' tn 12 ?_
     try simp only [pt]
     refine' tn 13 ?_
     try simp only [pt]
     refine' tn 14 ?_
     try simp only [pt]
     refine' tn 15 ?_
     try simp only [pt]
     refine' tn 16 ?_
     try simp only [pt]
     refine' tn 17 ?_
     try simp only [pt]
     refine' tk 18 ?_
     try simp only [pt]
     refine wpAnyH_done (by kernel_rfl) ?_ _
     go_wp2_with fail
     go_ret
     exact ⟨by rw [hres.out]; first | done | rfl | simp, B1.out.trans ((HBB.out.trans (hHeld.out.mono HBB.out.size)).mono B1.out.size)⟩
    | true =>
     by_cases hm : x.met < (p.mets.length : Int)
     ·have m1 : ((p.mets.length : Int) ≤ x.met) = False := eq_false (by omega)
      have HM := Lib.hid hm
      clear hm
      go_wp2_with fail
      clear x0 x1 x2 x3 x4 x5 x6 x7 x8 x9 x10 x11 x12 x13
      refine wp_region_held_drew (S := fun w' => Aside0 (Below wr.heap.size wr w')) (by kernel_rfl) ?_ (fun hHeld => ?_)
      ·exact ⟨(Below.refl _ _).drew⟩
      generalize World.drew _ = wDb at hHeld ⊢
      have HCr := HCW
      refine' tk 0 ?_
      try simp only [pt]
      refine' tk 1 ?_
      try simp only [pt]
      refine' tk 2 ?_
      try simp only [pt]
      refine' tk 3 ?_
      try simp only [pt]
      refine' tk 4 ?_
      try simp only [pt]
      refine' cm 5 (fun K hK => ?_)
      go_simp
      refine (rwinright_calls _ _ _ _ _).mono ?_
      rintro e w7 ⟨rfl, b7⟩
      rw [HWB.out]
      refine hK.out _ _ ⟨hHeld.out.trans (b7.mono hHeld.out.size)⟩ (fun hHeld => ?_)
      clear hK K
      try simp only [pt]
      refine' tk 6 ?_
      try simp only [pt]
      refine' tk 7 ?_
      try simp only [pt]
      refine' tk 8 ?_
      try simp only [pt]
      refine' tk 9 ?_
      try simp only [pt]
      refine' tk 10 ?_
      try simp only [pt]
      refine' tk 11 ?_
      try simp only [pt]
      refine' tk 12 ?_
      try simp only [pt]
      refine' tk 13 ?_
      try simp only [pt]
      refine' tk 14 ?_
      try simp only [pt]
      refine' tk 15 ?_
      try simp only [pt]
      refine' tk 16 ?_
      try simp only [pt]
      refine' tk 17 ?_
      try simp only [pt]
      refine' tk 18 ?_
      try simp only [pt]
      refine wpAnyH_done (by kernel_rfl) ?_ _
      go_wp2_with fail
      go_roundg (gk - 1)
      case measure => clear w5; have := HI.out; have := HLT.out; omega
      case rel => exact ⟨i + 1, by first | rfl | simp [w5], ⟨by clear w5; have := HI.out; have := HLT.out; omega⟩, ⟨fun j y hj hy => by
       by_cases e : j = i
       ·subst e
        rw [HX.out] at hy
        injection hy with hy
        subst hy
        unfold winOk
        rw [HWB.out, decide_eq_true HM.out]
        rfl
       ·exact HQ.out j y (by omega) hy⟩, ⟨HB.out.trans (hHeld.out.mono HB.out.size)⟩⟩
     ·have m1 : ((p.mets.length : Int) ≤ x.met) = True := eq_true (by omega)
      have hres := Lib.hid (show fb = false from HFB.out.symm.trans (formedP_win HX.out (show winOk p x = false by unfold winOk; rw [decide_eq_false hm]; simp)))
      clear hm w5
      go_wp2_with fail
      clear x0 x1 x2 x3 x4 x5 x6 x7 x8 x9 x10 x11 x12 x13
      refine wp_region_held_drew (S := fun w' => Aside0 (Below wr.heap.size wr w')) (by kernel_rfl) ?_ (fun hHeld => ?_)
      ·exact ⟨(Below.refl _ _).drew⟩
      generalize World.drew _ = wDc at hHeld ⊢
      have HCr := HCW
      refine' tk 0 ?_
      try simp only [pt]
      refine' tk 1 ?_
      try simp only [pt]
      refine' tk 2 ?_
      try simp only [pt]
      refine' tk 3 ?_
      try simp only [pt]
      refine' tk 4 ?_
      try simp only [pt]
      refine' cm 5 (fun K hK => ?_)
      go_simp
      refine (rwinright_calls _ _ _ _ _).mono ?_
      rintro e w7 ⟨rfl, b7⟩
      rw [HWB.out]
      refine hK.out _ _ ⟨hHeld.out.trans (b7.mono hHeld.out.size)⟩ (fun hHeld => ?_)
      clear hK K
      try simp only [pt]
      refine' tk 6 ?_
      try simp only [pt]
      refine' tk 7 ?_
      try simp only [pt]
      refine' tk 8 ?_
      try simp only [pt]
      refine' tk 9 ?_
      try simp only [pt]
      refine' tk 10 ?_
      try simp only [pt]
      refine' tk 11 ?_
      try simp only [pt]
      refine' tk 12 ?_
      try simp only [pt]
      refine' tk 13 ?_
      try simp only [pt]
      refine' tk 14 ?_
      try simp only [pt]
      refine' tk 15 ?_
      try simp only [pt]
      refine' tk 16 ?_
      try simp only [pt]
      refine' tk 17 ?_
      try simp only [pt]
      refine' tk 18 ?_
      try simp only [pt]
      refine wpAnyH_done (by kernel_rfl) ?_ _
      go_wp2_with fail
      go_ret
      exact ⟨by rw [hres.out]; first | done | rfl | simp, B1.out.trans ((HBB.out.trans (hHeld.out.mono HBB.out.size)).mono B1.out.size)⟩
   ·have q1 : ((i : Int) < (p.wins.length : Int)) = False := eq_false (by omega)
    have q2 : (i < p.wins.length) = False := eq_false hlt
    have HWIN := Lib.hid (fun (j : Nat) x hx => HQ.out j x (by have := (List.getElem?_eq_some_iff.1 hx).1; omega) hx)
    clear hlt
    go_wp2_with fail
    clear x0 x1 x2 x3 x4 x5 x6 x7 x8 x9 x10 x11 x12 x13 q1 q2
    obtain ⟨wA, rfl⟩ : ∃ x, x = wr := ⟨_, rfl⟩
    have HBA := Lib.hid HBB.out
    clear HBB HB HQ HI
    go_loopg [4] p.crons.length (fun gg v4 wr => ∃ i : Nat, v4 = .int .i64 i ∧ Aside0 (i + gg = p.crons.length) ∧ Aside0 (∀ (j : Nat) x, j < i → p.crons[j]? = some x → formedB x = true) ∧ Aside0 (Below wA.heap.size wA wr))
    case atStart => exact ⟨0, rfl, ⟨by omega⟩, ⟨fun j x hj => by omega⟩, ⟨Below.refl _ _⟩⟩
    case round =>
     obtain ⟨i, rfl, hi, hQ, hB⟩ := hrel
     have HI := Lib.hid hi.out
     have HQ := Lib.hid hQ.out
     have HB := Lib.hid hB.out
     have HBB := Lib.hid (HBA.out.trans (hB.out.mono HBA.out.size))
     clear hi hQ hB
     obtain ⟨x0, ⟨x1, x2, x3, x4, x5⟩, ⟨x6, x7, x8, x9⟩, ⟨x10, x11, x12, x13⟩⟩ := HC.out wr HBB.out
     by_cases hlt : i < p.crons.length
     ·obtain ⟨x, hx⟩ : ∃ x, p.crons[i]? = some x := ⟨_, List.getElem?_eq_getElem hlt⟩
      have hA := (HCR.out.2.2.2).below HBB.out (by decide)
      obtain ⟨b, rfl, -⟩ := hA i x hx
      obtain ⟨c0, c1, c2, c3, c4⟩ := cron_at hA hx
      have q0 := eq_true (show (0 : Int) ≤ (i : Int) by omega)
      have q1 : ((i : Int) < (p.crons.length : Int)) = True := eq_true (by omega)
      have q2 : (i < p.crons.length) = True := eq_true hlt
      have w5 : wrap64 ((i : Int) + 1) = ((i + 1 : Nat) : Int) := by have := HLC.out; unfold wrap64; omega
      have HX := Lib.hid hx
      have HLT := Lib.hid hlt
      have HOK := Lib.hid (HCR.out.2.2.1 x (List.mem_of_getElem? hx))
      obtain ⟨wb, hwb⟩ : ∃ b, formedB x = b := ⟨_, rfl⟩
      have HWB := Lib.hid hwb
      clear hlt hA hx hwb
      go_wp2_with fail
      refine (rformed_calls x HOK.out wr).mono ?_
      rintro e w7 ⟨rfl, b7⟩
      rw [HWB.out]
      have B7 := Lib.hid (HB.out.trans (b7.mono HB.out.size))
      clear b7 c0 c1 c2 c3 c4 x0 x1 x2 x3 x4 x5 x6 x7 x8 x9 x10 x11 x12 x13
      cases wb with
      | false =>
       have hres := Lib.hid (show fb = false from HFB.out.symm.trans (formedP_cron HX.out HWB.out))
       clear w5
       go_wp2_with fail
       go_ret
       exact ⟨by rw [hres.out]; first | done | rfl | simp, B1.out.trans ((HBA.out.trans (B7.out.mono HBA.out.size)).mono B1.out.size)⟩
      | true =>
       go_wp2_with fail
       go_roundg (gk - 1)
       case measure => clear w5; have := HI.out; have := HLT.out; omega
       case rel => exact ⟨i + 1, by first | rfl | simp [w5], ⟨by clear w5; have := HI.out; have := HLT.out; omega⟩, ⟨fun j y hj hy => by
        by_cases e : j = i
        ·subst e
         rw [HX.out] at hy
         injection hy with hy
         subst hy
         exact HWB.out
        ·exact HQ.out j y (by omega) hy⟩, ⟨B7.out⟩⟩
     ·have q1 : ((i : Int) < (p.crons.length : Int)) = False := eq_false (by omega)
      have q2 : (i < p.crons.length) = False := eq_false hlt
      have HCRON := Lib.hid (fun (j : Nat) x hx => HQ.out j x (by have := (List.getElem?_eq_some_iff.1 hx).1; omega) hx)
      obtain ⟨l, hl⟩ : ∃ l, p.cores = l := ⟨_, rfl⟩
      have hlen := cores_len HP.out
      have hcall := rcores_calls (HP.out.below HBB.out)
      have hmany := fun i h => HFB.out.symm.trans (formedP_many (p := p) (i := i) h)
      have hunw := fun j c hc h => HFB.out.symm.trans (formedP_unwanted (p := p) (j := j) (c := c) hc h)
      have hmem := fun i h => HFB.out.symm.trans (formedP_memo (p := p) (i := i) h)
      have hall := fun h7 hs h hm => HFB.out.symm.trans (formedP_all (p := p) Hc1.out Hc2.out Hc3.out HRB.out HL0.out HL1.out h7 HWIN.out HCRON.out hs (h := h) hm)
      have hne := fun (h : ∀ c ∈ p.cores, srt p c ≠ 0) => mokL_of (rw := p.wins.length) (rc := p.crons.length) (rl := p.locals) HL1.out h
      rw [hl] at hlen hcall hmany hunw hmem hall hne
      rw [HWA.out, HCA.out] at hcall
      obtain ⟨len, hln⟩ : ∃ n, l.length = n := ⟨_, rfl⟩
      rw [hln] at hlen hcall hunw hall
      have HLEN := Lib.hid hlen
      have HCALL := Lib.hid hcall
      have HMANY := Lib.hid hmany
      have HUNW := Lib.hid hunw
      have HMEM := Lib.hid hmem
      have HALL := Lib.hid hall
      have HNE := Lib.hid hne
      have HLN := Lib.hid hln
      clear hlt hl hlen hcall hmany hunw hmem hall hne hln
      go_wp2_with fail
      clear q1 q2 x0 x1 x2 x3 x4 x5 x6 x7 x8 x9 x10 x11 x12 x13
      refine HCALL.out.mono ?_
      rintro e w3 ⟨⟨A, cp, rfl, hL, hcp⟩, b3⟩
      have HL := Lib.hid hL
      have B3 := Lib.hid (HBB.out.trans (b3.mono HBB.out.size))
      clear hL hcp b3 HCALL
      go_wp2_with fail
      go_loopg [6, 7] len (fun gg v6 v7 wr => ∃ (i k : Nat), v6 = .int .i64 k ∧ v7 = .int .i64 i ∧ Aside0 (i + gg = len) ∧ Aside0 (k = totalL (l.take i) ∧ k ≤ 4096) ∧ Aside0 (Below w3.heap.size w3 wr))
      case atStart => exact ⟨0, 0, rfl, rfl, ⟨by omega⟩, ⟨by rw [List.take_zero]; rfl, by decide⟩, ⟨Below.refl _ _⟩⟩
      case round =>
       obtain ⟨i, k, rfl, rfl, hi, hK, hB⟩ := hrel
       have HI := Lib.hid hi.out
       have HK := Lib.hid hK.out
       have HB := Lib.hid hB.out
       clear hi hK hB
       by_cases hlt : i < len
       ·obtain ⟨y, hy⟩ : ∃ y, l[i]? = some y := ⟨_, List.getElem?_eq_getElem (by rw [HLN.out]; exact hlt)⟩
        obtain ⟨b, rfl, hblk, c0, c1, c2, c3⟩ := HL.out.cellsB HB.out hy
        have HYL := Lib.hid (LiesL.lies HL.out (List.mem_of_getElem? hy))
        have q0 := eq_true (show (0 : Int) ≤ (i : Int) by omega)
        have q1 : ((i : Int) < (len : Int)) = True := eq_true (by omega)
        have q2 : (i < len) = True := eq_true hlt
        have HLT := Lib.hid hlt
        obtain ⟨t, ht⟩ : ∃ t, min y.total 4097 = t := ⟨_, rfl⟩
        obtain ⟨k2, hk2⟩ : ∃ k2, k + t = k2 := ⟨_, rfl⟩
        have HTT := Lib.hid ht
        have hkk := HK.out
        have hT := totalL_take hy
        have w4 : wrap64 ((k : Int) + (t : Int)) = (k2 : Int) := by clear hT; unfold wrap64; omega
        have w5 : wrap64 ((i : Int) + 1) = ((i + 1 : Nat) : Int) := by have := HLEN.out; clear hT; unfold wrap64; omega
        by_cases hbig : k2 ≤ 4096
        ·have HKN := Lib.hid (show k2 = totalL (l.take (i + 1)) ∧ k2 ≤ 4096 from ⟨by clear w4 w5; omega, hbig⟩)
         obtain ⟨q3, q4⟩ := big_no hbig
         clear hy hlt ht hk2 hkk hT hbig
         go_wp2_with fail
         refine (rNodes_calls y _ (HYL.out.below HB.out)).mono ?_
         rintro e w7 ⟨rfl, b7⟩
         rw [HTT.out]
         have B7 := Lib.hid (HB.out.trans (b7.mono HB.out.size))
         clear b7 c0 c1 c2 c3 hblk
         go_wp2_with fail
         go_roundg (gk - 1)
         case measure => clear w4 w5; have := HI.out; have := HLT.out; omega
         case rel => exact ⟨i + 1, k2, by first | rfl | simp [w4], by first | rfl | simp [w5], ⟨by clear w4 w5; have := HI.out; have := HLT.out; omega⟩, ⟨HKN.out⟩, ⟨B7.out⟩⟩
        ·have hres := Lib.hid (HMANY.out (i + 1) (by clear w4 w5; omega))
         obtain ⟨q3, q4⟩ := big_yes hbig
         clear hy hlt ht hk2 hkk hT hbig w5
         go_wp2_with fail
         refine (rNodes_calls y _ (HYL.out.below HB.out)).mono ?_
         rintro e w7 ⟨rfl, b7⟩
         rw [HTT.out]
         have B7 := Lib.hid (HB.out.trans (b7.mono HB.out.size))
         clear b7 c0 c1 c2 c3 hblk
         go_wp2_with fail
         go_ret
         exact ⟨by rw [hres.out]; first | done | rfl | simp, B1.out.trans ((B3.out.trans (B7.out.mono B3.out.size)).mono B1.out.size)⟩
       ·have hie : i = len := by have := HI.out; omega
        have HTOT := Lib.hid (show totalL l ≤ 4096 by
         have h := HK.out
         rw [hie, ← HLN.out, List.take_length] at h
         omega)
        have q1 : ((i : Int) < (len : Int)) = False := eq_false (by omega)
        have q2 : (i < len) = False := eq_false hlt
        have BB4 := Lib.hid (B3.out.trans (HB.out.mono B3.out.size))
        obtain ⟨x0, ⟨x1, x2, x3, x4, x5⟩, ⟨x6, x7, x8, x9⟩, ⟨x10, x11, x12, x13⟩⟩ := HC.out wr BB4.out
        have hltP : gP < wr.heap.size := World.block_lt_of_cell? wr _ x0
        have nP0 : ¬ gP = wr.heap.size := by omega
        have nP1 : ¬ wr.heap.size = gP := by omega
        clear hlt hie HI
        go_wp2_with fail
        clear x0 x1 x2 x3 x4 x5 x6 x7 x8 x9 x10 x11 x12 x13 q1 q2 hltP nP0 nP1
        obtain ⟨wC, eC, bC, kC, sC⟩ := box1 wr (.cells #[.int .i64 (p.wins.length : Int), .int .i64 (p.crons.length : Int), .int .i64 p.locals] 38)
        rw [eC]
        obtain ⟨gR, hgR⟩ : ∃ g, wr.heap.size = g := ⟨_, rfl⟩
        rw [hgR] at kC ⊢
        have HBC := Lib.hid (BB4.out.trans (bC.mono BB4.out.size))
        have HLC2 := Lib.hid (HL.out.below (HB.out.trans (bC.mono HB.out.size)))
        have KR := Lib.hid kC
        clear eC bC kC sC hgR HB BB4 HK HL
        go_wp2_with fail
        go_loopg [9] len (fun gg v9 wr => ∃ i : Nat, v9 = .int .i64 i ∧ Aside0 (i + gg = len) ∧ Aside0 (∀ (j : Nat) c, j < i → l[j]? = some c → srt p c = wantN len j) ∧ Aside0 (Below wC.heap.size wC wr))
        case atStart => exact ⟨0, rfl, ⟨by omega⟩, ⟨fun j x hj => by omega⟩, ⟨Below.refl _ _⟩⟩
        case round =>
         obtain ⟨i, rfl, hi, hQ, hB⟩ := hrel
         have HI := Lib.hid hi.out
         have HQ := Lib.hid hQ.out
         have HB := Lib.hid hB.out
         have HBB := Lib.hid (HBC.out.trans (hB.out.mono HBC.out.size))
         clear hi hQ hB
         by_cases hlt : i < len
         ·obtain ⟨y, hy⟩ : ∃ y, l[i]? = some y := ⟨_, List.getElem?_eq_getElem (by rw [HLN.out]; exact hlt)⟩
          have HLW := Lib.hid (HLC2.out.below HB.out)
          have HYL := Lib.hid (LiesL.lies HLW.out (List.mem_of_getElem? hy))
          obtain ⟨b, rfl, -⟩ := HLW.out.cellsB (Below.refl _ _) hy
          have HCY := Lib.hid fun (w' : World) (hb : Below wr.heap.size wr w') => (show _ ∧ _ from ⟨room2_cells (blk_below (blk_below KR.out HB.out) hb), by obtain ⟨b', e, h⟩ := HLW.out.cellsB hb hy; cases e; exact h.2⟩)
          have q0 := eq_true (show (0 : Int) ≤ (i : Int) by omega)
          have q1 : ((i : Int) < (len : Int)) = True := eq_true (by omega)
          have q2 : (i < len) = True := eq_true hlt
          have w5 : wrap64 ((i : Int) + 1) = ((i + 1 : Nat) : Int) := by have := HLEN.out; unfold wrap64; omega
          have HLT := Lib.hid hlt
          have HY := Lib.hid hy
          obtain ⟨s, hs⟩ : ∃ s, srt p y = s := ⟨_, rfl⟩
          have HS := Lib.hid hs
          have HCALL := Lib.hid (rsort_calls p.wins.length p.crons.length p.locals y)
          have hs' : sortS p.wins.length p.crons.length p.locals y = s := hs
          rw [hs'] at HCALL
          clear hs' hs hy
          by_cases hpar : i % 2 = 0
          ·have p0 : (i : Int).tmod 2 = 0 := by rw [Int.tmod_eq_emod_of_nonneg (by omega)]; omega
           have w6 : wrap64 ((len : Int) - 1) = ((len - 1 : Nat) : Int) := by have := HLEN.out; unfold wrap64; omega
           by_cases hla : i < len - 1
           ·have p1 : ((i : Int) < ((len - 1 : Nat) : Int)) = True := eq_true (by omega)
            have p2 : (i < len - 1) = True := eq_true hla
            have HWN := Lib.hid (show wantN len i = 2 by unfold wantN; rw [if_pos (by omega)])
            clear hpar hla hlt
            go_wp2_with fail
            refine wp_region_held_drew (S := fun w' => Aside0 (Below wr.heap.size wr w')) (by kernel_rfl) ?_ (fun hHeld => ?_)
            ·exact ⟨(Below.refl _ _).drew⟩
            generalize World.drew _ = wDrA at hHeld ⊢
            have HCr := HCY
            refine' tk 0 ?_
            try simp only [pt]
            refine' tk 1 ?_
            try simp only [pt]
            refine' tk 2 ?_
            try simp only [pt]
            refine' tk 3 ?_
            try simp only [pt]
            refine' tk 4 ?_
            try simp only [pt]
            refine' tk 6 ?_
            try simp only [pt]
            refine' cm 5 (fun K hK => ?_)
            go_simp
            refine (HCALL.out _ (HYL.out.below hHeld.out)).mono ?_
            rintro e w7 ⟨rfl, b7⟩
            refine hK.out _ _ ⟨hHeld.out.trans (b7.mono hHeld.out.size)⟩ (fun hHeld => ?_)
            clear hK K
            try simp only [pt]
            refine' tk 7 ?_
            try simp only [pt]
            refine wpAnyH_done (by kernel_rfl) ?_ _
            by_cases hsw : s = 2
            ·have n0 : (s != 2) = false := by simp [hsw]
             have HSW := Lib.hid hsw
             clear hsw
             go_wp2_with fail
             go_roundg (gk - 1)
             case measure => clear w5; have := HI.out; have := HLT.out; omega
             case rel => exact ⟨i + 1, by first | rfl | simp [w5], ⟨by clear w5; have := HI.out; have := HLT.out; omega⟩, ⟨fun j c hj hc => by
              by_cases e : j = i
              ·subst e
               rw [HY.out] at hc
               injection hc with hc
               subst hc
               rw [HS.out, HWN.out]
               exact HSW.out
              ·exact HQ.out j c (by omega) hc⟩, ⟨HB.out.trans (hHeld.out.mono HB.out.size)⟩⟩
            ·have n0 : (s != 2) = true := by simp [hsw]
             have hres := Lib.hid (HUNW.out i y HY.out (by rw [HS.out, HWN.out]; exact hsw))
             clear hsw w5
             go_wp2_with fail
             go_ret
             exact ⟨by rw [hres.out]; first | done | rfl | simp, B1.out.trans ((HBB.out.trans (hHeld.out.mono HBB.out.size)).mono B1.out.size)⟩
           ·have p1 : ((i : Int) < ((len - 1 : Nat) : Int)) = False := eq_false (by omega)
            have p2 : (i < len - 1) = False := eq_false hla
            have HWN := Lib.hid (show wantN len i = 3 by unfold wantN; rw [if_neg (by omega)])
            clear hpar hla hlt
            go_wp2_with fail
            refine wp_region_held_drew (S := fun w' => Aside0 (Below wr.heap.size wr w')) (by kernel_rfl) ?_ (fun hHeld => ?_)
            ·exact ⟨(Below.refl _ _).drew⟩
            generalize World.drew _ = wDrB at hHeld ⊢
            have HCr := HCY
            refine' tk 0 ?_
            try simp only [pt]
            refine' tk 1 ?_
            try simp only [pt]
            refine' tk 2 ?_
            try simp only [pt]
            refine' tk 3 ?_
            try simp only [pt]
            refine' tk 4 ?_
            try simp only [pt]
            refine' tk 6 ?_
            try simp only [pt]
            refine' cm 5 (fun K hK => ?_)
            go_simp
            refine (HCALL.out _ (HYL.out.below hHeld.out)).mono ?_
            rintro e w7 ⟨rfl, b7⟩
            refine hK.out _ _ ⟨hHeld.out.trans (b7.mono hHeld.out.size)⟩ (fun hHeld => ?_)
            clear hK K
            try simp only [pt]
            refine' tk 7 ?_
            try simp only [pt]
            refine wpAnyH_done (by kernel_rfl) ?_ _
            by_cases hsw : s = 3
            ·have n0 : (s != 3) = false := by simp [hsw]
             have HSW := Lib.hid hsw
             clear hsw
             go_wp2_with fail
             go_roundg (gk - 1)
             case measure => clear w5; have := HI.out; have := HLT.out; omega
             case rel => exact ⟨i + 1, by first | rfl | simp [w5], ⟨by clear w5; have := HI.out; have := HLT.out; omega⟩, ⟨fun j c hj hc => by
              by_cases e : j = i
              ·subst e
               rw [HY.out] at hc
               injection hc with hc
               subst hc
               rw [HS.out, HWN.out]
               exact HSW.out
              ·exact HQ.out j c (by omega) hc⟩, ⟨HB.out.trans (hHeld.out.mono HB.out.size)⟩⟩
            ·have n0 : (s != 3) = true := by simp [hsw]
             have hres := Lib.hid (HUNW.out i y HY.out (by rw [HS.out, HWN.out]; exact hsw))
             clear hsw w5
             go_wp2_with fail
             go_ret
             exact ⟨by rw [hres.out]; first | done | rfl | simp, B1.out.trans ((HBB.out.trans (hHeld.out.mono HBB.out.size)).mono B1.out.size)⟩
          ·have p0 : (i : Int).tmod 2 = 1 := by rw [Int.tmod_eq_emod_of_nonneg (by omega)]; omega
           have HWN := Lib.hid (show wantN len i = 3 by unfold wantN; rw [if_neg (by omega)])
           clear hpar hlt
           go_wp2_with fail
           refine wp_region_held_drew (S := fun w' => Aside0 (Below wr.heap.size wr w')) (by kernel_rfl) ?_ (fun hHeld => ?_)
           ·exact ⟨(Below.refl _ _).drew⟩
           generalize World.drew _ = wDrC at hHeld ⊢
           have HCr := HCY
           refine' tk 0 ?_
           try simp only [pt]
           refine' tk 1 ?_
           try simp only [pt]
           refine' tk 2 ?_
           try simp only [pt]
           refine' tk 3 ?_
           try simp only [pt]
           refine' tk 4 ?_
           try simp only [pt]
           refine' tk 6 ?_
           try simp only [pt]
           refine' cm 5 (fun K hK => ?_)
           go_simp
           refine (HCALL.out _ (HYL.out.below hHeld.out)).mono ?_
           rintro e w7 ⟨rfl, b7⟩
           refine hK.out _ _ ⟨hHeld.out.trans (b7.mono hHeld.out.size)⟩ (fun hHeld => ?_)
           clear hK K
           try simp only [pt]
           refine' tk 7 ?_
           try simp only [pt]
           refine wpAnyH_done (by kernel_rfl) ?_ _
           by_cases hsw : s = 3
           ·have n0 : (s != 3) = false := by simp [hsw]
            have HSW := Lib.hid hsw
            clear hsw
            go_wp2_with fail
            go_roundg (gk - 1)
            case measure => clear w5; have := HI.out; have := HLT.out; omega
            case rel => exact ⟨i + 1, by first | rfl | simp [w5], ⟨by clear w5; have := HI.out; have := HLT.out; omega⟩, ⟨fun j c hj hc => by
             by_cases e : j = i
             ·subst e
              rw [HY.out] at hc
              injection hc with hc
              subst hc
              rw [HS.out, HWN.out]
              exact HSW.out
             ·exact HQ.out j c (by omega) hc⟩, ⟨HB.out.trans (hHeld.out.mono HB.out.size)⟩⟩
           ·have n0 : (s != 3) = true := by simp [hsw]
            have hres := Lib.hid (HUNW.out i y HY.out (by rw [HS.out, HWN.out]; exact hsw))
            clear hsw w5
            go_wp2_with fail
            go_ret
            exact ⟨by rw [hres.out]; first | done | rfl | simp, B1.out.trans ((HBB.out.trans (hHeld.out.mono HBB.out.size)).mono B1.out.size)⟩
         ·have hie : i = len := by have := HI.out; omega
          have q1 : ((i : Int) < (len : Int)) = False := eq_false (by omega)
          have q2 : (i < len) = False := eq_false hlt
          have HWANT := Lib.hid (show ∀ (j : Nat) c, l[j]? = some c → srt p c = wantN len j from fun j c hc => HQ.out j c (by have := (List.getElem?_eq_some_iff.1 hc).1; have := HLN.out; omega) hc)
          have HMOK := Lib.hid (HNE.out (fun c hc => by
           obtain ⟨j, hj, e⟩ := List.getElem_of_mem hc
           have := HWANT.out j c (by rw [← e]; exact List.getElem?_eq_getElem hj)
           unfold wantN at this
           split at this <;> omega))
          have hmk := held_make wr
          have HLM := Lib.hid (HLC2.out.below HB.out)
          clear hlt hie HI
          go_wp2_with fail
          obtain ⟨wM, hwM⟩ : ∃ x, wr.alloc (.cells (madeCells #[.int .i64 0, .int .i64 0, .int .i64 0, .slice none 0 0] 1024) 24) = x := ⟨_, rfl⟩
          have HH0 := Lib.hid (show HeldAt wr wr.heap.size (fun _ => none) wM by rw [← hwM]; exact held_new wr wr)
          have HBM := Lib.hid (show Below wr.heap.size wr wM by rw [← hwM]; exact below_alloc (Below.refl _ _) _)
          rw [hwM]
          obtain ⟨gh, hgh⟩ : ∃ g, wr.heap.size = g := ⟨_, rfl⟩
          have HGH := Lib.hid hgh
          obtain ⟨ad, had⟩ : ∃ a : Addr, a = ⟨gh, 0, none⟩ := ⟨_, rfl⟩
          rw [hgh] at HH0 ⊢
          rw [← had]
          have HAD := Lib.hid had
          clear hwM hgh had hmk q1 q2
          obtain ⟨wS, rfl⟩ : ∃ x, x = wr := ⟨_, rfl⟩
          go_loopg [12] len (fun gg v12 wr => ∃ i : Nat, v12 = .int .i64 i ∧ Aside0 (i + gg = len) ∧ Aside0 (∃ h, memoL (l.take i) (fun _ => none) = some h ∧ HeldAt wS gh h wr) ∧ Aside0 (Below wS.heap.size wS wr))
          case atStart => exact ⟨0, rfl, ⟨by omega⟩, ⟨fun _ => none, by rw [List.take_zero]; exact memoL_nil _, HH0.out⟩, ⟨HBM.out⟩⟩
          case round =>
           obtain ⟨i, rfl, hi, hQ, hB⟩ := hrel
           obtain ⟨h, hmem, hat⟩ := hQ.out
           have HI := Lib.hid hi.out
           have HMEMI := Lib.hid hmem
           have HAT := Lib.hid hat
           have HBW := Lib.hid hB.out
           clear hi hQ hB hmem hat
           by_cases hlt : i < len
           ·obtain ⟨y, hy⟩ : ∃ y, l[i]? = some y := ⟨_, List.getElem?_eq_getElem (by rw [HLN.out]; exact hlt)⟩
            obtain ⟨b, rfl, hblk, c0, c1, c2, c3⟩ := HLM.out.cellsB HBW.out hy
            have q0 := eq_true (show (0 : Int) ≤ (i : Int) by omega)
            have q1 : ((i : Int) < (len : Int)) = True := eq_true (by omega)
            have q2 : (i < len) = True := eq_true hlt
            have w5 : wrap64 ((i : Int) + 1) = ((i + 1 : Nat) : Int) := by have := HLEN.out; unfold wrap64; omega
            have HCALL := Lib.hid (rwalk_calls (w0 := wS) HAD.out (Nat.le_of_eq HGH.out) y (LiesL.lies HLM.out (List.mem_of_getElem? hy)) (HMOK.out.mem (List.mem_of_getElem? hy)) h wr HBW.out HAT.out)
            have HT := Lib.hid (memoL_take hy HMEMI.out)
            have HLT := Lib.hid hlt
            clear hlt hy hblk
            go_wp2_with fail
            refine HCALL.out.mono ?_
            clear c0 c1 c2 c3
            rintro e w7 (⟨rfl, hn, b7⟩ | ⟨rfl, h', hs, b7, hat⟩)
            ·have hres := Lib.hid (HMEM.out (i + 1) (by rw [HT.out]; exact hn))
             have B7 := Lib.hid (HBW.out.trans (b7.below (Nat.le_of_eq HGH.out) HBW.out.size))
             clear hn b7 w5
             go_wp2_with fail
             go_ret
             exact ⟨by rw [hres.out]; first | done | rfl | simp, B1.out.trans ((HBB.out.trans (B7.out.mono HBB.out.size)).mono B1.out.size)⟩
            ·have HM2 := Lib.hid (show memoL (l.take (i + 1)) (fun _ => none) = some h' by rw [HT.out]; exact hs)
             have B7 := Lib.hid (HBW.out.trans (b7.below (Nat.le_of_eq HGH.out) HBW.out.size))
             have HAT7 := Lib.hid hat
             clear hs b7 hat
             go_wp2_with fail
             go_roundg (gk - 1)
             case measure => clear w5; have := HI.out; have := HLT.out; omega
             case rel => exact ⟨i + 1, by first | rfl | simp [w5], ⟨by clear w5; have := HI.out; have := HLT.out; omega⟩, ⟨h', HM2.out, HAT7.out⟩, ⟨B7.out⟩⟩
           ·have hie : i = len := by have := HI.out; omega
            have hres := Lib.hid (HALL.out HTOT.out HWANT.out h (by have := HMEMI.out; rwa [hie, ← HLN.out, List.take_length] at this))
            have q1 : ((i : Int) < (len : Int)) = False := eq_false (by omega)
            have q2 : (i < len) = False := eq_false hlt
            clear hlt hie
            go_wp2_with fail
            go_ret
            exact ⟨by rw [hres.out]; first | done | rfl | simp, B1.out.trans ((HBB.out.trans (HBW.out.mono HBB.out.size)).mono B1.out.size)⟩
end Go.Proofs.YtpljkcakijkklaaGreatDoor

end
