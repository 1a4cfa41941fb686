/-
  The reference's list without one of its numbers.
-/
import Derived.Test.YtfojfgnhblgckaaRankRefAt
namespace Go.Proofs.Ytfojfgnhblgckaa
open Go.RowKit Go.Proofs.Ytfojfgnhblgckaa.XRefs Go.Proofs.YtfojfgnhblgckaaW.PrintWords Go.Proofs.YtfojfgnhblgckaaW.PrintLast Go.Proofs.YtfojfgnhblgckaaW.PrintMore

theorem reads_take {w : World} {A : Option Addr} {L : List Int} {i : Nat} (h : Kd.C (Kd.int .i64) w A L.length L) (hi : i ≤ L.length) : ReadsInt w .i64 A i (L.take i) := by
  obtain ⟨h1, h2, h3⟩ := h
  have hl : (L.take i).length = i := by rw [List.length_take]; omega
  have : Kd.C (Kd.int .i64) w A i (L.take i) := by
    refine ⟨hl, by omega, fun hp => ?_⟩
    obtain ⟨ad, e, hc⟩ := h3 (by omega)
    refine ⟨ad, e, fun j p hj => ?_⟩
    rw [List.getElem?_take] at hj
    split at hj
    · exact hc j p hj
    · cases hj
  have := Kd.reads_of_C (d := 0) this
  exact this
theorem reads_drop {w : World} {ad : Addr} {L : List Int} {n i c : Nat} (hn : L.length = n) (h : Kd.C (Kd.int .i64) w (some ad) L.length L) (h0 : ¬ i = 0) (hi : i ≤ n) (hc : n ≤ c) : ReadsInt w .i64 (if c = i then some ad else some (ad.add i)) (n - i) (L.drop i) := by
  subst hn
  have hr := Kd.reads_of_C (d := 0) h
  have h' : ReadsInt w .i64 (some ad) L.length L := hr
  obtain ⟨h1, h2, h3⟩ := h'
  refine ⟨List.length_drop, by omega, fun hp => ?_⟩
  obtain ⟨ad2, e, hcell⟩ := h3 (by omega)
  cases e
  rw [if_neg (by omega)]
  refine ⟨_, rfl, fun j hj => ?_⟩
  have := hcell (i + j) (by omega)
  rw [← Addr.add_add] at this
  have e2 : (L.drop i).getD j 0 = L.getD (i + j) 0 := by rw [List.getD_eq_getElem?_getD, List.getElem?_drop, List.getD_eq_getElem?_getD]
  rw [e2]
  exact this
theorem erase_at {L : List Int} {v : Int} : ∀ {i : Nat}, L[i]? = some v → ¬ v ∈ L.take i → L.take i ++ L.drop (i + 1) = L.erase v := by
  induction L with
  | nil => intro i h; simp at h
  | cons y L ih =>
    intro i h hn
    cases i with
    | zero =>
      have : y = v := by simpa using h
      subst this
      simp
    | succ i =>
      have hy : ¬ y = v := by rintro rfl; exact hn (by simp)
      rw [List.take_succ_cons, List.drop_succ_cons, List.cons_append, ih (by simpa using h) (fun hm => hn (by simp [hm])), List.erase_cons_tail (by simpa using hy)]
set_option maxHeartbeats 4000000 in
set_option maxRecDepth 100000 in
theorem ref_without {w : World} {A : Option Addr} {c n : Nat} {L : List Int} (v : Int) (hn : L.length = n) (hs : n ≤ 1000) (hC : Kd.C (Kd.int .i64) w A L.length L) (hc : n ≤ c) :
    Calls Try.prog 12 #[.slice A n c, .int .i64 v] w fun e w' => Below w.heap.size w w' ∧ ((¬ v ∈ L ∧ e = .returned (.tuple #[.slice A n c, .bool false])) ∨ (v ∈ L ∧ ∃ V, e = .returned (.tuple #[V, .bool true]) ∧ Kd.R (Kd.int .i64) 2 w' w.heap.size (fun _ => True) V (L.erase v))) := by
  have HN := Lib.hid hn
  have HS := Lib.hid hs
  have HC := Lib.hid hC
  have HCC := Lib.hid hc
  clear hn hs hC hc
  go_enter Try.func12, Try.ntmps12
  go_wp2
  go_loopg [6] n (fun kq v6 w' => ∃ i : Nat, v6 = .int .i64 i ∧ Aside0 (i + kq = n) ∧ Aside0 (¬ v ∈ L.take i) ∧ Aside0 (w = w'))
  case atStart => exact ⟨0, rfl, ⟨by omega⟩, ⟨by simp⟩, ⟨rfl⟩⟩
  case round =>
    obtain ⟨i, rfl, hk, hno, hw⟩ := hrel
    obtain rfl := hw.out
    by_cases hi : i < n
    · have c0 : decide (i < n) = true := decide_eq_true hi
      have hiL : i < L.length := by have := HN.out; omega
      obtain ⟨ad, rfl, q0⟩ := Kd.at_int HC.out (i : Int) (by omega) (by omega)
      rw [Int.toNat_natCast] at q0
      have f1 := eq_true (show (0 : Int) ≤ (i : Int) by omega)
      have f2 : ((i : Int) < (n : Int)) = True := eq_true (by omega)
      have f3 := eq_true hi
      obtain ⟨x, hx⟩ : ∃ x, rd L (i : Int) = x := ⟨_, rfl⟩
      have hx' : L[i]? = some x := by rw [← hx, rd_nat, List.getD_eq_getElem?_getD, List.getElem?_eq_getElem hiL]; rfl
      rw [hx] at q0
      have Hi := Lib.hid hi
      have HiL := Lib.hid hiL
      have HX := Lib.hid hx'
      obtain ⟨i1, hi1⟩ : ∃ i1, i + 1 = i1 := ⟨_, rfl⟩
      have HI1 := Lib.hid hi1
      have HW := Lib.hid (show wrap64 ((i : Int) + 1) = (i1 : Int) by have := HS.out; unfold wrap64; omega)
      clear hx hi hx' hi1
      by_cases hxv : x = v
      · have HXV := Lib.hid hxv
        have b0 : (x == v) = true := by simp [hxv]
        obtain ⟨P, hP⟩ : ∃ P, L.take i = P := ⟨_, rfl⟩
        obtain ⟨D, hD⟩ : ∃ D, L.drop i1 = D := ⟨_, rfl⟩
        obtain ⟨A2, hA2⟩ : ∃ A2, (if c = i1 then some ad else some (ad.add i1)) = A2 := ⟨_, rfl⟩
        have hA3 : (if i1 = c then some ad else some (ad.add i1)) = A2 := by
          rw [← hA2]
          by_cases h : c = i1
          · rw [if_pos h, if_pos h.symm]
          · rw [if_neg h, if_neg (fun e => h e.symm)]
        obtain ⟨n2, hn2⟩ : ∃ n2, n - i1 = n2 := ⟨_, rfl⟩
        have hpl : P.length = i := by rw [← hP, List.length_take]; omega
        have HT := Lib.hid (show ReadsInt w .i64 (some ad) i P from by rw [← hP]; exact reads_take HC.out (Nat.le_of_lt hiL))
        have HTD := Lib.hid (show ReadsInt w .i64 A2 n2 D from by rw [← hA2, ← hD, ← hn2]; exact reads_drop HN.out HC.out (by have := HI1.out; omega) (by have := Hi.out; have := HI1.out; omega) HCC.out)
        have HER := Lib.hid (show v ∈ L ∧ P ++ D = L.erase v from ⟨by have h := HX.out; rw [HXV.out] at h; exact List.mem_of_getElem? h, by rw [← hP, ← hD, ← HI1.out]; exact erase_at (by rw [← HXV.out]; exact HX.out) hno.out⟩)
        have HLD := Lib.hid (show P.length + D.length ≤ 1000 by rw [← hP, ← hD, List.length_take, List.length_drop]; have := HN.out; have := HS.out; have := HI1.out; omega)
        clear hP hD
        have g1 := eq_true (show i ≤ c by have := Hi.out; have := HCC.out; omega)
        have g2 : ((i : Int) ≤ (c : Int)) = True := eq_true (by have := Hi.out; have := HCC.out; omega)
        have g3 := eq_true (show i1 ≤ n by have := Hi.out; have := HI1.out; omega)
        have g4 : ((i1 : Int) ≤ (n : Int)) = True := eq_true (by have := Hi.out; have := HI1.out; omega)
        have g5 := HW.out
        have g6 := eq_true (show n ≤ c from HCC.out)
        have g7 : ((n : Int) ≤ (c : Int)) = True := eq_true (by have := HCC.out; omega)
        have g9 : (i1 = 0) = False := eq_false (by have := HI1.out; omega)
        have g10 : ((i1 : Int) = 0) = False := eq_false (by have := HI1.out; omega)
        have g8 := eq_true (show (0 : Int) ≤ (i1 : Int) by omega)
        clear hxv hiL
        have HPL := Lib.hid hpl
        clear hpl
        go_wp2_with (first | ((with_reducible refine gate_builtin (b := .append) (xs := #[.tmp 20, .tmp 23]) rfl ?_); at_builtin; refine print_append_row (w0 := w) w.heap.size rfl (.tmp 20) (.tmp 23) 22 2 .i64 8 rfl Try.underlying22 info64 (by decide) (.slice none 0 0) [] P (some ad) i c rfl rfl (own_nil _ _ _ _) HT.out (Below.refl _ _) (Nat.le_refl _) ?aL ?_; (case aL => have h1 := HLD.out; have h2 := HPL.out; simp; omega); intro v1 w9 ho hb9 hg9 hat; have HO := Lib.hid (show w9.ownsRow w.heap.size 2 1 v1 P.length (nums .i64 P) from ho); have HB9 := Lib.hid hb9; clear ho hb9 hg9 hat; obtain ⟨A9, c9, rfl⟩ := own_slice HO.out) | ((with_reducible refine gate_builtin (b := .append) (xs := #[.tmp 25, .tmp 29]) rfl ?_); at_builtin; refine print_append_row (w0 := w) w.heap.size rfl (.tmp 25) (.tmp 29) 22 2 .i64 8 rfl Try.underlying22 info64 (by decide) (.slice A9 P.length c9) P D A2 n2 (c - i1) rfl rfl HO.out (HTD.out.below HB9.out) HB9.out HB9.out.size ?aM ?_; (case aM => have h1 := HLD.out; have h2 := HTD.out.1; omega); intro v2 w10 ho hb10 hg10 hat; have HO2 := Lib.hid ho; have HB10 := Lib.hid hb10; clear ho hb10 hg10 hat))
        go_ret2
        exact ⟨HB10.out, .inr ⟨HER.out.1, v2, rfl, by rw [← HER.out.2]; exact Kd.R_of_own HO2.out (fun _ _ => trivial)⟩⟩
      · have b0 : (x == v) = false := by simp [hxv]
        have HNO := Lib.hid (show ¬ v ∈ L.take i1 by
          rw [← HI1.out, List.take_add_one, HX.out, Option.toList_some, List.mem_append]
          rintro (h | h)
          · exact hno.out h
          · simp at h; exact hxv h.symm)
        clear hxv hiL
        go_wp2
        go_roundg (gk - 1)
        case measure => have := hk.out; have := Hi.out; omega
        case rel => exact ⟨i1, by first | rfl | rw [HW.out], ⟨by have := hk.out; have := Hi.out; have := HI1.out; omega⟩, ⟨HNO.out⟩, ⟨rfl⟩⟩
    · have c0 : decide (i < n) = false := decide_eq_false hi
      have HNO := Lib.hid (show ¬ v ∈ L by have h := hno.out; rw [List.take_of_length_le (by have := HN.out; omega)] at h; exact h)
      clear hi
      go_wp2
      go_ret2
      exact ⟨Below.refl _ _, .inl ⟨HNO.out, rfl⟩⟩
end Go.Proofs.Ytfojfgnhblgckaa
