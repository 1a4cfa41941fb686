/-
  FixWide: behind every step the wide sum's Fit and Mean are those of the reference's sum, for every list of steps.
-/
import Derived.Test.YtbnmjfeacejngaaFixNilLaw
import Derived.Test.YtbnmjfeacejngaaBigRef5
import Derived.Test.YtbnmjfeacejngaaOpens
namespace Go.Proofs.Ytbnmjfeacejngaa
open Go.RowKit Go.Shelf Go.Proofs.YtbnmjfeacejngaaW Go.Proofs.Ytbnmjfeacejngaa.XRef01 Go.Proofs.YtbnmjfeacejngaaW.PrintWords Go.Proofs.YtbnmjfeacejngaaW.PrintLast Go.Proofs.YtbnmjfeacejngaaW.PrintMore

structure FInv (W0 : World) (g : Nat) (X S : Int) (w : World) : Prop where
  bel : Below W0.heap.size W0 w
  big : W0.heap.size ≤ g
  lt : g + 1 < w.heap.size
  wide : ∃ lo hi, IsW X lo hi ∧ w.heap[g]? = some (.cells #[.int .u64 lo, .int .u64 hi] 37 (0, 0))
  sum : ∃ sg v D, w.heap[g + 1]? = some (.cells #[.bool sg, v] 40 (0, 0)) ∧ Kd.R (Kd.int .i64) 3 w (g + 2) (fun k => g + 2 ≤ k) v D ∧ Big.sval sg D = S ∧ Big.Dig D ∧ Big.Nrm D

theorem FInv.below {W0 : World} {g : Nat} {X S : Int} {w w' : World} (h : FInv W0 g X S w) (hb : Below w.heap.size w w') : FInv W0 g X S w' := by
  obtain ⟨b, bg, lt, ⟨lo, hi, hw, hc⟩, sg, v, D, h1, h2, h3, h4, h5⟩ := h
  exact ⟨b.trans (hb.mono b.size), bg, Nat.lt_of_lt_of_le lt hb.size, ⟨lo, hi, hw, (hb.block g (by omega)).trans hc⟩, sg, v, D, (hb.block (g + 1) lt).trans h1, Kd.R_below h2 hb, h3, h4, h5⟩
theorem FInv.wideAt {W0 : World} {g : Nat} {X S : Int} {w : World} (h : FInv W0 g X S w) : WideAt w g 0 X := by
  obtain ⟨lo, hi, hw, hc⟩ := h.wide
  obtain ⟨a, b, c, d⟩ := two_of hc
  exact ⟨lo, hi, hw, a, b, c, d⟩
theorem FInv.wrote {W0 : World} {g : Nat} {X X' S : Int} {w w' : World} {e : Ending} (h : FInv W0 g X S w) (hw : Wrote X' g 0 w e w') : FInv W0 g X' S w' := by
  obtain ⟨_, w1, lo', hi', hi, hb, rfl⟩ := hw
  obtain ⟨b, bg, lt, ⟨lo, hi, hw, hc⟩, sg, v, D, h1, h2, h3, h4, h5⟩ := h.below hb
  refine ⟨(b.setCell (p := ⟨g, 0, none⟩) bg _).setCell (p := ⟨g, 0 + 1, none⟩) bg _, bg, by simpa using lt, ⟨lo', hi', by assumption, two_set hc _ _⟩, sg, v, D, two_far h1 (by omega) _ _, ?_, h3, h4, h5⟩
  exact Kd.R_far (p := ⟨g, 0 + 1, none⟩) (Kd.R_far (p := ⟨g, 0, none⟩) h2 (fun k hk => by show k ≠ g; omega) _) (fun k hk => by show k ≠ g; omega) _
theorem FInv.stored {W0 : World} {g : Nat} {X S : Int} {w : World} (h : FInv W0 g X S w) {sg : Bool} {v : Value} {D : List Int} {base : Nat} {ok : Nat → Prop} (hb : g + 2 ≤ base) (hr : Kd.R (Kd.int .i64) 3 w base ok v D) (hd : Big.Dig D) (hn : Big.Nrm D) :
    FInv W0 g X (Big.sval sg D) ((w.setCell ⟨g + 1, 0, none⟩ (.bool sg)).setCell ⟨g + 1, 1, none⟩ v) := by
  obtain ⟨b, bg, lt, ⟨lo, hi, hw, hc⟩, sg', v', D', h1, h2, h3, h4, h5⟩ := h
  have h6 : Kd.R (Kd.int .i64) 3 w (g + 2) (fun k => g + 2 ≤ k) v D := Kd.R_mono (Kd.R_bound (Kd.R_lower hr hb)) (fun k hk => hk.2.1)
  refine ⟨(b.setCell (p := ⟨g + 1, 0, none⟩) (by show _ ≤ g + 1; omega) _).setCell (p := ⟨g + 1, 1, none⟩) (by show _ ≤ g + 1; omega) _, bg, by simpa using lt, ⟨lo, hi, hw, two_far hc (by omega) _ _⟩, sg, v, D, two_set h1 _ _, ?_, rfl, hd, hn⟩
  exact Kd.R_far (p := ⟨g + 1, 1, none⟩) (Kd.R_far (p := ⟨g + 1, 0, none⟩) h6 (fun k hk => by show k ≠ g + 1; omega) _) (fun k hk => by show k ≠ g + 1; omega) _
/-- Another wide sum, made later, is written. -/
theorem FInv.old {W0 : World} {g o : Nat} {X S X' : Int} {w w' : World} {e : Ending} {cs : Array Value} (h : FInv W0 g X S w) (ho : g + 1 < o) (hc : w.heap[o]? = some (.cells cs 37 (0, 0))) (hw : Wrote X' o 0 w e w') : FInv W0 g X S w' := by
  obtain ⟨_, w1, lo', hi', hi, hb, rfl⟩ := hw
  have hlt : o < w.heap.size := by
    rcases Nat.lt_or_ge o w.heap.size with hl | hl
    · exact hl
    · rw [Array.getElem?_eq_none hl] at hc; cases hc
  have hc1 := (hb.block o hlt).trans hc
  obtain ⟨b, bg, lt, ⟨lo, hi, hw, hc2⟩, sg, v, D, h1, h2, h3, h4, h5⟩ := h.below hb
  have h6 := Kd.R_types h2 hc1 (by intro q hq; simp [Kd.int, Kd.scalar] at hq; subst hq; decide)
  refine ⟨(b.setCell (p := ⟨o, 0, none⟩) (by show _ ≤ o; omega) _).setCell (p := ⟨o, 0 + 1, none⟩) (by show _ ≤ o; omega) _, bg, by simpa using lt, ⟨lo, hi, hw, two_far hc2 (by omega) _ _⟩, sg, v, D, two_far h1 (by omega) _ _, ?_, h3, h4, h5⟩
  exact Kd.R_mono (Kd.R_far (p := ⟨o, 0 + 1, none⟩) (Kd.R_far (p := ⟨o, 0, none⟩) h6 (fun k hk => hk.2) _) (fun k hk => hk.2) _) (fun k hk => hk.1)
theorem Wrote.keep {X : Int} {g o k : Nat} {w w' : World} {e : Ending} (h : Wrote X g o w e w') (hk : k < w.heap.size) (hne : k ≠ g) : w'.heap[k]? = w.heap[k]? := by
  obtain ⟨_, w1, lo, hi, _, hb, rfl⟩ := h
  have e1 := Below.heap_setCell (w1.setCell ⟨g, o, none⟩ (.int .u64 lo)) ⟨g, o + 1, none⟩ (.int .u64 hi) k hne
  have e2 := Below.heap_setCell w1 ⟨g, o, none⟩ (.int .u64 lo) k hne
  rw [e1, e2, hb.block k hk]
theorem Wrote.size {X : Int} {g o : Nat} {w w' : World} {e : Ending} (h : Wrote X g o w e w') : w.heap.size ≤ w'.heap.size := by
  obtain ⟨_, w1, lo, hi, _, hb, rfl⟩ := h
  simpa using hb.size
theorem drawn_any (w : World) : Below w.heap.size w w.drew := (Below.refl w.heap.size w).drew
theorem FInv.start {W0 w : World} (hb : Below W0.heap.size W0 w) : FInv W0 w.heap.size 0 0 ((w.alloc (.cells #[.int .u64 0, .int .u64 0] 37)).alloc (.cells #[.bool false, .slice none 0 0] 40)) := by
  refine ⟨(hb.alloc hb.size _).alloc (by simp; have := hb.size; omega) _, hb.size, by simp, ⟨0, 0, ⟨by decide, by decide⟩, ?_⟩, false, .slice none 0 0, [], ?_, Kd.R_nil .., rfl, Big.Dig.nil, .inl rfl⟩
  · have := blk_new w (.cells #[.int .u64 0, .int .u64 0] 37)
    exact (heap_alloc_old _ _ (by simp)).trans this
  · have := blk_new (w.alloc (.cells #[.int .u64 0, .int .u64 0] 37)) (.cells #[.bool false, .slice none 0 0] 40)
    simpa using this
/-- How many digits a sum may have. -/
theorem len_small {D : List Int} {s : Bool} (hd : Big.Dig D) (hn : Big.Nrm D) (h0 : -324518553658426726783156020576256 ≤ Big.sval s D) (h1 : Big.sval s D ≤ 324518553658426726783156020576256) : D.length ≤ 7 := by
  rcases Nat.eq_zero_or_pos D.length with h | h
  · omega
  have h2 := Big.nrm_ge hd hn h
  have h3 : Big.val D ≤ 324518553658426726783156020576256 := by
    have := (Big.val_range hd).1
    cases s <;> simp [Big.sval] at h0 h1 <;> omega
  rcases Nat.lt_or_ge 7 D.length with hl | hl
  · have h4 := Big.P_mono (show 7 ≤ D.length - 1 by omega)
    have h5 : Big.P 7 = 5192296858534827628530496329220096 := by decide
    omega
  · exact hl

/-- The mean, or 0 where there is none. -/
def meanN (x n : Int) : Int := if n < 1 then 0 else toldN (x / n)
def meanB (x n : Int) : Bool := if n < 1 then false else inR (x / n)
theorem wide_mean' {x n : Int} {g o : Nat} {w : World} (h : WideAt w g o x) (hn : R64 n) (h0 : -85070591730234615865843651857942052864 ≤ x) (h1 : x ≤ 85070591730234615865843651857942052864) :
    Calls Try.prog 40 #[.pointer (some ⟨g, o, none⟩), .int .i64 n] w fun e w' => e = .returned (.tuple #[.int .i64 (meanN x n), .bool (meanB x n)]) ∧ Below w.heap.size w w' := wide_mean h hn h0 h1
theorem mean_ref (k : Nat) (hk : 1000 ≤ k) {D : List Int} {s : Bool} {x n : Int} (hd : Big.Dig D) (hn : Big.Nrm D) (hl : D.length ≤ 7) (h64 : R64 n) (hx : Big.sval s D = x) :
    ∃ v, capstanref01_Mean.f k s D n = some (v, meanB x n) ∧ (meanB x n = true → v = meanN x n) ∧ (meanB x n = false → meanN x n = 0) := by
  unfold capstanref01_Mean.f meanB meanN
  by_cases h : n < 1
  · rw [if_pos h, if_pos h, if_pos h]
    exact ⟨0, rfl, (fun h => by cases h), fun _ => rfl⟩
  · rw [if_neg h, if_neg h, if_neg h]
    obtain ⟨q, q1, q2, q3, q4, q5⟩ := Big.over_f (s := s) (den := n) (by omega) h64.2 hd (by omega) k (by omega)
    obtain ⟨v, f1, f2, -⟩ := Big.fit_f (s := s) q3 q4 (by omega) k (by omega)
    rw [q2, hx] at f1 f2
    refine ⟨v, Big.bind_of q1 (Big.bind_of f1 rfl), fun h2 => ?_, fun h2 => ?_⟩
    · rw [f2 h2]; unfold toldN; rw [h2]; rfl
    · unfold toldN; rw [h2]; rfl
def putOk : World → Bool × Int → Prop := fun _ z => True ∧ (Lit.int .i64 z.2).wf = true
def putCells : Bool × Int → List Value := fun z => [.bool z.1] ++ [.int .i64 z.2]
theorem puts_opn : Opn Try.prog 32 (fun s : Sl (Bool × Int) => [.slice s.at_ s.len s.cap]) (Sl.ok Try.prog 42 putCells putOk) :=
  opn_slice Try.underlying32 (opn_struct Try.underlying42 (by kernel_rfl) (opnF_cons rfl (sz := 1) (by kernel_rfl) (opn_bool Try.underlying4) (opnF_last rfl (opn_int Try.underlying2))))
theorem put_at {s : Sl (Bool × Int)} {W : World} (hs : Sl.ok Try.prog 42 putCells putOk W s) {i : Nat} (hi : i < s.len) :
    ∃ a off v, s.at_ = some a ∧ a.block < W.heap.size ∧ R64 v ∧ W.cell? (a.add (i * 2)) = some (.bool off) ∧ W.cell? (a.add (i * 2 + 1)) = some (.int .i64 v) := by
  obtain ⟨h1, h2, h3, h4, h5, h6⟩ := hs
  rcases h6 with ⟨_, h6⟩ | ⟨a, ha, hc⟩
  · omega
  have hl : i < s.all.length := by omega
  have hz := hc i _ (List.getElem?_eq_getElem hl)
  have e : Try.prog.cellsOf 42 = 2 := by kernel_rfl
  rw [e] at hz
  have hb := World.cells?_block hz (by decide)
  have hw := (h5 _ (List.getElem_mem hl)).2
  refine ⟨a, s.all[i].1, s.all[i].2, ha, ?_, wf64 hw, ?_, ?_⟩
  · rw [add_block] at hb; exact hb
  · have := cells_get hz 0 _ rfl
    rw [Addr.add_add] at this
    exact this
  · have := cells_get hz 1 _ rfl
    rw [Addr.add_add] at this
    exact this
theorem puts_few {s : Sl (Bool × Int)} {W : World} (hs : Sl.ok Try.prog 42 putCells putOk W s) : s.len ≤ 8796093022208 := by
  obtain ⟨h1, h2, h3, h4, h5, h6⟩ := hs
  have e : Try.prog.bytesOf 42 = 16 := by kernel_rfl
  have e2 : reachBytes = 140737488351232 := rfl
  rw [e, e2] at h4
  omega

set_option maxHeartbeats 8000000 in
set_option maxRecDepth 100000 in
theorem FixWide_sl (s : Sl (Bool × Int)) (n : Int) (W : World) (hs : Sl.ok Try.prog 42 putCells putOk W s) (hn : R64 n) :
    Calls Try.prog 8 #[.slice s.at_ s.len s.cap, .int .i64 n] W fun e w' => e = .returned (.bool true) ∧ Below W.heap.size W w' := by
  have HP := Lib.hid fun i (hi : i < s.len) => put_at hs hi
  have HF := Lib.hid (puts_few hs)
  clear hs
  obtain ⟨at_, len, cap, all⟩ := s
  simp only at HP HF ⊢
  go_enter Try.func8, Try.ntmps8
  go_wp2_with fail
  refine (awake_now _).mono ?_
  rintro e w1 ⟨rfl, hb1⟩
  have hI := Lib.hid (FInv.start hb1)
  go_wp2
  go_loopg [7] len (fun kq v7 w' => ∃ (i : Nat) (X : Int), v7 = .int .i64 i ∧ Aside0 (i + kq = len) ∧ Aside0 (-(9223372036854775808 * i) ≤ X ∧ X ≤ 9223372036854775808 * i) ∧ Aside0 (FInv W w1.heap.size X X w'))
  case atStart => exact ⟨0, 0, rfl, ⟨by omega⟩, ⟨by omega⟩, ⟨hI.out⟩⟩
  case round =>
    clear hI
    obtain ⟨i, X, rfl, hk, hx, hI⟩ := hrel
    by_cases hi : i < len
    · have c0 : decide (i < len) = true := decide_eq_true hi
      have Hi := Lib.hid hi
      obtain ⟨a, off, v, rfl, hab, hv, q0, q1⟩ := HP.out i hi
      clear hi
      have HQ := Lib.hid fun (w' : World) (hb : Below W.heap.size W w') => (show w'.cell? (a.add (i * 2)) = some (.bool off) ∧ w'.cell? ⟨(a.add (i * 2)).block, (a.add (i * 2)).off + 1, none⟩ = some (.int .i64 v) from
        ⟨(hb.cell (by rw [add_block]; exact hab)).trans q0, by rw [← add_field a (i * 2) 1 (by decide)]; exact (hb.cell (by rw [add_block]; exact hab)).trans q1⟩)
      have e1 := eq_true (show (0 : Int) ≤ (i : Int) by omega)
      have e2 : ((i : Int) < (len : Int)) = True := eq_true (by have := Hi.out; omega)
      clear q0 q1
      obtain ⟨lo, hi', hw, hc⟩ := hI.out.wide
      obtain ⟨d0, d1, d2, d3⟩ := two_of hc
      have Hw := Lib.hid hw
      clear hw hc
      have hI8 := hI.out.below ((Below.refl _ _).alloc (Nat.le_refl _) (.cells #[.int .u64 lo, .int .u64 hi'] 37))
      have hO := PrintWords.blk_new wr (.cells #[.int .u64 lo, .int .u64 hi'] 37)
      have hz : w1.heap.size + 1 < wr.heap.size := hI.out.lt
      obtain ⟨s0, s1⟩ := HQ.out _ hI8.bel
      have HI8 := Lib.hid hI8
      have HO := Lib.hid hO
      clear hI8 hO
      obtain ⟨K, hK⟩ : ∃ K, 1000 ≤ K := ⟨1000, Nat.le_refl _⟩
      cases off with
      | true =>
        go_wp2_with fail
        refine (wide_take HI8.out.wideAt (by simp; omega) hv).mono ?_
        rintro e w2 hw2
        have hI2 := HI8.out.wrote hw2
        have hO2 := (hw2.keep (k := wr.heap.size) (by simp) (by omega)).trans HO.out
        have hz2 : wr.heap.size < w2.heap.size := by have := hw2.size; simp at this; omega
        obtain rfl := hw2.1
        clear hw2 s0 s1
        obtain ⟨t0, t1⟩ := HQ.out _ hI2.bel
        obtain ⟨sg, vS, D, m1, m2, m3, m4, m5⟩ := hI2.sum
        obtain ⟨AD, cD, rfl⟩ := Kd.R_slice m2
        obtain ⟨p0, p1, p2, p3⟩ := two_of m1
        have hD7 := len_small (s := sg) m4 m5 (by rw [m3]; have := hx.out; have := Hi.out; have := HF.out; omega) (by rw [m3]; have := hx.out; have := Hi.out; have := HF.out; omega)
        obtain ⟨sO, dO, o1, -, o2, o3, o4, o5, -⟩ := Big.of_f hv K (by omega)
        obtain ⟨u, r, hP1, hP2, hP3, hP4, hP5⟩ := Big.plus_f (s := sg) (t := !sO) m4 o3 m5 o4 (by omega) (by omega) K (by omega)
        rw [Big.sval_not, o2, m3] at hP2
        have HI2 := Lib.hid hI2
        have HO2 := Lib.hid hO2
        have HM2 := Lib.hid m2
        have HO1 := Lib.hid o1
        have HP1 := Lib.hid hP1
        clear hI2 hO2 m1 m2 m3 m4 m5 HI8 HO o1 o2 o3 o4 o5 hP1 hP5 hD7
        go_wp2_with fail
        go_region_with (first
          | (go_at_call 36; refine (capstanref01_Of.calls K v sO dO _ HO1.out).mono ?_; rintro e w3 ⟨vO, rfl, hR3, hb3⟩; obtain ⟨AO, cO, rfl⟩ := Kd.R_slice hR3; obtain ⟨x0, x1, x2, x3⟩ := keeps (g := w1.heap.size + 1) (o := 0) (u := .bool sg) (v := .slice AD D.length cD) hb3 (by first | omega | (simp; omega)) (by simp [go_sem, p0, p1, p2, p3]))
          | (go_at_call 35; refine (capstanref01_Minus.calls sO _ _ dO (!sO) dO _ _ hb3 hR3 rfl).mono ?_; rintro e w4 ⟨vM, rfl, hR4, hb4, _⟩; obtain ⟨AM, cM, rfl⟩ := Kd.R_slice hR4; obtain ⟨y0, y1, y2, y3⟩ := keeps (g := w1.heap.size + 1) (o := 0) (u := .bool sg) (v := .slice AD D.length cD) hb4 (by first | omega | (simp; omega)) (by simp [go_sem, p0, p1, p2, p3]))
          | (go_at_call 34; have hbL4 := (drawn_any w2).trans hb4; have hC0 := Kd.R_reads' (Kd.R_below HM2.out hbL4); have hC1 := Kd.R_reads' hR4; refine (capstanref01_Plus.calls K sg AD cD D (!sO) AM cM dO u r _ hC0.2.2 hC0.2.1 hC1.2.2 hC1.2.1 HP1.out).mono ?_; rintro e w5 ⟨vP, rfl, hR5, hb5⟩; obtain ⟨AP, cP, rfl⟩ := Kd.R_slice hR5; have hbL := hbL4.trans (hb5.mono hbL4.size); obtain ⟨z0, z1, z2, z3⟩ := keeps (g := w1.heap.size + 1) (o := 0) (u := .bool sg) (v := .slice AD D.length cD) hbL (by first | omega | (simp; omega)) (by simp [go_sem, p0, p1, p2, p3])))
        all_goals
          have hz4 := hbL4.size
          have hI5 := FInv.stored (sg := u) (HI2.out.below hbL) (by omega) hR5 hP3 hP4
          rw [hP2] at hI5
          have hO5 := PrintWords.blk_far (PrintWords.blk_far ((hbL.block _ hz2).trans HO2.out) (p := ⟨w1.heap.size + 1, 0, none⟩) (by show wr.heap.size ≠ w1.heap.size + 1; omega) (.bool u)) (p := ⟨w1.heap.size + 1, 1, none⟩) (by show wr.heap.size ≠ w1.heap.size + 1; omega) (.slice AP r.length cP)
          have hz5 := hbL.size
          have hz6 : wr.heap.size < ((w5.setCell ⟨w1.heap.size + 1, 0, none⟩ (.bool u)).setCell ⟨w1.heap.size + 1, 1, none⟩ (.slice AP r.length cP)).heap.size := by simp; omega
          clear hb3 hR3 hb4 hR4 y0 y1 y2 y3 hC0 hC1 hbL hbL4 hb5 hR5 hP3 hP4 x0 x1 x2 x3 z0 z1 z2 z3 p0 p1 p2 p3 t0 t1 HI2 HO2 HM2 HO1 HP1 hP2
          generalize hw6 : (w5.setCell ⟨w1.heap.size + 1, 0, none⟩ (.bool u)).setCell ⟨w1.heap.size + 1, 1, none⟩ (.slice AP r.length cP) = w6 at hI5 hO5 hz6 ⊢
          obtain ⟨Y, hY⟩ : ∃ Y, X + -v = Y := ⟨_, rfl⟩
          have HYb := Lib.hid (show -(9223372036854775808 * ((i + 1 : Nat) : Int)) ≤ Y ∧ Y ≤ 9223372036854775808 * ((i + 1 : Nat) : Int) by have := hx.out; obtain ⟨v0, v1⟩ := hv; omega)
          have HY := Lib.hid (show -81129638414606681695789005144064 ≤ Y ∧ Y ≤ 81129638414606681695789005144064 by have := HYb.out; have := Hi.out; have := HF.out; omega)
          rw [hY] at hI5
          have HO6 := Lib.hid hO5
          have hI6 := hI5
          clear hO5 hI5 hw6 hY
          cases hin : inR Y with
          | true =>
            have ht : toldN Y = Y := by unfold toldN; rw [hin]; rfl
            go_wp2_with fail
            refine (wide_fit hI6.wideAt (by have := HY.out; omega) (by have := HY.out; omega)).mono ?_
            rintro e w7 ⟨rfl, hb7⟩
            have hI7 := hI6.below hb7
            have hO7 := (hb7.block _ hz6).trans HO6.out
            have hz7 := hb7.size
            clear hI6
            obtain ⟨u7, v7, D7, m1, m2, m3, m4, m5⟩ := hI7.sum
            obtain ⟨A7, c7, rfl⟩ := Kd.R_slice m2
            obtain ⟨p0, p1, -, -⟩ := two_of m1
            have hD7 := len_small (s := u7) m4 m5 (by rw [m3]; have := HY.out; omega) (by rw [m3]; have := HY.out; omega)
            obtain ⟨vF, f1, f2, -⟩ := Big.fit_f (s := u7) m4 m5 (by omega) K (by omega)
            rw [m3, hin] at f1
            rw [m3, hin] at f2
            have hC := Kd.R_reads' m2
            have eF := (f2 rfl).symm
            subst eF
            have HC := Lib.hid (And.intro hC.2.1 hC.2.2)
            have HF1 := Lib.hid f1
            have HI7 := Lib.hid hI7
            have HO7 := Lib.hid hO7
            clear hC f1 hI7 hO7 m1 m2 m3 m4 m5 hD7
            go_wp2_with fail
            refine (capstanref01_Fit.calls K u7 A7 c7 D7 Y true _ HC.out.2 HC.out.1 HF1.out).mono ?_
            rintro e w8 ⟨rfl, hb8⟩
            have hI8 := HI7.out.below hb8
            have hO8 := (hb8.block _ (by omega)).trans HO7.out
            have hz8 := hb8.size
            have HO8 := Lib.hid hO8
            clear hO8 HO7 HI7 HC HF1 p0 p1
            go_wp2_with fail
            refine (wide_mean' hI8.wideAt hn (by have := HY.out; omega) (by have := HY.out; omega)).mono ?_
            rintro e w9 ⟨rfl, hb9⟩
            have hI9 := hI8.below hb9
            have hO9 := (hb9.block _ (by omega)).trans HO8.out
            have hz9 := hb9.size
            clear hI8
            obtain ⟨u9, v9, D9, m1, m2, m3, m4, m5⟩ := hI9.sum
            obtain ⟨A9, c9, rfl⟩ := Kd.R_slice m2
            obtain ⟨p0, p1, -, -⟩ := two_of m1
            have hD9 := len_small (s := u9) m4 m5 (by rw [m3]; have := HY.out; omega) (by rw [m3]; have := HY.out; omega)
            obtain ⟨vM, g1, g2, g3⟩ := mean_ref K hK m4 m5 hD9 hn m3
            have hC := Kd.R_reads' m2
            have HC := Lib.hid (And.intro hC.2.1 hC.2.2)
            have HG1 := Lib.hid g1
            have HI9 := Lib.hid hI9
            have HO9 := Lib.hid hO9
            clear hC g1 hI9 hO9 m1 m2 m3 m4 m5 hD9
            go_wp2_with fail
            refine (capstanref01_Mean.calls K u9 A9 c9 D9 n vM (meanB Y n) _ HC.out.2 HC.out.1 HG1.out).mono ?_
            rintro e w10 ⟨rfl, hb10⟩
            have hI10 := HI9.out.below hb10
            have hO10 := (hb10.block _ (by omega)).trans HO9.out
            have hz10 := hb10.size
            have HO10 := Lib.hid hO10
            have HI10 := Lib.hid hI10
            clear hO10 hI10 HO9 HI9 HC HG1 p0 p1
            cases hB : meanB Y n with
            | true =>
              have eM := (g2 hB).symm
              subst eM
              clear g2 g3
              go_wp2_with fail
              refine (wide_add (x := X) (v := 1) ⟨lo, hi', Hw.out, two_of HO10.out⟩ (by omega) (by decide)).mono ?_
              rintro e w11 hw11
              have hI11 := HI10.out.old (by omega) HO10.out hw11
              obtain rfl := hw11.1
              clear hw11
              have hwr : IntKind.i64.wrap ((i : Int) + 1) = ((i + 1 : Nat) : Int) := by rw [i64_w, Big.w64s (by have := Hi.out; have := HF.out; omega) (by have := Hi.out; have := HF.out; omega)]; omega
              go_wp2
              go_roundg (gk - 1)
              case measure => have := hk.out; have := Hi.out; omega
              case rel => exact ⟨i + 1, Y, by first | rfl | (simp [hwr]; done) | (simp [*]; done), ⟨by have := hk.out; have := Hi.out; omega⟩, ⟨by have := HYb.out; omega⟩, ⟨hI11⟩⟩
            | false =>
              have hM0 := g3 hB
              clear g2 g3
              go_wp2_with fail
              refine (wide_add (x := X) (v := 1) ⟨lo, hi', Hw.out, two_of HO10.out⟩ (by omega) (by decide)).mono ?_
              rintro e w11 hw11
              have hI11 := HI10.out.old (by omega) HO10.out hw11
              obtain rfl := hw11.1
              clear hw11
              have hwr : IntKind.i64.wrap ((i : Int) + 1) = ((i + 1 : Nat) : Int) := by rw [i64_w, Big.w64s (by have := Hi.out; have := HF.out; omega) (by have := Hi.out; have := HF.out; omega)]; omega
              go_wp2
              go_roundg (gk - 1)
              case measure => have := hk.out; have := Hi.out; omega
              case rel => exact ⟨i + 1, Y, by first | rfl | (simp [hwr]; done) | (simp [*]; done), ⟨by have := hk.out; have := Hi.out; omega⟩, ⟨by have := HYb.out; omega⟩, ⟨hI11⟩⟩
          | false =>
            have ht : toldN Y = 0 := by unfold toldN; rw [hin]; rfl
            go_wp2_with fail
            refine (wide_fit hI6.wideAt (by have := HY.out; omega) (by have := HY.out; omega)).mono ?_
            rintro e w7 ⟨rfl, hb7⟩
            have hI7 := hI6.below hb7
            have hO7 := (hb7.block _ hz6).trans HO6.out
            have hz7 := hb7.size
            clear hI6
            obtain ⟨u7, v7, D7, m1, m2, m3, m4, m5⟩ := hI7.sum
            obtain ⟨A7, c7, rfl⟩ := Kd.R_slice m2
            obtain ⟨p0, p1, -, -⟩ := two_of m1
            have hD7 := len_small (s := u7) m4 m5 (by rw [m3]; have := HY.out; omega) (by rw [m3]; have := HY.out; omega)
            obtain ⟨vF, f1, f2, -⟩ := Big.fit_f (s := u7) m4 m5 (by omega) K (by omega)
            rw [m3, hin] at f1
            rw [m3, hin] at f2
            have hC := Kd.R_reads' m2
            clear f2
            skip
            have HC := Lib.hid (And.intro hC.2.1 hC.2.2)
            have HF1 := Lib.hid f1
            have HI7 := Lib.hid hI7
            have HO7 := Lib.hid hO7
            clear hC f1 hI7 hO7 m1 m2 m3 m4 m5 hD7
            go_wp2_with fail
            refine (capstanref01_Fit.calls K u7 A7 c7 D7 vF false _ HC.out.2 HC.out.1 HF1.out).mono ?_
            rintro e w8 ⟨rfl, hb8⟩
            have hI8 := HI7.out.below hb8
            have hO8 := (hb8.block _ (by omega)).trans HO7.out
            have hz8 := hb8.size
            have HO8 := Lib.hid hO8
            clear hO8 HO7 HI7 HC HF1 p0 p1
            go_wp2_with fail
            refine (wide_mean' hI8.wideAt hn (by have := HY.out; omega) (by have := HY.out; omega)).mono ?_
            rintro e w9 ⟨rfl, hb9⟩
            have hI9 := hI8.below hb9
            have hO9 := (hb9.block _ (by omega)).trans HO8.out
            have hz9 := hb9.size
            clear hI8
            obtain ⟨u9, v9, D9, m1, m2, m3, m4, m5⟩ := hI9.sum
            obtain ⟨A9, c9, rfl⟩ := Kd.R_slice m2
            obtain ⟨p0, p1, -, -⟩ := two_of m1
            have hD9 := len_small (s := u9) m4 m5 (by rw [m3]; have := HY.out; omega) (by rw [m3]; have := HY.out; omega)
            obtain ⟨vM, g1, g2, g3⟩ := mean_ref K hK m4 m5 hD9 hn m3
            have hC := Kd.R_reads' m2
            have HC := Lib.hid (And.intro hC.2.1 hC.2.2)
            have HG1 := Lib.hid g1
            have HI9 := Lib.hid hI9
            have HO9 := Lib.hid hO9
            clear hC g1 hI9 hO9 m1 m2 m3 m4 m5 hD9
            go_wp2_with fail
            refine (capstanref01_Mean.calls K u9 A9 c9 D9 n vM (meanB Y n) _ HC.out.2 HC.out.1 HG1.out).mono ?_
            rintro e w10 ⟨rfl, hb10⟩
            have hI10 := HI9.out.below hb10
            have hO10 := (hb10.block _ (by omega)).trans HO9.out
            have hz10 := hb10.size
            have HO10 := Lib.hid hO10
            have HI10 := Lib.hid hI10
            clear hO10 hI10 HO9 HI9 HC HG1 p0 p1
            cases hB : meanB Y n with
            | true =>
              have eM := (g2 hB).symm
              subst eM
              clear g2 g3
              go_wp2_with fail
              refine (wide_add (x := X) (v := 1) ⟨lo, hi', Hw.out, two_of HO10.out⟩ (by omega) (by decide)).mono ?_
              rintro e w11 hw11
              have hI11 := HI10.out.old (by omega) HO10.out hw11
              obtain rfl := hw11.1
              clear hw11
              have hwr : IntKind.i64.wrap ((i : Int) + 1) = ((i + 1 : Nat) : Int) := by rw [i64_w, Big.w64s (by have := Hi.out; have := HF.out; omega) (by have := Hi.out; have := HF.out; omega)]; omega
              go_wp2
              go_roundg (gk - 1)
              case measure => have := hk.out; have := Hi.out; omega
              case rel => exact ⟨i + 1, Y, by first | rfl | (simp [hwr]; done) | (simp [*]; done), ⟨by have := hk.out; have := Hi.out; omega⟩, ⟨by have := HYb.out; omega⟩, ⟨hI11⟩⟩
            | false =>
              have hM0 := g3 hB
              clear g2 g3
              go_wp2_with fail
              refine (wide_add (x := X) (v := 1) ⟨lo, hi', Hw.out, two_of HO10.out⟩ (by omega) (by decide)).mono ?_
              rintro e w11 hw11
              have hI11 := HI10.out.old (by omega) HO10.out hw11
              obtain rfl := hw11.1
              clear hw11
              have hwr : IntKind.i64.wrap ((i : Int) + 1) = ((i + 1 : Nat) : Int) := by rw [i64_w, Big.w64s (by have := Hi.out; have := HF.out; omega) (by have := Hi.out; have := HF.out; omega)]; omega
              go_wp2
              go_roundg (gk - 1)
              case measure => have := hk.out; have := Hi.out; omega
              case rel => exact ⟨i + 1, Y, by first | rfl | (simp [hwr]; done) | (simp [*]; done), ⟨by have := hk.out; have := Hi.out; omega⟩, ⟨by have := HYb.out; omega⟩, ⟨hI11⟩⟩
      | false =>
        go_wp2_with fail
        refine (wide_add HI8.out.wideAt (by simp; omega) hv).mono ?_
        rintro e w2 hw2
        have hI2 := HI8.out.wrote hw2
        have hO2 := (hw2.keep (k := wr.heap.size) (by simp) (by omega)).trans HO.out
        have hz2 : wr.heap.size < w2.heap.size := by have := hw2.size; simp at this; omega
        obtain rfl := hw2.1
        clear hw2 s0 s1
        obtain ⟨t0, t1⟩ := HQ.out _ hI2.bel
        obtain ⟨sg, vS, D, m1, m2, m3, m4, m5⟩ := hI2.sum
        obtain ⟨AD, cD, rfl⟩ := Kd.R_slice m2
        obtain ⟨p0, p1, p2, p3⟩ := two_of m1
        have hD7 := len_small (s := sg) m4 m5 (by rw [m3]; have := hx.out; have := Hi.out; have := HF.out; omega) (by rw [m3]; have := hx.out; have := Hi.out; have := HF.out; omega)
        obtain ⟨sO, dO, o1, -, o2, o3, o4, o5, -⟩ := Big.of_f hv K (by omega)
        obtain ⟨u, r, hP1, hP2, hP3, hP4, hP5⟩ := Big.plus_f (s := sg) (t := sO) m4 o3 m5 o4 (by omega) (by omega) K (by omega)
        rw [o2, m3] at hP2
        have HI2 := Lib.hid hI2
        have HO2 := Lib.hid hO2
        have HM2 := Lib.hid m2
        have HO1 := Lib.hid o1
        have HP1 := Lib.hid hP1
        clear hI2 hO2 m1 m2 m3 m4 m5 HI8 HO o1 o2 o3 o4 o5 hP1 hP5 hD7
        go_wp2_with fail
        go_region_with (first
          | (go_at_call 36; refine (capstanref01_Of.calls K v sO dO _ HO1.out).mono ?_; rintro e w3 ⟨vO, rfl, hR3, hb3⟩; obtain ⟨AO, cO, rfl⟩ := Kd.R_slice hR3; obtain ⟨x0, x1, x2, x3⟩ := keeps (g := w1.heap.size + 1) (o := 0) (u := .bool sg) (v := .slice AD D.length cD) hb3 (by first | omega | (simp; omega)) (by simp [go_sem, p0, p1, p2, p3]))
          | (go_at_call 34; have hbL4 := (drawn_any w2).trans hb3; have hC0 := Kd.R_reads' (Kd.R_below HM2.out hbL4); have hC1 := Kd.R_reads' hR3; refine (capstanref01_Plus.calls K sg AD cD D sO AO cO dO u r _ hC0.2.2 hC0.2.1 hC1.2.2 hC1.2.1 HP1.out).mono ?_; rintro e w5 ⟨vP, rfl, hR5, hb5⟩; obtain ⟨AP, cP, rfl⟩ := Kd.R_slice hR5; have hbL := hbL4.trans (hb5.mono hbL4.size); obtain ⟨z0, z1, z2, z3⟩ := keeps (g := w1.heap.size + 1) (o := 0) (u := .bool sg) (v := .slice AD D.length cD) hbL (by first | omega | (simp; omega)) (by simp [go_sem, p0, p1, p2, p3])))
        all_goals
          have hz4 := hbL4.size
          have hI5 := FInv.stored (sg := u) (HI2.out.below hbL) (by omega) hR5 hP3 hP4
          rw [hP2] at hI5
          have hO5 := PrintWords.blk_far (PrintWords.blk_far ((hbL.block _ hz2).trans HO2.out) (p := ⟨w1.heap.size + 1, 0, none⟩) (by show wr.heap.size ≠ w1.heap.size + 1; omega) (.bool u)) (p := ⟨w1.heap.size + 1, 1, none⟩) (by show wr.heap.size ≠ w1.heap.size + 1; omega) (.slice AP r.length cP)
          have hz5 := hbL.size
          have hz6 : wr.heap.size < ((w5.setCell ⟨w1.heap.size + 1, 0, none⟩ (.bool u)).setCell ⟨w1.heap.size + 1, 1, none⟩ (.slice AP r.length cP)).heap.size := by simp; omega
          clear hb3 hR3 hC0 hC1 hbL hbL4 hb5 hR5 hP3 hP4 x0 x1 x2 x3 z0 z1 z2 z3 p0 p1 p2 p3 t0 t1 HI2 HO2 HM2 HO1 HP1 hP2
          generalize hw6 : (w5.setCell ⟨w1.heap.size + 1, 0, none⟩ (.bool u)).setCell ⟨w1.heap.size + 1, 1, none⟩ (.slice AP r.length cP) = w6 at hI5 hO5 hz6 ⊢
          obtain ⟨Y, hY⟩ : ∃ Y, X + v = Y := ⟨_, rfl⟩
          have HYb := Lib.hid (show -(9223372036854775808 * ((i + 1 : Nat) : Int)) ≤ Y ∧ Y ≤ 9223372036854775808 * ((i + 1 : Nat) : Int) by have := hx.out; obtain ⟨v0, v1⟩ := hv; omega)
          have HY := Lib.hid (show -81129638414606681695789005144064 ≤ Y ∧ Y ≤ 81129638414606681695789005144064 by have := HYb.out; have := Hi.out; have := HF.out; omega)
          rw [hY] at hI5
          have HO6 := Lib.hid hO5
          have hI6 := hI5
          clear hO5 hI5 hw6 hY
          cases hin : inR Y with
          | true =>
            have ht : toldN Y = Y := by unfold toldN; rw [hin]; rfl
            go_wp2_with fail
            refine (wide_fit hI6.wideAt (by have := HY.out; omega) (by have := HY.out; omega)).mono ?_
            rintro e w7 ⟨rfl, hb7⟩
            have hI7 := hI6.below hb7
            have hO7 := (hb7.block _ hz6).trans HO6.out
            have hz7 := hb7.size
            clear hI6
            obtain ⟨u7, v7, D7, m1, m2, m3, m4, m5⟩ := hI7.sum
            obtain ⟨A7, c7, rfl⟩ := Kd.R_slice m2
            obtain ⟨p0, p1, -, -⟩ := two_of m1
            have hD7 := len_small (s := u7) m4 m5 (by rw [m3]; have := HY.out; omega) (by rw [m3]; have := HY.out; omega)
            obtain ⟨vF, f1, f2, -⟩ := Big.fit_f (s := u7) m4 m5 (by omega) K (by omega)
            rw [m3, hin] at f1
            rw [m3, hin] at f2
            have hC := Kd.R_reads' m2
            have eF := (f2 rfl).symm
            subst eF
            have HC := Lib.hid (And.intro hC.2.1 hC.2.2)
            have HF1 := Lib.hid f1
            have HI7 := Lib.hid hI7
            have HO7 := Lib.hid hO7
            clear hC f1 hI7 hO7 m1 m2 m3 m4 m5 hD7
            go_wp2_with fail
            refine (capstanref01_Fit.calls K u7 A7 c7 D7 Y true _ HC.out.2 HC.out.1 HF1.out).mono ?_
            rintro e w8 ⟨rfl, hb8⟩
            have hI8 := HI7.out.below hb8
            have hO8 := (hb8.block _ (by omega)).trans HO7.out
            have hz8 := hb8.size
            have HO8 := Lib.hid hO8
            clear hO8 HO7 HI7 HC HF1 p0 p1
            go_wp2_with fail
            refine (wide_mean' hI8.wideAt hn (by have := HY.out; omega) (by have := HY.out; omega)).mono ?_
            rintro e w9 ⟨rfl, hb9⟩
            have hI9 := hI8.below hb9
            have hO9 := (hb9.block _ (by omega)).trans HO8.out
            have hz9 := hb9.size
            clear hI8
            obtain ⟨u9, v9, D9, m1, m2, m3, m4, m5⟩ := hI9.sum
            obtain ⟨A9, c9, rfl⟩ := Kd.R_slice m2
            obtain ⟨p0, p1, -, -⟩ := two_of m1
            have hD9 := len_small (s := u9) m4 m5 (by rw [m3]; have := HY.out; omega) (by rw [m3]; have := HY.out; omega)
            obtain ⟨vM, g1, g2, g3⟩ := mean_ref K hK m4 m5 hD9 hn m3
            have hC := Kd.R_reads' m2
            have HC := Lib.hid (And.intro hC.2.1 hC.2.2)
            have HG1 := Lib.hid g1
            have HI9 := Lib.hid hI9
            have HO9 := Lib.hid hO9
            clear hC g1 hI9 hO9 m1 m2 m3 m4 m5 hD9
            go_wp2_with fail
            refine (capstanref01_Mean.calls K u9 A9 c9 D9 n vM (meanB Y n) _ HC.out.2 HC.out.1 HG1.out).mono ?_
            rintro e w10 ⟨rfl, hb10⟩
            have hI10 := HI9.out.below hb10
            have hO10 := (hb10.block _ (by omega)).trans HO9.out
            have hz10 := hb10.size
            have HO10 := Lib.hid hO10
            have HI10 := Lib.hid hI10
            clear hO10 hI10 HO9 HI9 HC HG1 p0 p1
            cases hB : meanB Y n with
            | true =>
              have eM := (g2 hB).symm
              subst eM
              clear g2 g3
              go_wp2_with fail
              refine (wide_add (x := X) (v := 1) ⟨lo, hi', Hw.out, two_of HO10.out⟩ (by omega) (by decide)).mono ?_
              rintro e w11 hw11
              have hI11 := HI10.out.old (by omega) HO10.out hw11
              obtain rfl := hw11.1
              clear hw11
              have hwr : IntKind.i64.wrap ((i : Int) + 1) = ((i + 1 : Nat) : Int) := by rw [i64_w, Big.w64s (by have := Hi.out; have := HF.out; omega) (by have := Hi.out; have := HF.out; omega)]; omega
              go_wp2
              go_roundg (gk - 1)
              case measure => have := hk.out; have := Hi.out; omega
              case rel => exact ⟨i + 1, Y, by first | rfl | (simp [hwr]; done) | (simp [*]; done), ⟨by have := hk.out; have := Hi.out; omega⟩, ⟨by have := HYb.out; omega⟩, ⟨hI11⟩⟩
            | false =>
              have hM0 := g3 hB
              clear g2 g3
              go_wp2_with fail
              refine (wide_add (x := X) (v := 1) ⟨lo, hi', Hw.out, two_of HO10.out⟩ (by omega) (by decide)).mono ?_
              rintro e w11 hw11
              have hI11 := HI10.out.old (by omega) HO10.out hw11
              obtain rfl := hw11.1
              clear hw11
              have hwr : IntKind.i64.wrap ((i : Int) + 1) = ((i + 1 : Nat) : Int) := by rw [i64_w, Big.w64s (by have := Hi.out; have := HF.out; omega) (by have := Hi.out; have := HF.out; omega)]; omega
              go_wp2
              go_roundg (gk - 1)
              case measure => have := hk.out; have := Hi.out; omega
              case rel => exact ⟨i + 1, Y, by first | rfl | (simp [hwr]; done) | (simp [*]; done), ⟨by have := hk.out; have := Hi.out; omega⟩, ⟨by have := HYb.out; omega⟩, ⟨hI11⟩⟩
          | false =>
            have ht : toldN Y = 0 := by unfold toldN; rw [hin]; rfl
            go_wp2_with fail
            refine (wide_fit hI6.wideAt (by have := HY.out; omega) (by have := HY.out; omega)).mono ?_
            rintro e w7 ⟨rfl, hb7⟩
            have hI7 := hI6.below hb7
            have hO7 := (hb7.block _ hz6).trans HO6.out
            have hz7 := hb7.size
            clear hI6
            obtain ⟨u7, v7, D7, m1, m2, m3, m4, m5⟩ := hI7.sum
            obtain ⟨A7, c7, rfl⟩ := Kd.R_slice m2
            obtain ⟨p0, p1, -, -⟩ := two_of m1
            have hD7 := len_small (s := u7) m4 m5 (by rw [m3]; have := HY.out; omega) (by rw [m3]; have := HY.out; omega)
            obtain ⟨vF, f1, f2, -⟩ := Big.fit_f (s := u7) m4 m5 (by omega) K (by omega)
            rw [m3, hin] at f1
            rw [m3, hin] at f2
            have hC := Kd.R_reads' m2
            clear f2
            skip
            have HC := Lib.hid (And.intro hC.2.1 hC.2.2)
            have HF1 := Lib.hid f1
            have HI7 := Lib.hid hI7
            have HO7 := Lib.hid hO7
            clear hC f1 hI7 hO7 m1 m2 m3 m4 m5 hD7
            go_wp2_with fail
            refine (capstanref01_Fit.calls K u7 A7 c7 D7 vF false _ HC.out.2 HC.out.1 HF1.out).mono ?_
            rintro e w8 ⟨rfl, hb8⟩
            have hI8 := HI7.out.below hb8
            have hO8 := (hb8.block _ (by omega)).trans HO7.out
            have hz8 := hb8.size
            have HO8 := Lib.hid hO8
            clear hO8 HO7 HI7 HC HF1 p0 p1
            go_wp2_with fail
            refine (wide_mean' hI8.wideAt hn (by have := HY.out; omega) (by have := HY.out; omega)).mono ?_
            rintro e w9 ⟨rfl, hb9⟩
            have hI9 := hI8.below hb9
            have hO9 := (hb9.block _ (by omega)).trans HO8.out
            have hz9 := hb9.size
            clear hI8
            obtain ⟨u9, v9, D9, m1, m2, m3, m4, m5⟩ := hI9.sum
            obtain ⟨A9, c9, rfl⟩ := Kd.R_slice m2
            obtain ⟨p0, p1, -, -⟩ := two_of m1
            have hD9 := len_small (s := u9) m4 m5 (by rw [m3]; have := HY.out; omega) (by rw [m3]; have := HY.out; omega)
            obtain ⟨vM, g1, g2, g3⟩ := mean_ref K hK m4 m5 hD9 hn m3
            have hC := Kd.R_reads' m2
            have HC := Lib.hid (And.intro hC.2.1 hC.2.2)
            have HG1 := Lib.hid g1
            have HI9 := Lib.hid hI9
            have HO9 := Lib.hid hO9
            clear hC g1 hI9 hO9 m1 m2 m3 m4 m5 hD9
            go_wp2_with fail
            refine (capstanref01_Mean.calls K u9 A9 c9 D9 n vM (meanB Y n) _ HC.out.2 HC.out.1 HG1.out).mono ?_
            rintro e w10 ⟨rfl, hb10⟩
            have hI10 := HI9.out.below hb10
            have hO10 := (hb10.block _ (by omega)).trans HO9.out
            have hz10 := hb10.size
            have HO10 := Lib.hid hO10
            have HI10 := Lib.hid hI10
            clear hO10 hI10 HO9 HI9 HC HG1 p0 p1
            cases hB : meanB Y n with
            | true =>
              have eM := (g2 hB).symm
              subst eM
              clear g2 g3
              go_wp2_with fail
              refine (wide_add (x := X) (v := 1) ⟨lo, hi', Hw.out, two_of HO10.out⟩ (by omega) (by decide)).mono ?_
              rintro e w11 hw11
              have hI11 := HI10.out.old (by omega) HO10.out hw11
              obtain rfl := hw11.1
              clear hw11
              have hwr : IntKind.i64.wrap ((i : Int) + 1) = ((i + 1 : Nat) : Int) := by rw [i64_w, Big.w64s (by have := Hi.out; have := HF.out; omega) (by have := Hi.out; have := HF.out; omega)]; omega
              go_wp2
              go_roundg (gk - 1)
              case measure => have := hk.out; have := Hi.out; omega
              case rel => exact ⟨i + 1, Y, by first | rfl | (simp [hwr]; done) | (simp [*]; done), ⟨by have := hk.out; have := Hi.out; omega⟩, ⟨by have := HYb.out; omega⟩, ⟨hI11⟩⟩
            | false =>
              have hM0 := g3 hB
              clear g2 g3
              go_wp2_with fail
              refine (wide_add (x := X) (v := 1) ⟨lo, hi', Hw.out, two_of HO10.out⟩ (by omega) (by decide)).mono ?_
              rintro e w11 hw11
              have hI11 := HI10.out.old (by omega) HO10.out hw11
              obtain rfl := hw11.1
              clear hw11
              have hwr : IntKind.i64.wrap ((i : Int) + 1) = ((i + 1 : Nat) : Int) := by rw [i64_w, Big.w64s (by have := Hi.out; have := HF.out; omega) (by have := Hi.out; have := HF.out; omega)]; omega
              go_wp2
              go_roundg (gk - 1)
              case measure => have := hk.out; have := Hi.out; omega
              case rel => exact ⟨i + 1, Y, by first | rfl | (simp [hwr]; done) | (simp [*]; done), ⟨by have := hk.out; have := Hi.out; omega⟩, ⟨by have := HYb.out; omega⟩, ⟨hI11⟩⟩
    · have c0 : decide (i < len) = false := decide_eq_false hi
      clear hi
      go_wp2
      go_ret
      exact ⟨by simp, hI.out.bel⟩
theorem FixWide_row {H : Type} {enc : TypeId × Value → H} {base : Nat} {d : DataW H} {p : List MemPlace} (v : Value) (n : Int) (W : World) (hval : Value.okWide Try.prog W .any base 32 v)
    (h : DataW.Trod enc Try.prog W 0 (fun _ => true) true 32 v d p) (y : ∀ n ∈ DataW.weights Try.prog 32 d, n ≤ reachBytes) (w1 : (Lit.int .i64 n).wf = true) :
    Calls Try.prog 8 #[v, .int .i64 n] W fun e w' => e = .returned (.bool true) ∧ Below W.heap.size W w' := by
  obtain ⟨a, len, cap, rfl⟩ := WideShapes.okWide_slice Try.underlying32 hval
  obtain ⟨fuel, hf⟩ := h
  obtain ⟨s, hs, hok⟩ := puts_opn hf y
  simp [Value.cells] at hs
  obtain ⟨rfl, rfl, rfl⟩ := hs
  exact FixWide_sl s n W hok (wf64 w1)
end Go.Proofs.Ytbnmjfeacejngaa
