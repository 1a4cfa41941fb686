/-
  MonoPlays: the law's call answers true, for every script; nothing that was there is changed.
-/
import Derived.Test.YtmlnbmbobkoipaaMonoNilLaw
import Derived.Test.YtmlnbmbobkoipaaOpens
namespace Go.Proofs.Ytmlnbmbobkoipaa
open Go.RowKit Go.Proofs.Ytmlnbmbobkoipaa.XMono Go.Proofs.YtmlnbmbobkoipaaW.PrintWords Go.Proofs.YtmlnbmbobkoipaaW.PrintLast Go.Proofs.YtmlnbmbobkoipaaW.PrintMore

theorem mono_take_none {w : World} {g : Nat} {ok : Nat → Prop} {high : Bool} {left : Int} (h : MonoIs w g ok high [] left) :
    Calls Try.prog 18 #[.pointer (some ⟨g, 0, none⟩)] w fun e w' => e = .returned (.bool false) ∧ Below w.heap.size w w' := by
  go_enter Try.func18, Try.ntmps18
  go_wp2_with fail
  refine (is_len h).mono ?_
  rintro e w1 ⟨rfl, hb1⟩
  go_wp2
  go_ret
  exact ⟨rfl, hb1⟩
theorem MonoIs.tight {w : World} {g : Nat} {ok : Nat → Prop} {high : Bool} {L : List Int} {left : Int} (h : MonoIs w g ok high L left) : MonoIs w g (fun k => ok k ∧ k < w.heap.size) high L left := by
  obtain ⟨⟨⟨A, c, h1, h2⟩, h3, h4⟩, p, f, s⟩ := h
  exact ⟨⟨⟨A, c, h1, Kd.Q_mono (Kd.Q_bound h2) (fun k hk => ⟨hk.1, hk.2.2.1⟩)⟩, fun k hk => h3 k hk.1, h4⟩, p, f, s⟩

/-- The queue holds Lm, the law's own list Ll; neither lies in the other's memory, nor in what was there at the call. -/
structure PInv (W : World) (g : Nat) (high : Bool) (v : Value) (Lm Ll : List Int) (left : Int) (w : World) : Prop where
  big : W.heap.size ≤ g
  bel : Below W.heap.size W w
  ex : ∃ okm okl : Nat → Prop, MonoIs w g okm high Lm left ∧ Kd.Q (Kd.int .i64) 2 w 0 okl v Ll ∧ (∀ k, okm k → W.heap.size ≤ k) ∧ (∀ k, okl k → W.heap.size ≤ k ∧ k ≠ g ∧ ¬ okm k)
section
variable {W w w' : World} {g : Nat} {high : Bool} {v : Value} {Lm Ll : List Int} {left : Int}
theorem PInv.below (h : PInv W g high v Lm Ll left w) (hb : Below w.heap.size w w') : PInv W g high v Lm Ll left w' := by
  obtain ⟨h1, h2, okm, okl, h3, h4, h5, h6⟩ := h
  exact ⟨h1, h2.trans (hb.mono h2.size), okm, okl, h3.below hb, Kd.Q_below h4 hb, h5, h6⟩
theorem PInv.put {L2 : List Int} {left2 : Int} {okm okl : Nat → Prop} (h1 : W.heap.size ≤ g) (h2 : Below W.heap.size W w) (h3 : MonoIs w g okm high Lm left) (h4 : Kd.Q (Kd.int .i64) 2 w 0 okl v Ll) (h5 : ∀ k, okm k → W.heap.size ≤ k) (h6 : ∀ k, okl k → W.heap.size ≤ k ∧ k ≠ g ∧ ¬ okm k)
    (b : Below 0 w w') (k : Kept w w' (fun k => k = g ∨ okm k)) (m : MonoIs w' g (fun k => okm k ∨ w.heap.size ≤ k) high L2 left2) : PInv W g high v L2 Ll left2 w' := by
  refine ⟨h1, below_of_kept h2 b k ?_, _, fun k => okl k ∧ k < w.heap.size, m, Kd.Q_kept (Kd.Q_mono (Kd.Q_bound h4) (fun k hk => ⟨hk.1, hk.2.2.1⟩)) k ?_, ?_, ?_⟩
  · rintro k hk (rfl | h)
    · omega
    · have := h5 k h; omega
  · rintro k ⟨hk, _⟩ (rfl | h)
    · exact (h6 _ hk).2.1 rfl
    · exact (h6 k hk).2.2 h
  · rintro k (h | h)
    · exact h5 k h
    · have := h2.size; omega
  · rintro k ⟨hk, hlt⟩
    refine ⟨(h6 k hk).1, (h6 k hk).2.1, ?_⟩
    rintro (h | h)
    · exact (h6 k hk).2.2 h
    · omega
theorem PInv.take {L2 : List Int} {left2 : Int} {okm okl : Nat → Prop} (h1 : W.heap.size ≤ g) (h2 : Below W.heap.size W w) (h4 : Kd.Q (Kd.int .i64) 2 w 0 okl v Ll) (h5 : ∀ k, okm k → W.heap.size ≤ k) (h6 : ∀ k, okl k → W.heap.size ≤ k ∧ k ≠ g ∧ ¬ okm k)
    (b : Below 0 w w') (k : Kept w w' (fun k => k = g)) (m : MonoIs w' g okm high L2 left2) : PInv W g high v L2 Ll left2 w' := by
  refine ⟨h1, below_of_kept h2 b k ?_, okm, okl, m, Kd.Q_kept h4 k ?_, h5, h6⟩
  · rintro k hk rfl
    omega
  · rintro k hk rfl
    exact (h6 _ hk).2.1 rfl
/-- The law's own list grows. -/
theorem PInv.grown {v1 : Value} {L2 : List Int} {okm okl : Nat → Prop} (h1 : W.heap.size ≤ g) (h2 : Below W.heap.size W w) (h3 : MonoIs w g okm high Lm left) (h5 : ∀ k, okm k → W.heap.size ≤ k) (h6 : ∀ k, okl k → W.heap.size ≤ k ∧ k ≠ g ∧ ¬ okm k)
    (hv : ∀ k, v.ownBlock = some k → okl k) (q : Kd.Q (Kd.int .i64) 2 w' 0 (fun k => okl k ∨ w.heap.size ≤ k) v1 L2) (b : Below 0 w w') (gr : w.grownBy w' v.ownBlock) : PInv W g high v1 Lm L2 left w' := by
  have hk : Kept w w' okl := Kept.of_grown gr (Kept.refl w _) (fun k hk => .inl (hv k hk))
  have ht := h3.tight
  refine ⟨h1, below_of_kept h2 b hk ?_, _, _, ht.kept hk ?_ ?_, q, ?_, ?_⟩
  · intro k hk hl
    have := (h6 k hl).1
    omega
  · intro hl
    exact (h6 g hl).2.1 rfl
  · rintro k ⟨hk, _⟩ hl
    exact (h6 k hl).2.2 hk
  · rintro k ⟨hk, _⟩
    exact h5 k hk
  · have hlt := h3.at_.lt
    rintro k (hk | hk)
    · exact ⟨(h6 k hk).1, (h6 k hk).2.1, fun h => (h6 k hk).2.2 h.1⟩
    · have := h2.size
      exact ⟨by omega, by omega, fun h => by omega⟩
end

def opOk : World → Int × Int → Prop := fun _ z => (Lit.int .i64 z.1).wf = true ∧ (Lit.int .i64 z.2).wf = true
def opCells : Int × Int → List Value := fun z => [.int .i64 z.1] ++ [.int .i64 z.2]
theorem ops_opn : Opn Try.prog 32 (fun s : Sl (Int × Int) => [.slice s.at_ s.len s.cap]) (Sl.ok Try.prog 34 opCells opOk) :=
  opn_slice Try.underlying32 (opn_struct Try.underlying34 (by kernel_rfl) (opnF_cons rfl (sz := 1) (by kernel_rfl) (opn_int Try.underlying3) (opnF_last rfl (opn_int Try.underlying2))))
theorem op_at {s : Sl (Int × Int)} {W : World} (hs : Sl.ok Try.prog 34 opCells opOk W s) {i : Nat} (hi : i < s.len) :
    ∃ a kd v, s.at_ = some a ∧ a.block < W.heap.size ∧ W.cell? (a.add (i * 2)) = some (.int .i64 kd) ∧ W.cell? (a.add (i * 2 + 1)) = some (.int .i64 v) := by
  obtain ⟨h1, h2, h3, h4, h5, h6⟩ := hs
  rcases h6 with ⟨_, h6⟩ | ⟨a, ha, hc⟩
  · omega
  have hl : i < s.all.length := by omega
  have hz := hc i _ (List.getElem?_eq_getElem hl)
  have e : Try.prog.cellsOf 34 = 2 := by kernel_rfl
  rw [e] at hz
  have hb := World.cells?_block hz (by decide)
  refine ⟨a, s.all[i].1, s.all[i].2, ha, ?_, ?_, ?_⟩
  · rw [add_block] at hb; exact hb
  · have := cells_get hz 0 _ rfl
    rw [Addr.add_add] at this
    exact this
  · have := cells_get hz 1 _ rfl
    rw [Addr.add_add] at this
    exact this
theorem ops_few {s : Sl (Int × Int)} {W : World} (hs : Sl.ok Try.prog 34 opCells opOk W s) : s.len ≤ 8796093022207 := by
  obtain ⟨h1, h2, h3, h4, h5, h6⟩ := hs
  have e : Try.prog.bytesOf 34 = 16 := by kernel_rfl
  have e2 : reachBytes = 140737488351232 := rfl
  rw [e, e2] at h4
  omega

set_option maxHeartbeats 8000000 in
set_option maxRecDepth 100000 in
theorem MonoPlays_sl (high : Bool) (s : Sl (Int × Int)) (W : World) (hs : Sl.ok Try.prog 34 opCells opOk W s) :
    Calls Try.prog 4 #[.bool high, .slice s.at_ s.len s.cap] W fun e w' => e = .returned (.bool true) ∧ Below W.heap.size W w' := by
  have HP := Lib.hid fun i (hi : i < s.len) => op_at hs hi
  have HF := Lib.hid (ops_few hs)
  clear hs
  obtain ⟨at_, len, cap, all⟩ := s
  simp only at HP HF ⊢
  go_enter Try.func4, Try.ntmps4
  go_wp2_with fail
  refine (awake06 _).mono ?_
  rintro e w1 ⟨rfl, b1⟩
  go_wp2_with fail
  refine (is_new high _).mono ?_
  rintro e w2 ⟨g, rfl, hg, h2, b2⟩
  have HI := Lib.hid (show PInv W g high (.slice none 0 0) [] [] 0 w2 from ⟨Nat.le_trans b1.size hg, b1.trans (b2.mono b1.size), fun _ => False, fun _ => False, h2, Kd.Q_nil _ _ _ _ _, fun _ hk => hk.elim, fun _ hk => hk.elim⟩)
  clear h2 hg b1 b2
  go_wp2
  go_loopg [6, 7] len (fun kq v6 v7 w' => ∃ (i : Nat) (L : List Int) (left : Int), v7 = .int .i64 i ∧ Aside0 (i + kq = len) ∧ Aside0 (left + L.length ≤ i ∧ L.length ≤ i) ∧ Aside0 (PInv W g high v6 L L left w'))
  case atStart => exact ⟨0, [], 0, rfl, ⟨by omega⟩, ⟨by simp⟩, ⟨HI.out⟩⟩
  case round =>
    clear HI
    obtain ⟨i, L, left, rfl, hk, hx, hI⟩ := hrel
    obtain ⟨okm, okl, m1, m2, m3, m4⟩ := hI.out.ex
    obtain ⟨AL, cL, rfl, hlc⟩ := Kd.Q_slice m2
    have M1 := Lib.hid m1
    have M2 := Lib.hid m2
    have M3 := Lib.hid m3
    have M4 := Lib.hid m4
    have HLC := Lib.hid hlc
    clear m1 m2 m3 m4 hlc
    by_cases hi : i < len
    · have c0 : decide (i < len) = true := decide_eq_true hi
      have Hi := Lib.hid hi
      obtain ⟨a, kd, v, rfl, hab, q0, q1⟩ := HP.out i hi
      clear hi
      have e1 := eq_true (show (0 : Int) ≤ (i : Int) by omega)
      have e2 : ((i : Int) < (len : Int)) = True := eq_true (by have := Hi.out; omega)
      have HQ := Lib.hid fun (w' : World) (hb : Below W.heap.size W w') => (show w'.cell? (a.add (i * 2)) = some (.int .i64 kd) ∧ w'.cell? ⟨(a.add (i * 2)).block, (a.add (i * 2)).off + 1, none⟩ = some (.int .i64 v) from
        ⟨(hb.cell (by rw [add_block]; exact hab)).trans q0, by rw [← add_field a (i * 2) 1 (by decide)]; exact (hb.cell (by rw [add_block]; exact hab)).trans q1⟩)
      clear q0 q1
      obtain ⟨s0, s1⟩ := HQ.out _ hI.out.bel
      have hwr : wrap64 ((i : Int) + 1) = ((i + 1 : Nat) : Int) := by have := Hi.out; have := HF.out; unfold wrap64; omega
      by_cases k1 : kd = 1
      · subst k1
        go_wp2_with fail
        refine (is_put v M1.out (by have := hx.out; have := Hi.out; have := HF.out; omega) (by have := hx.out; have := Hi.out; have := HF.out; omega)).mono ?_
        rintro e w3 ⟨rfl, b3, k3, h3⟩
        have P3 := PInv.put hI.out.big hI.out.bel M1.out M2.out M3.out M4.out b3 k3 h3
        clear b3 k3 h3 s0 s1
        obtain ⟨okm3, okl3, m1, m2, m3, m4⟩ := P3.ex
        obtain ⟨t0, t1⟩ := HQ.out _ P3.bel
        have hv : ∀ k, (Value.slice AL L.length cL).ownBlock = some k → okl3 k := m2.1
        have N1 := Lib.hid m1
        have N2 := Lib.hid m2
        have N3 := Lib.hid m3
        have N4 := Lib.hid m4
        have NV := Lib.hid hv
        have NP := Lib.hid P3
        clear m1 m2 m3 m4 hv P3
        go_wp2_with (first | ((with_reducible refine gate_builtin (b := .append) (xs := #[.tmp 34, .tmp 40]) rfl ?_); at_builtin; refine Kd.Q_append (Kd.int .i64) (w0 := w3) 0 rfl (.tmp 34) (.tmp 40) 22 2 (.int .i64 0) 8 rfl Try.underlying22 info64 rfl (by decide) (by decide) (.slice AL L.length cL) L v [.int .i64 v] (fun k => okl3 k ∨ w3.heap.size ≤ k) (fun _ => False) (by rfl) (by rfl) ?aP (fun _ hk => hk.elim) (fun k hk => .inr hk) (Kd.Q_mono N2.out (fun k hk => .inl hk)) (Below.refl 0 w3) (Nat.zero_le _) ?aL ?_; (case aP => exact rfl); (case aL => have := hx.out; have := Hi.out; have := HF.out; omega); intro v108 w9 ho hb9 hg9 hat; have P9 := Lib.hid (PInv.grown NP.out.big NP.out.bel N1.out N3.out N4.out NV.out ho hb9 hg9); clear ho hb9 hg9 hat))
        go_roundg (gk - 1)
        case measure => have := hk.out; have := Hi.out; omega
        case rel => exact ⟨i + 1, L ++ [v], left, by first | rfl | simp [hwr], ⟨by have := hk.out; have := Hi.out; omega⟩, ⟨by have := hx.out; simp; omega⟩, ⟨P9.out⟩⟩
      by_cases k2 : kd = 2
      · subst k2
        cases L with
        | nil =>
          go_wp2_with fail
          refine (mono_take_none M1.out).mono ?_
          rintro e w3 ⟨rfl, b3⟩
          have P3 := Lib.hid (hI.out.below b3)
          clear b3
          go_wp2
          go_roundg (gk - 1)
          case measure => have := hk.out; have := Hi.out; omega
          case rel => exact ⟨i + 1, [], left, by first | rfl | simp [hwr], ⟨by have := hk.out; have := Hi.out; omega⟩, ⟨by have := hx.out; simp at this ⊢; omega⟩, ⟨P3.out⟩⟩
        | cons x L =>
          obtain ⟨ad, rfl, -⟩ := (Kd.Q_reads' M2.out).2.2.2.2 (by simp)
          go_wp2_with fail
          refine (is_take M1.out).mono ?_
          rintro e w3 ⟨rfl, b3, k3, h3⟩
          have P3 := PInv.take hI.out.big hI.out.bel M2.out M3.out M4.out b3 k3 h3
          obtain ⟨okm3, okl3, m1, m2, m3, m4⟩ := P3.ex
          obtain ⟨A2, hA2⟩ : ∃ A2, (if cL = 1 then some ad else some (⟨ad.block, ad.off + 1, none⟩ : Addr)) = A2 := ⟨_, rfl⟩
          have hd := show Kd.Q (Kd.int .i64) 2 w3 0 okl3 (.slice (if cL = 1 then some ad else some ⟨ad.block, ad.off + 1, none⟩) L.length (cL - 1)) L from Kd.Q_drop (k := 1) m2 (by simp)
          rw [hA2] at hd
          have P4 := Lib.hid (show PInv W g high (.slice A2 L.length (cL - 1)) L L (left + 1) w3 from ⟨P3.big, P3.bel, okm3, okl3, m1, hd, m3, m4⟩)
          have hcl := HLC.out
          simp only [List.length_cons] at hcl
          have e3 := eq_true (show (1 : Int) ≤ (L.length : Int) + 1 by omega)
          have e4 := eq_true hcl
          have e5 : ((L.length : Int) + 1 ≤ (cL : Int)) = True := eq_true (by omega)
          clear hd P3 m1 m2 m3 m4 b3 k3 h3 hcl s0 s1
          go_wp2
          go_roundg (gk - 1)
          case measure => have := hk.out; have := Hi.out; omega
          case rel => exact ⟨i + 1, L, left + 1, by first | rfl | simp [hwr], ⟨by have := hk.out; have := Hi.out; omega⟩, ⟨by have := hx.out; simp only [List.length_cons] at this; omega⟩, ⟨P4.out⟩⟩
      by_cases k3 : kd = 3
      · subst k3
        go_wp2_with fail
        have hq := Kd.Q_reads' M2.out
        refine (looks_true M1.out hq.2.2 hq.2.1).mono ?_
        rintro e w3 ⟨rfl, b3⟩
        have P3 := Lib.hid (hI.out.below b3)
        clear b3 hq
        go_wp2
        go_roundg (gk - 1)
        case measure => have := hk.out; have := Hi.out; omega
        case rel => exact ⟨i + 1, L, left, by first | rfl | simp [hwr], ⟨by have := hk.out; have := Hi.out; omega⟩, ⟨by have := hx.out; omega⟩, ⟨P3.out⟩⟩
      · have n1 : (kd == 1) = false := by simpa using k1
        have n2 : (kd == 2) = false := by simpa using k2
        have n3 : (kd == 3) = false := by simpa using k3
        go_wp2
        go_roundg (gk - 1)
        case measure => have := hk.out; have := Hi.out; omega
        case rel => exact ⟨i + 1, L, left, by first | rfl | simp [hwr], ⟨by have := hk.out; have := Hi.out; omega⟩, ⟨by have := hx.out; omega⟩, ⟨hI.out⟩⟩
    · have c0 : decide (i < len) = false := decide_eq_false hi
      clear hi
      go_wp2_with fail
      have hq := Kd.Q_reads' M2.out
      refine (looks_true M1.out hq.2.2 hq.2.1).mono ?_
      rintro e w3 ⟨rfl, b3⟩
      go_wp2
      go_ret
      exact ⟨by simp, (hI.out.below b3).bel⟩
theorem MonoPlays_row {H : Type} {enc : TypeId × Value → H} {base : Nat} {d : DataW H} {p : List MemPlace} (high : Bool) (v : Value) (W : World) (hval : Value.okWide Try.prog W .any base 32 v)
    (h : DataW.Trod enc Try.prog W 0 (fun _ => true) true 32 v d p) (y : ∀ n ∈ DataW.weights Try.prog 32 d, n ≤ reachBytes) :
    Calls Try.prog 4 #[.bool high, v] W fun e w' => e = .returned (.bool true) ∧ Below W.heap.size W w' := by
  obtain ⟨a, len, cap, rfl⟩ := WideShapes.okWide_slice Try.underlying32 hval
  obtain ⟨fuel, hf⟩ := h
  obtain ⟨s, hs, hok⟩ := ops_opn hf y
  simp [Value.cells] at hs
  obtain ⟨rfl, rfl, rfl⟩ := hs
  exact MonoPlays_sl high s W hok
end Go.Proofs.Ytmlnbmbobkoipaa
