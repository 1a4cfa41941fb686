/-
  RankPlays: the law's call answers true, for every script; nothing that was there is changed.
-/
import Derived.Test.YtfojfgnhblgckaaRankWithout
import Derived.Test.YtfojfgnhblgckaaOpens
import Derived.Test.YtfojfgnhblgckaaRankNilLaw
namespace Go.Proofs.Ytfojfgnhblgckaa
open Go.RowKit Go.Proofs.Ytfojfgnhblgckaa.XRefs Go.Proofs.YtfojfgnhblgckaaW.PrintWords Go.Proofs.YtfojfgnhblgckaaW.PrintLast Go.Proofs.YtfojfgnhblgckaaW.PrintMore

theorem has_srt {v : Int} {L : List Int} : hasL v (srt L) = true ↔ v ∈ L := (has_iff (srt_rising L)).trans (srt_perm L).mem_iff
theorem take_srt {v : Int} {L : List Int} (h : v ∈ L) : takeL v (srt L) = srt (L.erase v) := by
  refine srt_unique (take_rising (srt_rising L)) ?_
  have h1 := take_perm (has_srt.2 h)
  exact List.Perm.cons_inv (h1.symm.trans ((srt_perm L).trans (List.perm_cons_erase h)))
/-- The numbers in order are those of the law's own list; neither lies in the other's memory, nor in what was there at the call. -/
structure QInv (W : World) (g : Nat) (v : Value) (L : List Int) (M : List Int) (w : World) : Prop where
  big : W.heap.size ≤ g
  bel : Below W.heap.size W w
  ex : ∃ okm okl : Nat → Prop, RankAt w g okm M ∧ Kd.R (Kd.int .i64) 2 w 0 okl v L ∧ (∀ k, okm k → W.heap.size ≤ k) ∧ (∀ k, okl k → W.heap.size ≤ k ∧ k ≠ g ∧ ¬ okm k)
section
variable {W w w' : World} {g : Nat} {v : Value} {L M : List Int}
theorem QInv.below (h : QInv W g v L M w) (hb : Below w.heap.size w w') : QInv W g v L M w' := by
  obtain ⟨h1, h2, okm, okl, h3, h4, h5, h6⟩ := h
  exact ⟨h1, h2.trans (hb.mono h2.size), okm, okl, h3.below hb, Kd.R_below h4 hb, h5, h6⟩
theorem qinv_put (x : Int) (h : QInv W g v L M w) (hl : M.length + 1 ≤ 1048576) : Calls Try.prog 9 #[.pointer (some ⟨g, 0, none⟩), .int .i64 x] w fun e w' => e = .returned (.tuple #[]) ∧ QInv W g v L (putL x M) w' := by
  obtain ⟨h1, h2, okm, okl, h3, h4, h5, h6⟩ := h
  refine (rank_put x h3 hl).mono ?_
  rintro e w' ⟨rfl, b, k, m⟩
  refine ⟨rfl, h1, below_kept h2 b k ?_, _, fun k => okl k ∧ k < w.heap.size, m, Kd.R_kept (Kd.R_mono (Kd.R_bound h4) (fun k hk => ⟨hk.1, hk.2.2.1⟩)) k ?_, ?_, ?_⟩
  · rintro k hk (rfl | h)
    · omega
    · have := h5 k h; omega
  · rintro k ⟨hk, _⟩ (rfl | h)
    · exact (h6 _ hk).2.1 rfl
    · exact (h6 k hk).2.2 h
  · rintro k (h | h)
    · exact h5 k h
    · have := h2.size; omega
  · rintro k ⟨hk, hlt⟩
    refine ⟨(h6 k hk).1, (h6 k hk).2.1, ?_⟩
    rintro (h | h)
    · exact (h6 k hk).2.2 h
    · omega
theorem qinv_take (x : Int) (h : QInv W g v L M w) (hv : hasL x M = true) : Calls Try.prog 11 #[.pointer (some ⟨g, 0, none⟩), .int .i64 x] w fun e w' => e = .returned (.bool true) ∧ QInv W g v L (takeL x M) w' := by
  obtain ⟨h1, h2, okm, okl, h3, h4, h5, h6⟩ := h
  refine (rank_take x h3 hv).mono ?_
  rintro e w' ⟨rfl, b, k, m⟩
  refine ⟨rfl, h1, below_kept h2 b k ?_, okm, okl, m, Kd.R_kept h4 k ?_, h5, h6⟩
  · rintro k hk (rfl | h)
    · omega
    · have := h5 k h; omega
  · rintro k hk (rfl | h)
    · exact (h6 _ hk).2.1 rfl
    · exact (h6 k hk).2.2 h
theorem qinv_take_no (x : Int) (h : QInv W g v L M w) (hv : hasL x M = false) : Calls Try.prog 11 #[.pointer (some ⟨g, 0, none⟩), .int .i64 x] w fun e w' => e = .returned (.bool false) ∧ w = w' := by
  obtain ⟨h1, h2, okm, okl, h3, h4, h5, h6⟩ := h
  exact rank_take_no x h3 hv
theorem qinv_len (h : QInv W g v L M w) : Calls Try.prog 19 #[.pointer (some ⟨g, 0, none⟩)] w fun e w' => e = .returned (.int .i64 (M.length : Int)) ∧ w = w' := by
  obtain ⟨h1, h2, okm, okl, h3, h4, h5, h6⟩ := h
  exact rank_len h3
theorem qinv_at (i : Int) (h : QInv W g v L M w) : Calls Try.prog 13 #[.pointer (some ⟨g, 0, none⟩), .int .i64 i] w fun e w' => e = .returned (.tuple #[.int .i64 (atV M i), .bool (atB M i)]) ∧ w = w' := by
  obtain ⟨h1, h2, okm, okl, h3, h4, h5, h6⟩ := h
  exact rank_at h3 i
theorem qinv_by (p : Int) (h : QInv W g v L M w) : Calls Try.prog 10 #[.pointer (some ⟨g, 0, none⟩), .int .i64 p] w fun e w' => e = .returned (.tuple #[.int .i64 (byV M p), .bool (askB M p)]) ∧ Below w.heap.size w w' := by
  obtain ⟨h1, h2, okm, okl, h3, h4, h5, h6⟩ := h
  exact rank_by h3 p
theorem qinv_list (h : QInv W g v L M w) : Calls Try.prog 17 #[.pointer (some ⟨g, 0, none⟩)] w fun e w' => ∃ v, e = .returned v ∧ Kd.R (Kd.int .i64) 2 w' w.heap.size (fun _ => True) v M ∧ Below w.heap.size w w' := by
  obtain ⟨h1, h2, okm, okl, h3, h4, h5, h6⟩ := h
  exact rank_list h3
/-- The law's own list grows. -/
theorem QInv.grown {v1 : Value} {L2 : List Int} {okm okl : Nat → Prop} (h1 : W.heap.size ≤ g) (h2 : Below W.heap.size W w) (h3 : RankAt w g okm M) (h5 : ∀ k, okm k → W.heap.size ≤ k) (h6 : ∀ k, okl k → W.heap.size ≤ k ∧ k ≠ g ∧ ¬ okm k)
    (hv : ∀ k, v.ownBlock = some k → okl k) (q : Kd.R (Kd.int .i64) 2 w' 0 (fun k => okl k ∨ w.heap.size ≤ k) v1 L2) (b : Below 0 w w') (gr : w.grownBy w' v.ownBlock) : QInv W g v1 L2 M w' := by
  have hk : Kept w w' okl := Kept.of_grown gr (Kept.refl w _) (fun k hk => .inl (hv k hk))
  have ht := h3.tight
  have hlt := h3.lt
  have hm : RankAt w' g (fun k => okm k ∧ k < w.heap.size) M := by
    obtain ⟨⟨V, a1, a2⟩, a3, a4, a5, a6⟩ := ht
    refine ⟨⟨V, ?_, Kd.R_kept a2 hk ?_⟩, a3, Nat.lt_of_lt_of_le hlt b.size, a5, a6⟩
    · exact (hk.2 g hlt (fun hl => (h6 g hl).2.1 rfl)).trans a1
    · rintro k ⟨hk, _⟩ hl
      exact (h6 k hl).2.2 hk
  refine ⟨h1, below_kept h2 b hk ?_, _, _, hm, q, ?_, ?_⟩
  · intro k hk hl
    have := (h6 k hl).1
    omega
  · rintro k ⟨hk, _⟩
    exact h5 k hk
  · rintro k (hk | hk)
    · exact ⟨(h6 k hk).1, (h6 k hk).2.1, fun h => (h6 k hk).2.2 h.1⟩
    · have := h2.size
      exact ⟨by omega, by omega, fun h => by omega⟩
/-- The law's own list is another, in new memory. -/
theorem QInv.other {v1 : Value} {L2 : List Int} (h : QInv W g v L M w) (b : Below w.heap.size w w') (q : Kd.R (Kd.int .i64) 2 w' w.heap.size (fun _ => True) v1 L2) : QInv W g v1 L2 M w' := by
  obtain ⟨h1, h2, okm, okl, h3, h4, h5, h6⟩ := h
  have hlt := h3.lt
  refine ⟨h1, h2.trans (b.mono h2.size), fun k => okm k ∧ k < w.heap.size, fun k => w.heap.size ≤ k, h3.tight.below b, Kd.R_lower (Kd.R_mono (Kd.R_bound q) (fun k hk => hk.2.1)) (Nat.zero_le _), fun k hk => h5 k hk.1, ?_⟩
  intro k hk
  have := h2.size
  exact ⟨by omega, by omega, fun h => by omega⟩
end

def opOk : World → Int × Int → Prop := fun _ z => (Lit.int .i64 z.1).wf = true ∧ (Lit.int .i64 z.2).wf = true
def opCells : Int × Int → List Value := fun z => [.int .i64 z.1] ++ [.int .i64 z.2]
theorem ops_opn : Opn Try.prog 30 (fun s : Sl (Int × Int) => [.slice s.at_ s.len s.cap]) (Sl.ok Try.prog 32 opCells opOk) :=
  opn_slice Try.underlying30 (opn_struct Try.underlying32 (by kernel_rfl) (opnF_cons rfl (sz := 1) (by kernel_rfl) (opn_int Try.underlying3) (opnF_last rfl (opn_int Try.underlying2))))
theorem op_at {s : Sl (Int × Int)} {W : World} (hs : Sl.ok Try.prog 32 opCells opOk W s) {i : Nat} (hi : i < s.len) :
    ∃ a kd v, s.at_ = some a ∧ a.block < W.heap.size ∧ W.cell? (a.add (i * 2)) = some (.int .i64 kd) ∧ W.cell? (a.add (i * 2 + 1)) = some (.int .i64 v) := by
  obtain ⟨h1, h2, h3, h4, h5, h6⟩ := hs
  rcases h6 with ⟨_, h6⟩ | ⟨a, ha, hc⟩
  · omega
  have hl : i < s.all.length := by omega
  have hz := hc i _ (List.getElem?_eq_getElem hl)
  have e : Try.prog.cellsOf 32 = 2 := by kernel_rfl
  rw [e] at hz
  have hb := World.cells?_block hz (by decide)
  refine ⟨a, s.all[i].1, s.all[i].2, ha, ?_, ?_, ?_⟩
  · rw [add_block] at hb; exact hb
  · have := cells_get hz 0 _ rfl
    rw [Addr.add_add] at this
    exact this
  · have := cells_get hz 1 _ rfl
    rw [Addr.add_add] at this
    exact this
theorem ops_few {s : Sl (Int × Int)} {W : World} (hs : Sl.ok Try.prog 32 opCells opOk W s) : s.len ≤ 8796093022207 := by
  obtain ⟨h1, h2, h3, h4, h5, h6⟩ := hs
  have e : Try.prog.bytesOf 32 = 16 := by kernel_rfl
  have e2 : reachBytes = 140737488351232 := rfl
  rw [e, e2] at h4
  omega
end Go.Proofs.Ytfojfgnhblgckaa
