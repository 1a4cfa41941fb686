/-
  Texts of this seat, joined, less what CoreCopies does not lean on: Spoil, CopiesLaw.
-/
import Derived.Test.YtpljkcakijkklaaDoorQCoreCopies22
import Derived.Test.YtpljkcakijkklaaDoorQCoreCopies20
set_option linter.unusedVariables false
set_option linter.unusedSimpArgs false
set_option maxHeartbeats 16000000
set_option maxRecDepth 100000
namespace Go.Proofs.YtpljkcakijkklaaDoor.Zz23
theorem z23_0 {p : Prop} (h : p := by rw [HFP.out, hp]; exact List.mem_append_left _ (List.mem_singleton.2 rfl)) : p := h
end Go.Proofs.YtpljkcakijkklaaDoor.Zz23
open Go.Proofs.YtpljkcakijkklaaDoor.Zz23
section
namespace Go.Proofs.YtpljkcakijkklaaDoor
set_option linter.unusedVariables false
set_option linter.unusedSimpArgs false
open Go.RowKit Go.Proofs.YtpljkcakijkklaaDoorW.PrintWords Go.Proofs.YtpljkcakijkklaaDoorW.PrintLast Go.Proofs.YtpljkcakijkklaaDoorW.PrintMore

structure SpS (W : World) (p : Addr) (l : List Cr) (i : Nat) (wr : World) : Prop where
 cells : ∀ j k, i ≤ j → l[j]? = some k → wr.cells? 0 (p.add (j * 4)) 4 = some k.cells
 kids : ∀ j k, i ≤ j → l[j]? = some k → ∀ b ∈ k.fp, wr.heap[b]? = W.heap[b]?
 wr : Wr wr p.block
theorem fpL_apart {l : List Cr} (h : (fpL l).Nodup) : ∀ {i j : Nat} {a b : Cr}, i < j → l[i]? = some a → l[j]? = some b → ∀ x ∈ a.fp, x ∉ b.fp := by
 induction l with
 | nil => intro i j a b _ ha; cases ha
 | cons c t ih =>
  intro i j a b hij ha hb x hx hx'
  rw [fpL, List.nodup_append] at h
  cases j with
  | zero => omega
  | succ j =>
   cases i with
   | zero =>
    simp at ha
    subst ha
    exact h.2.2 x hx x (fpL_mem (List.mem_of_getElem? (show t[j]? = some b by simpa using hb)) x hx') rfl
   | succ i => exact ih h.2.1 (i := i) (j := j) (by omega) (by simpa using ha) (by simpa using hb) x hx hx'
theorem cells_same {w w' : World} {p : Addr} {k n : Nat} {cs : List Value} (h : w.cells? 0 (p.add k) n = some cs) (e : w'.heap[p.block]? = w.heap[p.block]?) : w'.cells? 0 (p.add k) n = some cs := by
 obtain ⟨_, h2, h3⟩ := World.cells?_some h
 refine World.cells?_of_each (Nat.zero_le _) h2 fun i hi => ?_
 rw [← h3 i hi]
 refine World.cell?_of_block ?_
 rw [add_block, add_block]
 exact e
theorem SpS.called {W wr w' : World} {p : Addr} {l : List Cr} {i : Nat} {k : Cr} (h : SpS W p l i wr) (hx : l[i]? = some k) (he : Ex k.fp wr w') (hp : p.block < wr.heap.size) (hrow : p.block ∉ fpL l) (hn : (fpL l).Nodup) (hb : ∀ b ∈ fpL l, b < wr.heap.size) : SpS W p l (i + 1) w' ∧ w'.cells? 0 (p.add (i * 4)) 4 = some k.cells := by
 have ep : w'.heap[p.block]? = wr.heap[p.block]? := he.block _ hp fun e => hrow (fpL_mem (List.mem_of_getElem? hx) _ e)
 refine ⟨⟨fun j q hj hq => cells_same (h.cells j q (by omega) hq) ep, fun j q hj hq b hbq => ?_, h.wr.of ep⟩, cells_same (h.cells i k (Nat.le_refl _) hx) ep⟩
 rw [← h.kids j q (by omega) hq b hbq]
 exact he.block _ (hb b (fpL_mem (List.mem_of_getElem? hq) b hbq)) fun e => fpL_apart hn hj hx hq b e hbq
theorem add4 (p : Addr) (hp : p = ⟨p.block, 0, none⟩) (k : Nat) : p.add k = ⟨p.block, k, none⟩ := by
 rw [hp]
 cases k with
 | zero => rfl
 | succ k => simp [Addr.add]
theorem cells_far {w : World} {b k n : Nat} {cs : List Value} (h : w.cells? 0 ⟨b, k, none⟩ n = some cs) {q : Nat} (hq : q < k) (u : Value) : (w.setCell ⟨b, q, none⟩ u).cells? 0 ⟨b, k, none⟩ n = some cs := by
 obtain ⟨_, h2, h3⟩ := World.cells?_some h
 refine World.cells?_of_each (Nat.zero_le _) h2 fun i hi => ?_
 rw [← h3 i hi]
 have ho : ((⟨b, k, none⟩ : Addr).add i).off = k + i := by cases i <;> rfl
 refine World.cell?_setCell_other _ _ _ _ fun e => ?_
 have e2 := congrArg Addr.off e
 rw [ho] at e2
 have e3 : (⟨b, q, none⟩ : Addr).off = q := rfl
 omega
theorem Wr.set {w : World} {b k : Nat} (h : Wr w b) (u : Value) : Wr (w.setCell ⟨b, k, none⟩ u) b := by
 obtain ⟨cs, t, h⟩ := h
 exact ⟨_, _, blk_set h k u⟩
theorem SpS.put {W wr : World} {p : Addr} {l : List Cr} {i q : Nat} (h : SpS W p l (i + 1) wr) (hp : p = ⟨p.block, 0, none⟩) (hrow : p.block ∉ fpL l) (hq : q < (i + 1) * 4) (u : Value) : SpS W p l (i + 1) (wr.setCell ⟨p.block, q, none⟩ u) where
 cells := fun j k hj hk => by
  have := h.cells j k hj hk
  rw [add4 p hp] at this ⊢
  exact cells_far this (by omega) u
 kids := fun j k hj hk b hb => by
  rw [← h.kids j k hj hk b hb]
  refine Below.heap_setCell _ _ _ _ fun e => hrow ?_
  rw [show p.block = b from e.symm]
  exact fpL_mem (List.mem_of_getElem? hk) b hb
 wr := h.wr.set u
theorem SpS.below {W wr w' : World} {p : Addr} {l : List Cr} {i : Nat} (h : SpS W p l i wr) (hb : Below wr.heap.size wr w') (hf : ∀ b ∈ fpL l, b < wr.heap.size) (hp : p.block < wr.heap.size) : SpS W p l i w' :=
 ⟨fun j k hj hk => below_cells hb (h.cells j k hj hk) (by decide), fun j k hj hk b hbk => (hb.block b (hf b (fpL_mem (List.mem_of_getElem? hk) b hbk))).trans (h.kids j k hj hk b hbk), h.wr.of (hb.block _ hp)⟩
def SpoilC (c : Cr) : Prop := ∀ lo W, New lo W c → Calls Tryd.prog 20 #[.agg #[.int .i64 c.op, .int .i64 c.n, .int .i64 c.m, .slice c.at_ c.kids.length c.cap]] W fun e w' => e = .returned (.tuple #[]) ∧ Ex c.fp W w'
theorem spoil_calls (c : Cr) : SpoilC c := by
 refine Cr.ind (P := SpoilC) (fun c ih => ?_) c
 intro lo w hn
 obtain ⟨w1, e1, b1, k1, s1⟩ := box1 w (.cells #[.int .i64 c.op, .int .i64 c.n, .int .i64 c.m, .slice c.at_ c.kids.length c.cap] 24)
 obtain ⟨g, hg⟩ : ∃ g, w.heap.size = g := ⟨_, rfl⟩
 have hfp := c.fp_eq
 have hzf := hn.zf.eq
 have hlt := fun b hb => (hn.blocks b hb).2
 have HE := Lib.hid e1
 have HS := Lib.hid s1
 have HN := Lib.hid hn
 have HIH := Lib.hid ih
 have B1 := Lib.hid b1
 have HG := Lib.hid hg
 have HK := Lib.hid k1
 have HFP := Lib.hid hfp
 have HZ := Lib.hid hzf
 have HRM := Lib.hid hn.lies.room
 obtain ⟨ca, hca⟩ : ∃ a, c.at_ = a := ⟨_, rfl⟩
 obtain ⟨len, hlen⟩ : ∃ n, c.kids.length = n := ⟨_, rfl⟩
 have HCA := Lib.hid hca
 have HLEN := Lib.hid hlen
 rw [hca] at HK HE ⊢
 rw [hlen] at HK HE HRM ⊢
 rw [hg] at HK
 have HC := Lib.hid fun (w' : World) (hb : w'.heap[g]? = w1.heap[g]?) => core_cells (hb.trans HK.out)
 clear hn ih e1 b1 k1 s1 hfp hzf hlt hca hlen
 obtain ⟨x0, x1, x2, x3⟩ := HC.out w1 rfl
 go_enter Tryd.func20, Tryd.ntmps20
 go_wp2_with fail
 rw [HE.out]
 try rw [HG.out]
 clear x0 x1 x2 x3
 go_loopg [2] len (fun gg v wr => ∃ i : Nat, v = .int .i64 i ∧ Aside0 (i + gg = len) ∧ Aside0 (∀ p, c.at_ = some p → SpS w p c.kids i wr) ∧ Aside0 (Ex c.fp w1 wr))
 case atStart => exact ⟨0, rfl, ⟨by omega⟩, ⟨fun p hp => ⟨fun j k _ hk => by
   obtain ⟨⟨b, hb, hc⟩, -⟩ := (HN.out.lies.below B1.out).kids.get hk
   rw [hp] at hb
   cases hb
   rwa [Nat.zero_add] at hc, fun j k _ hk b hb => B1.out.block b (HN.out.blocks b (by rw [HFP.out]; exact List.mem_append_right _ (fpL_mem (List.mem_of_getElem? hk) b hb))).2,
   (HN.out.wr p.block z23_0).of (B1.out.block _ (HN.out.blocks _ z23_0).2)⟩⟩, ⟨Ex.refl _ _⟩⟩
 case round =>
  obtain ⟨i, rfl, hi, hQ, hX⟩ := hrel
  have HI := Lib.hid hi.out
  have HQ := Lib.hid hQ.out
  have HX := Lib.hid hX.out
  have HGN := Lib.hid (show g ∉ c.fp ∧ g < w1.heap.size by
   have h1 := HS.out
   have h2 := HG.out
   exact ⟨fun e => by have := (HN.out.blocks g e).2; omega, by omega⟩)
  clear hi hQ hX
  have HGW := Lib.hid (HX.out.block g HGN.out.2 HGN.out.1)
  obtain ⟨x0, x1, x2, x3⟩ := HC.out wr HGW.out
  by_cases hin : i < len
  ·obtain ⟨x, hx⟩ : ∃ x, c.kids[i]? = some x := ⟨_, List.getElem?_eq_getElem (by rw [HLEN.out]; exact hin)⟩
   obtain ⟨p, hp⟩ : ∃ p, c.at_ = some p := by
    obtain ⟨⟨b, hb, -⟩, -⟩ := HN.out.lies.kids.get hx
    exact ⟨b, hb⟩
   obtain rfl := HCA.out.symm.trans hp
   have hpf := HZ.out.1 p hp
   obtain ⟨gB, hgB⟩ : ∃ b, p.block = b := ⟨_, rfl⟩
   have HSP := Lib.hid (HQ.out p hp)
   have HPF := Lib.hid hpf
   have HGB := Lib.hid hgB
   have hmem : p.block ∈ c.fp := by rw [HFP.out, hp]; exact List.mem_append_left _ (List.mem_singleton.2 rfl)
   have hnd : (blkOf c.at_ ++ fpL c.kids).Nodup := by rw [← HFP.out]; exact HN.out.apart
   rw [List.nodup_append] at hnd
   have HNR := Lib.hid (show p.block ∉ fpL c.kids from fun e => hnd.2.2 p.block (by rw [hp]; exact List.mem_singleton.2 rfl) p.block e rfl)
   have HND := Lib.hid hnd.2.1
   have HMEM := Lib.hid hmem
   have hws : w.heap.size ≤ wr.heap.size := Nat.le_trans B1.out.size HX.out.size
   have HFB := Lib.hid (show ∀ b ∈ fpL c.kids, b < wr.heap.size from fun b hb => Nat.lt_of_lt_of_le (HN.out.blocks b (by rw [HFP.out]; exact List.mem_append_right _ hb)).2 hws)
   have HPB := Lib.hid (show p.block < wr.heap.size from Nat.lt_of_lt_of_le (HN.out.blocks _ hmem).2 hws)
   have hnx : New lo wr x := by
    have hsub : ∀ b ∈ x.fp, b ∈ c.fp := fun b hb => by rw [HFP.out]; exact List.mem_append_right _ (fpL_mem (List.mem_of_getElem? hx) b hb)
    have hk := HSP.out.kids i x (Nat.le_refl _) hx
    have hap : x.fp.Nodup := by
     have hnd := HND.out
     have key : ∀ {l : List Cr} {k : Cr}, (fpL l).Nodup → k ∈ l → k.fp.Nodup := by
      intro l
      induction l with
      | nil => intro k _ hk; cases hk
      | cons a t ih =>
       intro k h hk
       rw [fpL, List.nodup_append] at h
       rcases List.mem_cons.1 hk with rfl | hk
       ·exact h.1
       ·exact ih h.2.1 hk
     exact key hnd (List.mem_of_getElem? hx)
    exact ⟨(HN.out.lies.kid (List.mem_of_getElem? hx)).frame hk, fun b hb => ⟨(HN.out.blocks b (hsub b hb)).1, Nat.lt_of_lt_of_le (HN.out.blocks b (hsub b hb)).2 hws⟩, fun b hb => (HN.out.wr b (hsub b hb)).of (hk b hb), hap, ZfL_mem HZ.out.2 (List.mem_of_getElem? hx)⟩
   have HNX := Lib.hid hnx
   have HXC := Lib.hid (HIH.out x (List.mem_of_getElem? hx))
   have hcl := HSP.out.cells i x (Nat.le_refl _) hx
   have hcell := fun j u hj => cells_get hcl j u hj
   have ea : p.add (i * 4) = ⟨gB, i * 4, none⟩ := by rw [add4 p hpf, hgB]
   rw [ea] at hcell
   have c0 : wr.cell? ⟨gB, i * 4, none⟩ = some (.int .i64 x.op) := hcell 0 _ rfl
   have c1 : wr.cell? ⟨gB, i * 4 + 1, none⟩ = some (.int .i64 x.n) := hcell 1 _ rfl
   have c2 : wr.cell? ⟨gB, i * 4 + 2, none⟩ = some (.int .i64 x.m) := hcell 2 _ rfl
   have c3 : wr.cell? ⟨gB, i * 4 + 3, none⟩ = some (.slice x.at_ x.kids.length x.cap) := hcell 3 _ rfl
   have HEA := Lib.hid ea
   have q0 := eq_true (show (0 : Int) ≤ (i : Int) by omega)
   have q1 : ((i : Int) < (len : Int)) = True := eq_true (by omega)
   have q2 : (i < len) = True := eq_true hin
   have w5 : wrap64 ((i : Int) + 1) = ((i + 1 : Nat) : Int) := by have := HRM.out; unfold wrap64; omega
   have HXI := Lib.hid hx
   have HLT := Lib.hid hin
   have HAT := Lib.hid hp
   clear hx hp hpf hgB hmem hnd hws hnx hcl hcell hin
   go_wp2_with fail
   refine (HXC.out lo wr HNX.out).mono ?_
   rintro e w2 ⟨rfl, he⟩
   obtain ⟨hs2, hcl2⟩ := HSP.out.called HXI.out he HPB.out HNR.out HND.out HFB.out
   rw [HEA.out] at hcl2
   have HS2 := Lib.hid hs2
   have HCL2 := Lib.hid hcl2
   have HX2 := Lib.hid (HX.out.trans (he.mono fun b hb => by rw [HFP.out]; exact List.mem_append_right _ (fpL_mem (List.mem_of_getElem? HXI.out) b hb)))
   have HX2L := Lib.hid he.size
   have HFB2 := Lib.hid (show ∀ b ∈ fpL c.kids, b < w2.heap.size from fun b hb => Nat.lt_of_lt_of_le (HFB.out b hb) he.size)
   have HGW2 := Lib.hid (HX2.out.block g HGN.out.2 HGN.out.1)
   have hg2 : g < w2.heap.size := Nat.lt_of_lt_of_le HGN.out.2 HX2.out.size
   have HC2 := Lib.hid fun (w' : World) (hb : Below w2.heap.size w2 w') => HC.out w' ((hb.block g hg2).trans HGW2.out)
   clear he hs2 hcl2 c0 c1 c2 c3 x0 x1 x2 x3 hg2
   go_wp2_with fail
   refine wp_region_tail (S := fun w' => Aside0 (Below w2.heap.size w2 w')) 5 ?_ (fun hHeld => ?_)
   ·exact ⟨(Below.refl _ _).drew⟩
   generalize World.drew _ = wDa at hHeld ⊢
   have HCr := HC2
   refine' tkT 0 ?_
   try simp only [pt]
   refine' tkT 1 ?_
   try simp only [pt]
   refine' tkT 2 ?_
   try simp only [pt]
   refine' cmT 3 (fun K hK => ?_)
   go_simp
   refine (num_calls 99 _).mono ?_
   rintro e w3 ⟨rfl, b3⟩
   refine hK.out _ _ ⟨hHeld.out.trans (b3.mono hHeld.out.size)⟩ (fun hHeld => ?_)
   clear b3
   clear hK K
   try simp only [pt]
   refine' tkT 4 ?_
   try simp only [pt]
   refine doneT ?_
   simp only [List.drop_succ_cons, List.drop_zero]
   have hcl3 := below_cells hHeld.out HCL2.out (by decide)
   have hcell := fun j u hj => cells_get hcl3 j u hj
   have c0 : w3.cell? ⟨gB, i * 4, none⟩ = some (.int .i64 x.op) := hcell 0 _ rfl
   have c1 : w3.cell? ⟨gB, i * 4 + 1, none⟩ = some (.int .i64 x.n) := hcell 1 _ rfl
   have c2 : w3.cell? ⟨gB, i * 4 + 2, none⟩ = some (.int .i64 x.m) := hcell 2 _ rfl
   have c3 : w3.cell? ⟨gB, i * 4 + 3, none⟩ = some (.slice x.at_ x.kids.length x.cap) := hcell 3 _ rfl
   have hpb2 : p.block < w2.heap.size := Nat.lt_of_lt_of_le HPB.out HX2L.out
   obtain ⟨cs, tt, kk⟩ := HS2.out.wr.of (hHeld.out.block _ hpb2)
   rw [HGB.out] at kk
   have f0 := blk_frozen kk (i * 4)
   have f1 := blk_frozen kk (i * 4 + 1)
   have f2 := blk_frozen kk (i * 4 + 2)
   have f3 := blk_frozen kk (i * 4 + 3)
   clear hcl3 hcell kk hpb2
   go_wp2_with fail
   go_roundg (gk - 1)
   case measure => clear w5; have := HI.out; have := HLT.out; omega
   case rel => exact ⟨i + 1, by first | rfl | simp [w5], ⟨by clear w5; have := HI.out; have := HLT.out; omega⟩, ⟨fun p' hp' => by
    obtain rfl : p' = p := by rw [HAT.out] at hp'; injection hp' with hp'; exact hp'.symm
    rw [← HGB.out]
    exact ((((HS2.out.below hHeld.out HFB2.out (Nat.lt_of_lt_of_le HPB.out HX2L.out)).put HPF.out HNR.out (by omega) _).put HPF.out HNR.out (by omega) _).put HPF.out HNR.out (by omega) _).put HPF.out HNR.out (by omega) _⟩,
    ⟨by
     rw [← HGB.out]
     exact ((((HX2.out.trans (Ex.of_below hHeld.out)).set (p := ⟨p.block, i * 4, none⟩) HMEM.out _).set (p := ⟨p.block, i * 4 + 1, none⟩) HMEM.out _).set (p := ⟨p.block, i * 4 + 2, none⟩) HMEM.out _).set (p := ⟨p.block, i * 4 + 3, none⟩) HMEM.out _⟩⟩
  ·have q1 : ((i : Int) < (len : Int)) = False := eq_false (by omega)
   have q2 : (i < len) = False := eq_false hin
   clear hin
   go_wp2_with fail
   refine bodyPost_end (results_none rfl _ _ _) rfl ?_
   exact ⟨rfl, (Ex.of_below B1.out).trans HX.out⟩
end Go.Proofs.YtpljkcakijkklaaDoor

end
section
namespace Go.Proofs.YtpljkcakijkklaaDoor
set_option linter.unusedVariables false
set_option linter.unusedSimpArgs false
open Go.RowKit Go.Proofs.YtpljkcakijkklaaDoorW.PrintWords Go.Proofs.YtpljkcakijkklaaDoorW.PrintLast Go.Proofs.YtpljkcakijkklaaDoorW.PrintMore

theorem fp_nodup : ∀ {l : List Cr} {k : Cr}, (fpL l).Nodup → k ∈ l → k.fp.Nodup
 | [], _, _, hk => by cases hk
 | a :: t, k, h, hk => by
  rw [fpL, List.nodup_append] at h
  rcases List.mem_cons.1 hk with rfl | hk
  ·exact h.1
  ·exact fp_nodup h.2.1 hk
theorem NewL.get {lo : Nat} {w w' : World} {l : List Cr} {row : List Nat} (h : NewL lo w l row) {x : Cr} (hx : x ∈ l) (hs : w.heap.size ≤ w'.heap.size) (hk : ∀ b ∈ x.fp, w'.heap[b]? = w.heap[b]?) : New lo w' x :=
 ⟨(h.lies x hx).frame hk, fun b hb => ⟨(h.blocks b (fpL_mem hx b hb)).1, Nat.lt_of_lt_of_le (h.blocks b (fpL_mem hx b hb)).2 hs⟩, fun b hb => (h.wr b (fpL_mem hx b hb)).of (hk b hb), fp_nodup h.apart hx, h.zf x hx⟩
def Own (lo : Nat) (w : World) (T : TypeId) (sz : Nat) (v : Value) (n : Nat) : Prop := ∃ xs, w.ownsRow lo T sz v n xs
theorem Own.set {lo : Nat} {w : World} {T : TypeId} {sz : Nat} {v : Value} {n : Nat} (h : Own lo w T sz v n) (g k : Nat) (u : Value) : Own lo (w.setCell ⟨g, k, none⟩ u) T sz v n := by
 obtain ⟨xs, h1, h2⟩ := h
 rcases h2 with h2 | ⟨g', cap, cur, rfl, hb, hg, hnc, hcm, hcs, htake⟩
 ·exact ⟨xs, h1, .inl h2⟩
 ·by_cases e : g' = g
  ·subst e
   refine ⟨(cur.setIfInBounds k u).toList.take (n * sz), ?_, .inr ⟨g', cap, _, rfl, hb, blk_set hg k u, hnc, hcm, by simpa using hcs, rfl⟩⟩
   rw [List.length_take, Array.length_toList, Array.size_setIfInBounds, hcs]
   exact Nat.min_eq_left (Nat.mul_le_mul_right _ hnc)
  ·exact ⟨xs, h1, .inr ⟨g', cap, cur, rfl, hb, blk_far (p := ⟨g, k, none⟩) hg e u, hnc, hcm, hcs, htake⟩⟩
theorem Own.ex {lo : Nat} {w w' : World} {T : TypeId} {sz : Nat} {v : Value} {n : Nat} {ks : List Nat} (h : Own lo w T sz v n) (he : Ex ks w w') (hk : ∀ b, v.ownBlock = some b → b ∉ ks) : Own lo w' T sz v n := by
 obtain ⟨xs, h⟩ := h
 exact ⟨xs, own_ex h he hk⟩
theorem Own.cell {lo : Nat} {w : World} {T : TypeId} {sz : Nat} {a : Option Addr} {n cap : Nat} (h : Own lo w T sz (.slice a n cap) n) {i : Nat} (hi : i < n) : ∃ g, a = some ⟨g, 0, none⟩ ∧ ∀ q, q < sz → (∃ u, w.cell? ⟨g, i * sz + q, none⟩ = some u) ∧ w.frozen? ⟨g, i * sz + q, none⟩ = false := by
 obtain ⟨xs, h1, h2⟩ := h
 rcases h2 with ⟨h2, h0⟩ | ⟨g', cap', cur, e, hb, hg, hnc, hcm, hcs, htake⟩
 ·omega
 ·injection e with e1 e2 e3
  refine ⟨g', e1, fun q hq => ⟨?_, blk_frozen hg _⟩⟩
  have hlt : i * sz + q < cur.size := by
   rw [hcs]
   have : (i + 1) * sz ≤ cap' * sz := Nat.mul_le_mul_right _ (by omega)
   rw [Nat.succ_mul] at this
   omega
  exact ⟨cur[i * sz + q], (blk_cell hg _).trans (Array.getElem?_eq_getElem hlt)⟩
theorem addr_at (g k : Nat) : (⟨g, 0, none⟩ : Addr).add k = ⟨g, k, none⟩ := by
 cases k with
 | zero => rfl
 | succ k => simp [Addr.add]
theorem Ex.of_grown {ks : List Nat} {w w' : World} {row : Option Nat} (h : w.grownBy w' row) (hr : ∀ b, row = some b → b ∈ ks) : Ex ks w w' := ⟨h.os, h.tape, h.output, h.size, fun k hk hn => h.block k hk fun e => hn (hr k e.symm)⟩
theorem own_ne {lo lo' : Nat} {w : World} {T T' : TypeId} {sz sz' : Nat} {v v' : Value} {n n' : Nat} {xs xs' : List Value} (h : w.ownsRow lo T sz v n xs) (h' : w.ownsRow lo' T' sz' v' n' xs') (hT : T ≠ T') : v.ownBlock = none ∨ v.ownBlock ≠ v'.ownBlock := by
 rcases h.2 with ⟨rfl, -⟩ | ⟨g, cap, cur, rfl, -, hg, -⟩
 ·exact .inl rfl
 ·right
  intro e
  rcases h'.2 with ⟨rfl, -⟩ | ⟨g', cap', cur', rfl, -, hg', -⟩
  ·cases e
  ·injection e with e
   have e : g = g' := e
   subst e
   rw [hg] at hg'
   injection hg' with hg'
   injection hg' with h1 h2
   exact hT h2
theorem own_form {lo : Nat} {w : World} {T : TypeId} {sz : Nat} {v : Value} {n : Nat} {xs : List Value} (h : w.ownsRow lo T sz v (n + 1) xs) : ∃ g cap, v = .slice (some ⟨g, 0, none⟩) (n + 1) cap := by
 rcases h.2 with ⟨-, h0⟩ | ⟨g, cap, cur, e, -⟩
 ·omega
 ·exact ⟨g, cap, e⟩
structure Rows4 (lo : Nat) (q : PlanS) (w : World) : Prop where
 m : Own lo w 9 1 (.slice q.ma q.mets.length q.mcap) q.mets.length
 w_ : Own lo w 62 4 (.slice q.wa q.wins.length q.wcap) q.wins.length
 c : Own lo w 65 5 (.slice q.ca q.crons.length q.ccap) q.crons.length
 g : Own lo w 60 8 (.slice q.ga q.guards.length q.gcap) q.guards.length
theorem Rows4.set {lo : Nat} {q : PlanS} {w : World} (h : Rows4 lo q w) (g k : Nat) (u : Value) : Rows4 lo q (w.setCell ⟨g, k, none⟩ u) := ⟨h.m.set g k u, h.w_.set g k u, h.c.set g k u, h.g.set g k u⟩
theorem NewP.rows4 {lo : Nat} {q : PlanS} {w : World} (h : NewP lo w q) : Rows4 lo q w := ⟨⟨_, h.mets⟩, ⟨_, h.wins⟩, ⟨_, h.crons⟩, ⟨_, h.guards⟩⟩
theorem rows_m {q : PlanS} {b : Nat} (h : (Value.slice q.ma q.mets.length q.mcap).ownBlock = some b) : b ∈ q.rows := List.mem_append_left _ (rowB_of h)
theorem rows_w {q : PlanS} {b : Nat} (h : (Value.slice q.wa q.wins.length q.wcap).ownBlock = some b) : b ∈ q.rows := List.mem_append_right _ (List.mem_append_left _ (rowB_of h))
theorem rows_c {q : PlanS} {b : Nat} (h : (Value.slice q.ca q.crons.length q.ccap).ownBlock = some b) : b ∈ q.rows := List.mem_append_right _ (List.mem_append_right _ (List.mem_append_left _ (rowB_of h)))
theorem rows_g {q : PlanS} {b : Nat} (h : (Value.slice q.ga q.guards.length q.gcap).ownBlock = some b) : b ∈ q.rows := List.mem_append_right _ (List.mem_append_right _ (List.mem_append_right _ (rowB_of h)))
theorem Rows4.ex {lo : Nat} {q : PlanS} {w w' : World} {ks : List Nat} (h : Rows4 lo q w) (he : Ex ks w w') (hk : ∀ b ∈ q.rows, b ∉ ks) : Rows4 lo q w' :=
 ⟨h.m.ex he fun b hb => hk b (rows_m hb), h.w_.ex he fun b hb => hk b (rows_w hb), h.c.ex he fun b hb => hk b (rows_c hb), h.g.ex he fun b hb => hk b (rows_g hb)⟩
theorem NewP.row_in {lo : Nat} {w : World} {q : PlanS} (h : NewP lo w q) {b : Nat} (hb : b ∈ q.rows) : lo ≤ b ∧ b < w.heap.size := by
 unfold PlanS.rows at hb
 rcases List.mem_append.1 hb with hb | hb
 ·exact h.mets.lt b (rowB_mem hb)
 ·rcases List.mem_append.1 hb with hb | hb
  ·exact h.wins.lt b (rowB_mem hb)
  ·rcases List.mem_append.1 hb with hb | hb
   ·exact h.crons.lt b (rowB_mem hb)
   ·exact h.guards.lt b (rowB_mem hb)
theorem NewP.ex {lo : Nat} {w w' : World} {q : PlanS} {ks : List Nat} (h : NewP lo w q) (he : Ex ks w w') (hk : ∀ b ∈ ks, b < lo ∨ w.heap.size ≤ b) : NewP lo w' q where
 mets := own_ex h.mets he fun b hb hm => by have := h.mets.lt b hb; have := hk b hm; omega
 wins := own_ex h.wins he fun b hb hm => by have := h.wins.lt b hb; have := hk b hm; omega
 crons := own_ex h.crons he fun b hb hm => by have := h.crons.lt b hb; have := hk b hm; omega
 guards := own_ex h.guards he fun b hb hm => by have := h.guards.lt b hb; have := hk b hm; omega
 cores := h.cores.ex he fun b hb hm => by have := h.cores.blocks b hm; have := hk b hb; omega
theorem NewP.below {lo : Nat} {w w' : World} {q : PlanS} (h : NewP lo w q) (hb : Below w.heap.size w w') : NewP lo w' q := h.ex (ks := []) (Ex.of_below hb) fun b hb => by cases hb
def PlanS.foot (q : PlanS) : List Nat := fpL q.cores ++ q.rows
theorem NewP.foot_in {lo : Nat} {w : World} {q : PlanS} (h : NewP lo w q) {b : Nat} (hb : b ∈ q.foot) : lo ≤ b ∧ b < w.heap.size := by
 unfold PlanS.foot at hb
 rcases List.mem_append.1 hb with hb | hb
 ·exact h.cores.blocks b hb
 ·exact h.row_in hb
theorem CoreCopies_lies {p : PlanS} {w : World} (h : PlanL w p) (ht : ErrT w) : Calls Tryd.prog 5 #[.agg #[.slice p.ma p.mets.length p.mcap, .int .i64 p.r0, .int .i64 p.r1, .int .i64 p.r2, .int .i64 p.r3, .int .i64 p.r4, .slice p.wa p.wins.length p.wcap, .slice p.ca p.crons.length p.ccap, .int .i64 p.locals, .slice p.ga p.guards.length p.gcap, .int .i64 p.fin.op, .int .i64 p.fin.n, .int .i64 p.fin.m, .slice p.fin.at_ p.fin.kids.length p.fin.cap]] w fun e w' => e = .returned (.bool true) ∧ Below w.heap.size w w' := by
 obtain ⟨i0, hi, hz0, hz1, hz2⟩ := guard_info
 obtain ⟨i1, hj, hy0, hy1, hy2⟩ := wins_info
 obtain ⟨w1, e1, b1, k1, s1⟩ := box1 w (.cells #[.slice p.ma p.mets.length p.mcap, .int .i64 p.r0, .int .i64 p.r1, .int .i64 p.r2, .int .i64 p.r3, .int .i64 p.r4, .slice p.wa p.wins.length p.wcap, .slice p.ca p.crons.length p.ccap, .int .i64 p.locals, .slice p.ga p.guards.length p.gcap, .int .i64 p.fin.op, .int .i64 p.fin.n, .int .i64 p.fin.m, .slice p.fin.at_ p.fin.kids.length p.fin.cap] 53)
 have HE := Lib.hid e1
 have B1 := Lib.hid b1
 have HP := Lib.hid h
 have HT := Lib.hid ht
 obtain ⟨gP, hgP⟩ : ∃ g, w.heap.size = g := ⟨_, rfl⟩
 rw [hgP] at k1
 have K1 := Lib.hid k1
 have HGP := Lib.hid hgP
 have HS1 := Lib.hid (show gP < w1.heap.size by omega)
 clear h ht e1 b1 k1 s1 hgP
 go_enter Tryd.func5, Tryd.ntmps5
 go_wp2_with fail
 rw [HE.out]
 try rw [HGP.out]
 refine (awake15 w1 (HT.out.below B1.out)).mono ?_
 rintro e w2 ⟨rfl, b2⟩
 have B2 := Lib.hid (B1.out.trans (b2.mono B1.out.size))
 have K2 := Lib.hid (blk_below K1.out b2)
 obtain ⟨⟨x0, x1, x2, x3, x4, x5, x6, x7, x8, x9, x10, x11, x12, x13⟩, -⟩ := plan_at K2.out
 clear b2 K1
 go_wp2_with fail
 refine (few_calls (HP.out.below B2.out)).mono ?_
 rintro e w3 ⟨⟨fb, rfl⟩, b3⟩
 have B3 := Lib.hid (B2.out.trans (b3.mono B2.out.size))
 have K3 := Lib.hid (blk_below K2.out b3)
 clear b3 x0 x1 x2 x3 x4 x5 x6 x7 x8 x9 x10 x11 x12 x13 K2
 cases fb with
 | false =>
  go_wp2_with fail
  refine (awake15 w3 (HT.out.below B3.out)).mono ?_
  rintro e w4 ⟨rfl, b4⟩
  go_wp2_with fail
  go_ret
  exact ⟨rfl, B3.out.trans (b4.mono B3.out.size)⟩
 | true =>
  obtain ⟨⟨x0, x1, x2, x3, x4, x5, x6, x7, x8, x9, x10, x11, x12, x13⟩, -⟩ := plan_at K3.out
  have HG3 := Lib.hid (blk_lt K3.out)
  go_wp2_with fail
  refine (copy_calls (HP.out.below B3.out)).mono ?_
  clear x0 x1 x2 x3 x4 x5 x6 x7 x8 x9 x10 x11 x12 x13
  rintro e w4 ⟨⟨qa, rfl, hsa, hna⟩, b4⟩
  have HSA := Lib.hid hsa
  have HNA := Lib.hid hna
  have B4 := Lib.hid (B3.out.trans (b4.mono B3.out.size))
  have HS34 := Lib.hid b4.size
  have K4 := Lib.hid (blk_below K3.out b4)
  clear hsa hna b4 K3
  obtain ⟨w5, e5, b5, k5, s5⟩ := box1 w4 (.cells #[.slice qa.ma qa.mets.length qa.mcap, .int .i64 qa.r0, .int .i64 qa.r1, .int .i64 qa.r2, .int .i64 qa.r3, .int .i64 qa.r4, .slice qa.wa qa.wins.length qa.wcap, .slice qa.ca qa.crons.length qa.ccap, .int .i64 qa.locals, .slice qa.ga qa.guards.length qa.gcap, .int .i64 qa.fin.op, .int .i64 qa.fin.n, .int .i64 qa.fin.m, .slice qa.fin.at_ qa.fin.kids.length qa.fin.cap] 53)
  have HE5 := Lib.hid e5
  have B5 := Lib.hid (B4.out.trans (b5.mono B4.out.size))
  have K5 := Lib.hid (blk_below K4.out b5)
  obtain ⟨gA, hgA⟩ : ∃ g, w4.heap.size = g := ⟨_, rfl⟩
  rw [hgA] at k5
  have KA5 := Lib.hid k5
  have HNA5 := Lib.hid (HNA.out.below b5)
  have HGA := Lib.hid (show gA + 1 = w5.heap.size ∧ gP < gA ∧ w3.heap.size ≤ gA by have := blk_lt K4.out; have := hgA; have := s5; have := B4.out.size; have := HG3.out; exact ⟨by omega, by omega, by rw [← hgA]; exact HS34.out⟩)
  have HGA4 := Lib.hid hgA
  obtain ⟨⟨x0, x1, x2, x3, x4, x5, x6, x7, x8, x9, x10, x11, x12, x13⟩, -⟩ := plan_at K4.out
  have l0 : gP < w4.heap.size := blk_lt K4.out
  have n0 : ¬ gP = w4.heap.size := by omega
  have n1 : ¬ w4.heap.size = gP := by omega
  clear e5 b5 k5 s5 hgA
  go_wp2_with fail
  rw [HE5.out]
  try rw [HGA4.out]
  clear x0 x1 x2 x3 x4 x5 x6 x7 x8 x9 x10 x11 x12 x13 n0 n1 l0
  obtain ⟨⟨x0, x1, x2, x3, x4, x5, x6, x7, x8, x9, x10, x11, x12, x13⟩, -⟩ := plan_at K5.out
  go_wp2_with fail
  refine (copy_calls (HP.out.below B5.out)).mono ?_
  clear x0 x1 x2 x3 x4 x5 x6 x7 x8 x9 x10 x11 x12 x13
  rintro e w6 ⟨⟨qb, rfl, hsb, hnb⟩, b6⟩
  have HSB := Lib.hid hsb
  have HNB := Lib.hid hnb
  have B6 := Lib.hid (B5.out.trans (b6.mono B5.out.size))
  have HS56 := Lib.hid b6.size
  have K6 := Lib.hid (blk_below K5.out b6)
  have KA6 := Lib.hid (blk_below KA5.out b6)
  have HNA6 := Lib.hid (HNA5.out.below b6)
  clear hsb hnb b6 K5 KA5
  obtain ⟨w7, e7, b7, k7, s7⟩ := box1 w6 (.cells #[.slice qb.ma qb.mets.length qb.mcap, .int .i64 qb.r0, .int .i64 qb.r1, .int .i64 qb.r2, .int .i64 qb.r3, .int .i64 qb.r4, .slice qb.wa qb.wins.length qb.wcap, .slice qb.ca qb.crons.length qb.ccap, .int .i64 qb.locals, .slice qb.ga qb.guards.length qb.gcap, .int .i64 qb.fin.op, .int .i64 qb.fin.n, .int .i64 qb.fin.m, .slice qb.fin.at_ qb.fin.kids.length qb.fin.cap] 53)
  have HE7 := Lib.hid e7
  have B7 := Lib.hid (B6.out.trans (b7.mono B6.out.size))
  have K7 := Lib.hid (blk_below K6.out b7)
  have KA7 := Lib.hid (blk_below KA6.out b7)
  obtain ⟨gB, hgB⟩ : ∃ g, w6.heap.size = g := ⟨_, rfl⟩
  rw [hgB] at k7
  have KB7 := Lib.hid k7
  have HNA7 := Lib.hid (HNA6.out.below b7)
  have HNB7 := Lib.hid (HNB.out.below b7)
  have HGB := Lib.hid (show gB + 1 = w7.heap.size ∧ w5.heap.size ≤ gB from ⟨by omega, by rw [← hgB]; exact HS56.out⟩)
  have HGB6 := Lib.hid hgB
  obtain ⟨⟨x0, x1, x2, x3, x4, x5, x6, x7, x8, x9, x10, x11, x12, x13⟩, -⟩ := plan_at K6.out
  obtain ⟨⟨y0, y1, y2, y3, y4, y5, y6, y7, y8, y9, y10, y11, y12, y13⟩, -⟩ := plan_at KA6.out
  have l0 : gP < w6.heap.size := blk_lt K6.out
  have l1 : gA < w6.heap.size := blk_lt KA6.out
  have n0 : ¬ gP = w6.heap.size := by omega
  have n1 : ¬ w6.heap.size = gP := by omega
  have n2 : ¬ gA = w6.heap.size := by omega
  have n3 : ¬ w6.heap.size = gA := by omega
  clear e7 b7 k7 s7 hgB
  go_wp2_with fail
  rw [HE7.out]
  try rw [HGB6.out]
  clear x0 x1 x2 x3 x4 x5 x6 x7 x8 x9 x10 x11 x12 x13 y0 y1 y2 y3 y4 y5 y6 y7 y8 y9 y10 y11 y12 y13 n0 n1 n2 n3 l0 l1
  refine (samePlan_calls (HNA7.out.planL HSA.out HP.out) (HP.out.below B7.out) HSA.out).mono ?_
  rintro e w8 ⟨rfl, b8⟩
  have B8 := Lib.hid (B7.out.trans (b8.mono B7.out.size))
  have HS78 := Lib.hid b8.size
  have K8 := Lib.hid (blk_below K7.out b8)
  have KA8 := Lib.hid (blk_below KA7.out b8)
  have KB8 := Lib.hid (blk_below KB7.out b8)
  have HNA8 := Lib.hid (HNA7.out.below b8)
  have HNB8 := Lib.hid (HNB7.out.below b8)
  obtain ⟨⟨x0, x1, x2, x3, x4, x5, x6, x7, x8, x9, x10, x11, x12, x13⟩, -⟩ := plan_at K8.out
  obtain ⟨⟨y0, y1, y2, y3, y4, y5, y6, y7, y8, y9, y10, y11, y12, y13⟩, -⟩ := plan_at KB8.out
  clear b8 K7 KA7 KB7 HNA7 HNB7
  go_wp2_with fail
  clear x0 x1 x2 x3 x4 x5 x6 x7 x8 x9 x10 x11 x12 x13 y0 y1 y2 y3 y4 y5 y6 y7 y8 y9 y10 y11 y12 y13
  refine (samePlan_calls (HNB8.out.planL HSB.out HP.out) (HP.out.below B8.out) HSB.out).mono ?_
  rintro e w9 ⟨rfl, b9⟩
  have B9 := Lib.hid (B8.out.trans (b9.mono B8.out.size))
  have HS89 := Lib.hid b9.size
  have K9 := Lib.hid (blk_below K8.out b9)
  have KA9 := Lib.hid (blk_below KA8.out b9)
  have KB9 := Lib.hid (blk_below KB8.out b9)
  have HNA9 := Lib.hid (HNA8.out.below b9)
  have HNB9 := Lib.hid (HNB8.out.below b9)
  obtain ⟨⟨x0, x1, x2, x3, x4, x5, x6, x7, x8, x9, x10, x11, x12, x13⟩, -⟩ := plan_at KA9.out
  clear b9 K8 KA8 KB8 HNA8 HNB8
  go_wp2_with fail
  clear x0 x1 x2 x3 x4 x5 x6 x7 x8 x9 x10 x11 x12 x13
  refine (copy_calls (HNA9.out.planL HSA.out HP.out)).mono ?_
  rintro e w10 ⟨⟨qc, rfl, hsc, hnc⟩, b10⟩
  have HSC := Lib.hid (hsc.trans HSA.out)
  have HNC := Lib.hid hnc
  have B10 := Lib.hid (B9.out.trans (b10.mono B9.out.size))
  have HS910 := Lib.hid b10.size
  have K10 := Lib.hid (blk_below K9.out b10)
  have KA10 := Lib.hid (blk_below KA9.out b10)
  have KB10 := Lib.hid (blk_below KB9.out b10)
  have HNA10 := Lib.hid (HNA9.out.below b10)
  have HNB10 := Lib.hid (HNB9.out.below b10)
  clear hsc hnc b10 K9 KA9 KB9 HNA9 HNB9
  obtain ⟨w11, e11, b11, k11, s11⟩ := box1 w10 (.cells #[.slice qc.ma qc.mets.length qc.mcap, .int .i64 qc.r0, .int .i64 qc.r1, .int .i64 qc.r2, .int .i64 qc.r3, .int .i64 qc.r4, .slice qc.wa qc.wins.length qc.wcap, .slice qc.ca qc.crons.length qc.ccap, .int .i64 qc.locals, .slice qc.ga qc.guards.length qc.gcap, .int .i64 qc.fin.op, .int .i64 qc.fin.n, .int .i64 qc.fin.m, .slice qc.fin.at_ qc.fin.kids.length qc.fin.cap] 53)
  have HE11 := Lib.hid e11
  have B11 := Lib.hid (B10.out.trans (b11.mono B10.out.size))
  have K11 := Lib.hid (blk_below K10.out b11)
  have KA11 := Lib.hid (blk_below KA10.out b11)
  have KB11 := Lib.hid (blk_below KB10.out b11)
  obtain ⟨gC, hgC⟩ : ∃ g, w10.heap.size = g := ⟨_, rfl⟩
  rw [hgC] at k11
  have KC11 := Lib.hid k11
  have HNA11 := Lib.hid (HNA10.out.below b11)
  have HNB11 := Lib.hid (HNB10.out.below b11)
  have HNC11 := Lib.hid (HNC.out.below b11)
  have HGC := Lib.hid (show gC + 1 = w11.heap.size ∧ w9.heap.size ≤ gC from ⟨by omega, by rw [← hgC]; exact HS910.out⟩)
  have HGC10 := Lib.hid hgC
  obtain ⟨⟨x0, x1, x2, x3, x4, x5, x6, x7, x8, x9, x10, x11, x12, x13⟩, -⟩ := plan_at KA10.out
  have l0 : gA < w10.heap.size := blk_lt KA10.out
  have n0 : ¬ gA = w10.heap.size := by omega
  have n1 : ¬ w10.heap.size = gA := by omega
  clear e11 b11 k11 s11 hgC
  go_wp2_with fail
  rw [HE11.out]
  try rw [HGC10.out]
  clear x0 x1 x2 x3 x4 x5 x6 x7 x8 x9 x10 x11 x12 x13 n0 n1 l0
  refine (rcores_new (HNA11.out.planL HSA.out HP.out)).mono ?_
  rintro e w12 ⟨⟨A, cl, rfl, hL, hcl, hAq⟩, b12⟩
  have B12 := Lib.hid (B11.out.trans (b12.mono B11.out.size))
  have HS1112 := Lib.hid b12.size
  have K12 := Lib.hid (blk_below K11.out b12)
  have KA12 := Lib.hid (blk_below KA11.out b12)
  have KB12 := Lib.hid (blk_below KB11.out b12)
  have KC12 := Lib.hid (blk_below KC11.out b12)
  have HNA12 := Lib.hid (HNA11.out.below b12)
  have HNB12 := Lib.hid (HNB11.out.below b12)
  have HNC12 := Lib.hid (HNC11.out.below b12)
  have HSZ := Lib.hid (show gP < w3.heap.size ∧ w3.heap.size ≤ w4.heap.size ∧ w4.heap.size = gA ∧ gA + 1 = w5.heap.size ∧ w5.heap.size ≤ w6.heap.size ∧ w6.heap.size = gB ∧ gB + 1 = w7.heap.size ∧ w7.heap.size ≤ w8.heap.size ∧ w8.heap.size ≤ w9.heap.size ∧ w9.heap.size ≤ w10.heap.size ∧ w10.heap.size = gC ∧ gC + 1 = w11.heap.size ∧ w11.heap.size ≤ w12.heap.size from
   ⟨HG3.out, HS34.out, HGA4.out, HGA.out.1, HS56.out, HGB6.out, HGB.out.1, HS78.out, HS89.out, HS910.out, HGC10.out, HGC.out.1, HS1112.out⟩)
  have hlen := cores_len (HNA11.out.planL HSA.out HP.out)
  obtain ⟨l, hl⟩ : ∃ l, qa.cores = l := ⟨_, rfl⟩
  have HLQ := Lib.hid hl
  have hcn := HNA.out.cores
  have HFT := Lib.hid (fun b (hb : b ∈ qa.foot) => HNA.out.foot_in hb)
  have HCO := Lib.hid HNA12.out.cores
  rw [hl] at hL hlen HCO ⊢
  have HFI := Lib.hid (fun b (hb : b ∈ fpL l) => HFT.out b (by rw [← hl] at hb; exact List.mem_append_left _ hb))
  obtain ⟨len, hln⟩ : ∃ n, l.length = n := ⟨_, rfl⟩
  have HLN := Lib.hid hln
  have HL := Lib.hid hL
  have HAQ := Lib.hid hAq
  have HLIM := Lib.hid hlen
  rw [hln] at HLIM ⊢
  clear b12 hL hcl hAq hlen hl hcn hln K10 K11 KA10 KA11 KB10 KB11 KC11 HNA10 HNA11 HNB10 HNB11 HNC11 HG3 HS34 HGA4 HGA HS56 HGB6 HGB HS78 HS89 HS910 HGC10 HGC HS1112 HE HE5 HE7 HE11 HNA5 HNA6 HNB HNC
  go_wp2_with fail
  go_loopg [7] len (fun gg v wr => ∃ i : Nat, v = .int .i64 i ∧ Aside0 (i + gg = len) ∧ Aside0 (∀ (j : Nat) c, i ≤ j → l[j]? = some c → ∀ b ∈ c.fp, wr.heap[b]? = w12.heap[b]?) ∧ Aside0 (Ex (fpL l) w12 wr))
  case atStart => exact ⟨0, rfl, ⟨by omega⟩, ⟨fun j c _ _ b _ => rfl⟩, ⟨Ex.refl _ _⟩⟩
  case round =>
   obtain ⟨i, rfl, hi, hQ, hX⟩ := hrel
   have HI := Lib.hid hi.out
   have HQ := Lib.hid hQ.out
   have HX := Lib.hid hX.out
   clear hi hQ hX
   by_cases hin : i < len
   ·obtain ⟨x, hx⟩ : ∃ x, l[i]? = some x := ⟨_, List.getElem?_eq_getElem (by rw [HLN.out]; exact hin)⟩
    obtain ⟨b, rfl, hblk, c0, c1, c2, c3⟩ := HL.out.cellsB (Below.refl _ _) hx
    have hab : w11.heap.size ≤ (b.add (i * 4)).block := by rw [add_block]; exact HAQ.out b rfl
    have e : wr.heap[(b.add (i * 4)).block]? = w12.heap[(b.add (i * 4)).block]? := HX.out.block _ hblk fun hm => by
     have := HFI.out _ hm
     have := HSZ.out
     omega
    have d0 := (World.cell?_of_block (a := b.add (i * 4)) e).trans c0
    have d1 := (World.cell?_of_block (a := ⟨(b.add (i * 4)).block, (b.add (i * 4)).off + 1, none⟩) e).trans c1
    have d2 := (World.cell?_of_block (a := ⟨(b.add (i * 4)).block, (b.add (i * 4)).off + 2, none⟩) e).trans c2
    have d3 := (World.cell?_of_block (a := ⟨(b.add (i * 4)).block, (b.add (i * 4)).off + 3, none⟩) e).trans c3
    have HNX := Lib.hid (HCO.out.get (List.mem_of_getElem? hx) HX.out.size (HQ.out i x (Nat.le_refl _) hx))
    have q0 := eq_true (show (0 : Int) ≤ (i : Int) by omega)
    have q1 : ((i : Int) < (len : Int)) = True := eq_true (by omega)
    have q2 : (i < len) = True := eq_true hin
    have w5' : wrap64 ((i : Int) + 1) = ((i + 1 : Nat) : Int) := by have := HLIM.out; unfold wrap64; omega
    have HXI := Lib.hid hx
    have HLT := Lib.hid hin
    clear hx c0 c1 c2 c3 hblk hab e hin
    go_wp2_with fail
    refine (spoil_calls x _ _ HNX.out).mono ?_
    rintro e w13 ⟨rfl, he⟩
    have HE13 := Lib.hid he
    clear he d0 d1 d2 d3
    go_wp2_with fail
    go_roundg (gk - 1)
    case measure => clear w5'; have := HI.out; have := HLT.out; omega
    case rel => exact ⟨i + 1, by first | rfl | simp [w5'], ⟨by clear w5'; have := HI.out; have := HLT.out; omega⟩, ⟨fun j c hj hc b hb => by
     rw [← HQ.out j c (by omega) hc b hb]
     exact HE13.out.block b (Nat.lt_of_lt_of_le (HCO.out.blocks b (fpL_mem (List.mem_of_getElem? hc) b hb)).2 HX.out.size) fun hm => fpL_apart HCO.out.apart hj HXI.out hc b hm hb⟩,
     ⟨HX.out.trans (HE13.out.mono fun b hb => fpL_mem (List.mem_of_getElem? HXI.out) b hb)⟩⟩
   ·have q1 : ((i : Int) < (len : Int)) = False := eq_false (by omega)
    have q2 : (i < len) = False := eq_false hin
    have HXF := Lib.hid (show Ex qa.foot w12 wr from HX.out.mono fun b hb => by rw [← HLQ.out] at hb; exact List.mem_append_left _ hb)
    have HR4 := Lib.hid (HNA12.out.rows4.ex HX.out fun b hb hm => HCO.out.row b hb hm)
    have KAr := Lib.hid ((HXF.out.block gA (blk_lt KA12.out) fun hm => by have := HFT.out _ hm; have := HSZ.out; omega).trans KA12.out)
    obtain ⟨⟨x0, x1, x2, x3, x4, x5, x6, x7, x8, x9, x10, x11, x12, x13⟩, -⟩ := plan_at KAr.out
    have HGR := Lib.hid ((HP.out.below B12.out).guards.2.1)
    clear hin
    go_wp2_with fail
    clear x0 x1 x2 x3 x4 x5 x6 x7 x8 x9 x10 x11 x12 x13 q1 q2 HQ HI HX
    have HLNg := Lib.hid (show qa.guards.length ≤ 4398046511104 from Nat.le_trans (HNA12.out.planL HSA.out HP.out).guards.2.1 (by decide))
    have HLNw_ := Lib.hid (show qa.wins.length ≤ 4398046511104 from Nat.le_trans (HNA12.out.planL HSA.out HP.out).wins.2.1 (by decide))
    have HLNc := Lib.hid (show qa.crons.length ≤ 4398046511104 from Nat.le_trans (HNA12.out.planL HSA.out HP.out).crons.2.1 (by decide))
    have HLNm := Lib.hid (show qa.mets.length ≤ 8796093022208 from Nat.le_trans (HNA12.out.planL HSA.out HP.out).mets.2.1 (by decide))
    have HLMg := Lib.hid (HNA12.out.planL HSA.out HP.out).guards.2.1
    have HLMw := Lib.hid (HNA12.out.planL HSA.out HP.out).wins.2.1
    clear KAr HGR
    go_loopg [8] qa.guards.length (fun gg v wr => ∃ i : Nat, v = .int .i64 i ∧ Aside0 (i + gg = qa.guards.length) ∧ Aside0 (Rows4 w3.heap.size qa wr ∧ Ex qa.foot w12 wr))
    case atStart => exact ⟨0, rfl, ⟨by omega⟩, ⟨HR4.out, HXF.out⟩⟩
    case round =>
     obtain ⟨i, rfl, hi, hQ⟩ := hrel
     have HI := Lib.hid hi.out
     have HR := Lib.hid hQ.out.1
     have HX := Lib.hid hQ.out.2
     clear hi hQ HXF HR4
     have KAr := Lib.hid ((HX.out.block gA (blk_lt KA12.out) fun hm => by have := HFT.out _ hm; have := HSZ.out; omega).trans KA12.out)
     obtain ⟨⟨x0, x1, x2, x3, x4, x5, x6, x7, x8, x9, x10, x11, x12, x13⟩, -⟩ := plan_at KAr.out
     by_cases hin : i < qa.guards.length
     ·obtain ⟨g, ea, hc⟩ := HR.out.g.cell hin
      have HGM := Lib.hid (show g ∈ qa.foot from List.mem_append_right _ (rows_g (by rw [ea]; rfl)))
      rw [ea] at x9
      obtain ⟨⟨u0, hu0⟩, hf0⟩ := hc 0 (by decide)
      obtain ⟨⟨u1, hu1⟩, hf1⟩ := hc 1 (by decide)
      obtain ⟨⟨u2, hu2⟩, hf2⟩ := hc 2 (by decide)
      obtain ⟨⟨u3, hu3⟩, hf3⟩ := hc 3 (by decide)
      obtain ⟨⟨u4, hu4⟩, hf4⟩ := hc 4 (by decide)
      obtain ⟨⟨u5, hu5⟩, hf5⟩ := hc 5 (by decide)
      obtain ⟨⟨u6, hu6⟩, hf6⟩ := hc 6 (by decide)
      obtain ⟨⟨u7, hu7⟩, hf7⟩ := hc 7 (by decide)
      have c0 : wr.cell? ⟨g, i * 8, none⟩ = some u0 := hu0
      have f0 : wr.frozen? ⟨g, i * 8, none⟩ = false := hf0
      have c1 : wr.cell? ⟨g, i * 8 + 1, none⟩ = some u1 := hu1
      have f1 : wr.frozen? ⟨g, i * 8 + 1, none⟩ = false := hf1
      have c2 : wr.cell? ⟨g, i * 8 + 2, none⟩ = some u2 := hu2
      have f2 : wr.frozen? ⟨g, i * 8 + 2, none⟩ = false := hf2
      have c3 : wr.cell? ⟨g, i * 8 + 3, none⟩ = some u3 := hu3
      have f3 : wr.frozen? ⟨g, i * 8 + 3, none⟩ = false := hf3
      have c4 : wr.cell? ⟨g, i * 8 + 4, none⟩ = some u4 := hu4
      have f4 : wr.frozen? ⟨g, i * 8 + 4, none⟩ = false := hf4
      have c5 : wr.cell? ⟨g, i * 8 + 5, none⟩ = some u5 := hu5
      have f5 : wr.frozen? ⟨g, i * 8 + 5, none⟩ = false := hf5
      have c6 : wr.cell? ⟨g, i * 8 + 6, none⟩ = some u6 := hu6
      have f6 : wr.frozen? ⟨g, i * 8 + 6, none⟩ = false := hf6
      have c7 : wr.cell? ⟨g, i * 8 + 7, none⟩ = some u7 := hu7
      have f7 : wr.frozen? ⟨g, i * 8 + 7, none⟩ = false := hf7
      have haz : (⟨g, 0, none⟩ : Addr).add (i * 8) = ⟨g, i * 8, none⟩ := addr_at _ _
      have q0 := eq_true (show (0 : Int) ≤ (i : Int) by omega)
      have q1 : ((i : Int) < (qa.guards.length : Int)) = True := eq_true (by omega)
      have q2 : (i < qa.guards.length) = True := eq_true hin
      have w5' : wrap64 ((i : Int) + 1) = ((i + 1 : Nat) : Int) := by have := HLNg.out; unfold wrap64; omega
      have HLT := Lib.hid hin
      clear hc hin ea hu0 hf0 hu1 hf1 hu2 hf2 hu3 hf3 hu4 hf4 hu5 hf5 hu6 hf6 hu7 hf7
      go_wp2_with fail
      go_roundg (gk - 1)
      case measure => clear w5'; have := HI.out; have := HLT.out; omega
      case rel => exact ⟨i + 1, by first | rfl | simp [w5'], ⟨by clear w5'; have := HI.out; have := HLT.out; omega⟩, ⟨((((((((HR.out.set g (i * 8) _).set g (i * 8 + 1) _).set g (i * 8 + 2) _).set g (i * 8 + 3) _).set g (i * 8 + 4) _).set g (i * 8 + 5) _).set g (i * 8 + 6) _).set g (i * 8 + 7) _), ((((((((HX.out.set (p := ⟨g, i * 8, none⟩) HGM.out _).set (p := ⟨g, i * 8 + 1, none⟩) HGM.out _).set (p := ⟨g, i * 8 + 2, none⟩) HGM.out _).set (p := ⟨g, i * 8 + 3, none⟩) HGM.out _).set (p := ⟨g, i * 8 + 4, none⟩) HGM.out _).set (p := ⟨g, i * 8 + 5, none⟩) HGM.out _).set (p := ⟨g, i * 8 + 6, none⟩) HGM.out _).set (p := ⟨g, i * 8 + 7, none⟩) HGM.out _)⟩⟩
     ·have q1 : ((i : Int) < (qa.guards.length : Int)) = False := eq_false (by omega)
      have q2 : (i < qa.guards.length) = False := eq_false hin
      have HXF := Lib.hid HX.out
      have HR4 := Lib.hid HR.out
      clear hin
      go_wp2_with fail
      clear x0 x1 x2 x3 x4 x5 x6 x7 x8 x9 x10 x11 x12 x13 q1 q2 HX HR HI
      go_loopg [9] qa.wins.length (fun gg v wr => ∃ i : Nat, v = .int .i64 i ∧ Aside0 (i + gg = qa.wins.length) ∧ Aside0 (Rows4 w3.heap.size qa wr ∧ Ex qa.foot w12 wr))
      case atStart => exact ⟨0, rfl, ⟨by omega⟩, ⟨HR4.out, HXF.out⟩⟩
      case round =>
       obtain ⟨i, rfl, hi, hQ⟩ := hrel
       have HI := Lib.hid hi.out
       have HR := Lib.hid hQ.out.1
       have HX := Lib.hid hQ.out.2
       clear hi hQ HXF HR4
       have KAr := Lib.hid ((HX.out.block gA (blk_lt KA12.out) fun hm => by have := HFT.out _ hm; have := HSZ.out; omega).trans KA12.out)
       obtain ⟨⟨x0, x1, x2, x3, x4, x5, x6, x7, x8, x9, x10, x11, x12, x13⟩, -⟩ := plan_at KAr.out
       by_cases hin : i < qa.wins.length
       ·obtain ⟨g, ea, hc⟩ := HR.out.w_.cell hin
        have HGM := Lib.hid (show g ∈ qa.foot from List.mem_append_right _ (rows_w (by rw [ea]; rfl)))
        rw [ea] at x6
        obtain ⟨⟨u0, hu0⟩, hf0⟩ := hc 0 (by decide)
        obtain ⟨⟨u1, hu1⟩, hf1⟩ := hc 1 (by decide)
        obtain ⟨⟨u2, hu2⟩, hf2⟩ := hc 2 (by decide)
        obtain ⟨⟨u3, hu3⟩, hf3⟩ := hc 3 (by decide)
        have c0 : wr.cell? ⟨g, i * 4, none⟩ = some u0 := hu0
        have f0 : wr.frozen? ⟨g, i * 4, none⟩ = false := hf0
        have c1 : wr.cell? ⟨g, i * 4 + 1, none⟩ = some u1 := hu1
        have f1 : wr.frozen? ⟨g, i * 4 + 1, none⟩ = false := hf1
        have c2 : wr.cell? ⟨g, i * 4 + 2, none⟩ = some u2 := hu2
        have f2 : wr.frozen? ⟨g, i * 4 + 2, none⟩ = false := hf2
        have c3 : wr.cell? ⟨g, i * 4 + 3, none⟩ = some u3 := hu3
        have f3 : wr.frozen? ⟨g, i * 4 + 3, none⟩ = false := hf3
        have haz : (⟨g, 0, none⟩ : Addr).add (i * 4) = ⟨g, i * 4, none⟩ := addr_at _ _
        have q0 := eq_true (show (0 : Int) ≤ (i : Int) by omega)
        have q1 : ((i : Int) < (qa.wins.length : Int)) = True := eq_true (by omega)
        have q2 : (i < qa.wins.length) = True := eq_true hin
        have w5' : wrap64 ((i : Int) + 1) = ((i + 1 : Nat) : Int) := by have := HLNw_.out; unfold wrap64; omega
        have HLT := Lib.hid hin
        clear hc hin ea hu0 hf0 hu1 hf1 hu2 hf2 hu3 hf3
        go_wp2_with fail
        go_roundg (gk - 1)
        case measure => clear w5'; have := HI.out; have := HLT.out; omega
        case rel => exact ⟨i + 1, by first | rfl | simp [w5'], ⟨by clear w5'; have := HI.out; have := HLT.out; omega⟩, ⟨((((HR.out.set g (i * 4) _).set g (i * 4 + 1) _).set g (i * 4 + 2) _).set g (i * 4 + 3) _), ((((HX.out.set (p := ⟨g, i * 4, none⟩) HGM.out _).set (p := ⟨g, i * 4 + 1, none⟩) HGM.out _).set (p := ⟨g, i * 4 + 2, none⟩) HGM.out _).set (p := ⟨g, i * 4 + 3, none⟩) HGM.out _)⟩⟩
       ·have q1 : ((i : Int) < (qa.wins.length : Int)) = False := eq_false (by omega)
        have q2 : (i < qa.wins.length) = False := eq_false hin
        have HXF := Lib.hid HX.out
        have HR4 := Lib.hid HR.out
        clear hin
        go_wp2_with fail
        clear x0 x1 x2 x3 x4 x5 x6 x7 x8 x9 x10 x11 x12 x13 q1 q2 HX HR HI
        go_loopg [10] qa.crons.length (fun gg v wr => ∃ i : Nat, v = .int .i64 i ∧ Aside0 (i + gg = qa.crons.length) ∧ Aside0 (Rows4 w3.heap.size qa wr ∧ Ex qa.foot w12 wr))
        case atStart => exact ⟨0, rfl, ⟨by omega⟩, ⟨HR4.out, HXF.out⟩⟩
        case round =>
         obtain ⟨i, rfl, hi, hQ⟩ := hrel
         have HI := Lib.hid hi.out
         have HR := Lib.hid hQ.out.1
         have HX := Lib.hid hQ.out.2
         clear hi hQ HXF HR4
         have KAr := Lib.hid ((HX.out.block gA (blk_lt KA12.out) fun hm => by have := HFT.out _ hm; have := HSZ.out; omega).trans KA12.out)
         obtain ⟨⟨x0, x1, x2, x3, x4, x5, x6, x7, x8, x9, x10, x11, x12, x13⟩, -⟩ := plan_at KAr.out
         by_cases hin : i < qa.crons.length
         ·obtain ⟨g, ea, hc⟩ := HR.out.c.cell hin
          have HGM := Lib.hid (show g ∈ qa.foot from List.mem_append_right _ (rows_c (by rw [ea]; rfl)))
          rw [ea] at x7
          obtain ⟨⟨u0, hu0⟩, hf0⟩ := hc 0 (by decide)
          obtain ⟨⟨u1, hu1⟩, hf1⟩ := hc 1 (by decide)
          obtain ⟨⟨u2, hu2⟩, hf2⟩ := hc 2 (by decide)
          obtain ⟨⟨u3, hu3⟩, hf3⟩ := hc 3 (by decide)
          obtain ⟨⟨u4, hu4⟩, hf4⟩ := hc 4 (by decide)
          have c0 : wr.cell? ⟨g, i * 5, none⟩ = some u0 := hu0
          have f0 : wr.frozen? ⟨g, i * 5, none⟩ = false := hf0
          have c1 : wr.cell? ⟨g, i * 5 + 1, none⟩ = some u1 := hu1
          have f1 : wr.frozen? ⟨g, i * 5 + 1, none⟩ = false := hf1
          have c2 : wr.cell? ⟨g, i * 5 + 2, none⟩ = some u2 := hu2
          have f2 : wr.frozen? ⟨g, i * 5 + 2, none⟩ = false := hf2
          have c3 : wr.cell? ⟨g, i * 5 + 3, none⟩ = some u3 := hu3
          have f3 : wr.frozen? ⟨g, i * 5 + 3, none⟩ = false := hf3
          have c4 : wr.cell? ⟨g, i * 5 + 4, none⟩ = some u4 := hu4
          have f4 : wr.frozen? ⟨g, i * 5 + 4, none⟩ = false := hf4
          have haz : (⟨g, 0, none⟩ : Addr).add (i * 5) = ⟨g, i * 5, none⟩ := addr_at _ _
          have q0 := eq_true (show (0 : Int) ≤ (i : Int) by omega)
          have q1 : ((i : Int) < (qa.crons.length : Int)) = True := eq_true (by omega)
          have q2 : (i < qa.crons.length) = True := eq_true hin
          have w5' : wrap64 ((i : Int) + 1) = ((i + 1 : Nat) : Int) := by have := HLNc.out; unfold wrap64; omega
          have HLT := Lib.hid hin
          clear hc hin ea hu0 hf0 hu1 hf1 hu2 hf2 hu3 hf3 hu4 hf4
          go_wp2_with fail
          go_roundg (gk - 1)
          case measure => clear w5'; have := HI.out; have := HLT.out; omega
          case rel => exact ⟨i + 1, by first | rfl | simp [w5'], ⟨by clear w5'; have := HI.out; have := HLT.out; omega⟩, ⟨(((((HR.out.set g (i * 5) _).set g (i * 5 + 1) _).set g (i * 5 + 2) _).set g (i * 5 + 3) _).set g (i * 5 + 4) _), (((((HX.out.set (p := ⟨g, i * 5, none⟩) HGM.out _).set (p := ⟨g, i * 5 + 1, none⟩) HGM.out _).set (p := ⟨g, i * 5 + 2, none⟩) HGM.out _).set (p := ⟨g, i * 5 + 3, none⟩) HGM.out _).set (p := ⟨g, i * 5 + 4, none⟩) HGM.out _)⟩⟩
         ·have q1 : ((i : Int) < (qa.crons.length : Int)) = False := eq_false (by omega)
          have q2 : (i < qa.crons.length) = False := eq_false hin
          have HXF := Lib.hid HX.out
          have HR4 := Lib.hid HR.out
          clear hin
          go_wp2_with fail
          clear x0 x1 x2 x3 x4 x5 x6 x7 x8 x9 x10 x11 x12 x13 q1 q2 HX HR HI
          go_loopg [11] qa.mets.length (fun gg v wr => ∃ i : Nat, v = .int .i64 i ∧ Aside0 (i + gg = qa.mets.length) ∧ Aside0 (Rows4 w3.heap.size qa wr ∧ Ex qa.foot w12 wr))
          case atStart => exact ⟨0, rfl, ⟨by omega⟩, ⟨HR4.out, HXF.out⟩⟩
          case round =>
           obtain ⟨i, rfl, hi, hQ⟩ := hrel
           have HI := Lib.hid hi.out
           have HR := Lib.hid hQ.out.1
           have HX := Lib.hid hQ.out.2
           clear hi hQ HXF HR4
           have KAr := Lib.hid ((HX.out.block gA (blk_lt KA12.out) fun hm => by have := HFT.out _ hm; have := HSZ.out; omega).trans KA12.out)
           obtain ⟨⟨x0, x1, x2, x3, x4, x5, x6, x7, x8, x9, x10, x11, x12, x13⟩, -⟩ := plan_at KAr.out
           by_cases hin : i < qa.mets.length
           ·obtain ⟨g, ea, hc⟩ := HR.out.m.cell hin
            have HGM := Lib.hid (show g ∈ qa.foot from List.mem_append_right _ (rows_m (by rw [ea]; rfl)))
            rw [ea] at x0
            obtain ⟨⟨u0, hu0⟩, hf0⟩ := hc 0 (by decide)
            have c0 : wr.cell? ⟨g, i, none⟩ = some u0 := by rw [← hu0, Nat.mul_one]; rfl
            have f0 : wr.frozen? ⟨g, i, none⟩ = false := by rw [← hf0, Nat.mul_one]; rfl
            have haz : (⟨g, 0, none⟩ : Addr).add i = ⟨g, i, none⟩ := addr_at _ _
            have q0 := eq_true (show (0 : Int) ≤ (i : Int) by omega)
            have q1 : ((i : Int) < (qa.mets.length : Int)) = True := eq_true (by omega)
            have q2 : (i < qa.mets.length) = True := eq_true hin
            have w5' : wrap64 ((i : Int) + 1) = ((i + 1 : Nat) : Int) := by have := HLNm.out; unfold wrap64; omega
            have HLT := Lib.hid hin
            clear hc hin ea hu0 hf0
            go_wp2_with fail
            go_roundg (gk - 1)
            case measure => clear w5'; have := HI.out; have := HLT.out; omega
            case rel => exact ⟨i + 1, by first | rfl | simp [w5'], ⟨by clear w5'; have := HI.out; have := HLT.out; omega⟩, ⟨(HR.out.set g (i) _), (HX.out.set (p := ⟨g, i, none⟩) HGM.out _)⟩⟩
           ·have q1 : ((i : Int) < (qa.mets.length : Int)) = False := eq_false (by omega)
            have q2 : (i < qa.mets.length) = False := eq_false hin
            have HXF := Lib.hid HX.out
            have HR4 := Lib.hid HR.out
            clear hin
            clear HX HR HI
            obtain ⟨xs, hown⟩ := HR4.out.g
            have HO := Lib.hid hown
            have HCN := Lib.hid (cells_new wr [.int .i64 0, .int .i64 0, .int .i64 0, .slice none 0 0, .int .i64 0, .int .i64 0, .int .i64 0, .slice none 0 0] 60)
            have HCW := Lib.hid fun w3 : World => cells_new w3 [.int .i64 0, .int .i64 0, .int .i64 0, .int .i64 0] 62
            have hlg := HLMg.out
            have hlw := HLMw.out
            have hsr : w3.heap.size ≤ wr.heap.size := by have := HSZ.out; have := HXF.out.size; omega
            have HSR := Lib.hid hsr
            clear hown
            go_wp2_with (first
             | (
              at_builtin
              refine wpList_append_own_at _ rfl _ _ 51 rfl w3.heap.size 60 i0 (.agg #[.int .i64 0, .int .i64 0, .int .i64 0, .slice none 0 0, .int .i64 0, .int .i64 0, .int .i64 0, .slice none 0 0]) 8 96 Tryd.underlying51 hi hz0 hz1 hz2 rfl (by decide) _ qa.guards.length _ rfl (HO.out.alloc _) ⟨wr.heap.size, 0, none⟩ 1 1 [.int .i64 0, .int .i64 0, .int .i64 0, .slice none 0 0, .int .i64 0, .int .i64 0, .int .i64 0, .slice none 0 0] rfl rfl HCN.out (fun u hu => by simp only [List.mem_cons, List.not_mem_nil, or_false] at hu; rcases hu with rfl | rfl | rfl | rfl | rfl | rfl | rfl | rfl <;> rfl) (by simp only [maxLen]; omega) (by omega) (by simp; omega) ?_
              intro v' wN hown' hgrow' hnil' hat'
              obtain ⟨gn, cn, rfl⟩ := own_form hown'
              have XE : Aside0 (Ex qa.foot w12 wN) := ⟨(HXF.out.trans (Ex.of_below (below_alloc (Below.refl _ _) _))).trans (Ex.of_grown hgrow' fun b hb => List.mem_append_right _ (rows_g hb))⟩
              have XW : Aside0 (Own w3.heap.size wN 62 4 (.slice qa.wa qa.wins.length qa.wcap) qa.wins.length) := ⟨by
               obtain ⟨ys, hy⟩ := HR4.out.w_
               refine ⟨ys, (hy.alloc _).kept hgrow' ?_⟩
               exact own_ne hy HO.out (by decide)⟩
              have XK : Aside0 (wN.heap[gA]? = some (.cells #[.slice qa.ma qa.mets.length qa.mcap, .int .i64 qa.r0, .int .i64 qa.r1, .int .i64 qa.r2, .int .i64 qa.r3, .int .i64 qa.r4, .slice qa.wa qa.wins.length qa.wcap, .slice qa.ca qa.crons.length qa.ccap, .int .i64 qa.locals, .slice qa.ga qa.guards.length qa.gcap, .int .i64 qa.fin.op, .int .i64 qa.fin.n, .int .i64 qa.fin.m, .slice qa.fin.at_ qa.fin.kids.length qa.fin.cap] 53 (0, 0))) := ⟨(XE.out.block gA (blk_lt KA12.out) fun hm => by have := HFT.out _ hm; have := HSZ.out; omega).trans KA12.out⟩
              have a9 := (plan_at XK.out).1.2.2.2.2.2.2.2.2.2.1
              have a6 := (plan_at XK.out).1.2.2.2.2.2.2.1
              have g9 := (plan_at XK.out).2.2.2.2.2.2.2.2.2.2.1
              have hsN : w3.heap.size ≤ wN.heap.size := by have := HSZ.out; have := XE.out.size; omega
              have lA : gA < wN.heap.size := blk_lt XK.out
              have nA0 : ¬ gA = wN.heap.size := by omega
              have nA1 : ¬ wN.heap.size = gA := by omega
              clear hown' hgrow' hnil' hat' x0 x1 x2 x3 x4 x5 x6 x7 x8 x9 x10 x11 x12 x13)
             | (
              at_builtin
              refine wpList_append_own_at _ rfl _ _ 49 rfl w3.heap.size 62 i1 (.agg #[.int .i64 0, .int .i64 0, .int .i64 0, .int .i64 0]) 4 32 Tryd.underlying49 hj hy0 hy1 hy2 rfl (by decide) _ qa.wins.length _ rfl ((XW.out.set gA 9 (.slice (some ⟨gn, 0, none⟩) (qa.guards.length + 1) cn)).choose_spec.alloc _) ⟨wN.heap.size, 0, none⟩ 1 1 [.int .i64 0, .int .i64 0, .int .i64 0, .int .i64 0] rfl rfl (by have h := HCW.out (wN.setCell ⟨gA, 9, none⟩ (.slice (some ⟨gn, 0, none⟩) (qa.guards.length + 1) cn)); rw [World.size_setCell] at h; exact h) (fun u hu => by simp only [List.mem_cons, List.not_mem_nil, or_false] at hu; rcases hu with rfl | rfl | rfl | rfl <;> rfl) (by simp only [maxLen]; omega) (by omega) (by simp; omega) ?_
              intro v2 wM hown2 hgrow2 hnil2 hat2
              obtain ⟨gm, cm, rfl⟩ := own_form hown2
              have XM : Aside0 (Ex (gA :: qa.foot) w12 wM) := ⟨(((XE.out.mono fun b hb => List.mem_cons_of_mem _ hb).set (p := ⟨gA, 9, none⟩) (List.mem_cons_self ..) (.slice (some ⟨gn, 0, none⟩) (qa.guards.length + 1) cn)).trans (Ex.of_below (below_alloc (Below.refl _ _) _))).trans (Ex.of_grown hgrow2 fun b hb => List.mem_cons_of_mem _ (List.mem_append_right _ (rows_w hb)))⟩
              have hfar (g : Nat) (hg : g < w3.heap.size ∨ w5.heap.size ≤ g) : g ∉ gA :: qa.foot := fun hm => by
               have := HSZ.out
               rcases List.mem_cons.1 hm with e | hm
               ·omega
               ·have := HFT.out _ hm
                omega
              have XKM : Aside0 (wM.heap[gA]? = some (.cells (#[.slice qa.ma qa.mets.length qa.mcap, .int .i64 qa.r0, .int .i64 qa.r1, .int .i64 qa.r2, .int .i64 qa.r3, .int .i64 qa.r4, .slice qa.wa qa.wins.length qa.wcap, .slice qa.ca qa.crons.length qa.ccap, .int .i64 qa.locals, .slice qa.ga qa.guards.length qa.gcap, .int .i64 qa.fin.op, .int .i64 qa.fin.n, .int .i64 qa.fin.m, .slice qa.fin.at_ qa.fin.kids.length qa.fin.cap].setIfInBounds 9 (.slice (some ⟨gn, 0, none⟩) (qa.guards.length + 1) cn)) 53 (0, 0))) := ⟨(hgrow2.block gA (by simp; omega) (fun e => by have := HFT.out gA (List.mem_append_right _ (rows_w e.symm)); have := HSZ.out; omega)).trans (blk_alloc (blk_set XK.out 9 (.slice (some ⟨gn, 0, none⟩) (qa.guards.length + 1) cn)) _)⟩
              have c6 := (blk_cell XKM.out 6).trans rfl
              have h6 := blk_frozen XKM.out 6
              have XP : Aside0 (wM.heap[gP]? = some (.cells #[.slice p.ma p.mets.length p.mcap, .int .i64 p.r0, .int .i64 p.r1, .int .i64 p.r2, .int .i64 p.r3, .int .i64 p.r4, .slice p.wa p.wins.length p.wcap, .slice p.ca p.crons.length p.ccap, .int .i64 p.locals, .slice p.ga p.guards.length p.gcap, .int .i64 p.fin.op, .int .i64 p.fin.n, .int .i64 p.fin.m, .slice p.fin.at_ p.fin.kids.length p.fin.cap] 53 (0, 0)) ∧ wM.heap[gB]? = some (.cells #[.slice qb.ma qb.mets.length qb.mcap, .int .i64 qb.r0, .int .i64 qb.r1, .int .i64 qb.r2, .int .i64 qb.r3, .int .i64 qb.r4, .slice qb.wa qb.wins.length qb.wcap, .slice qb.ca qb.crons.length qb.ccap, .int .i64 qb.locals, .slice qb.ga qb.guards.length qb.gcap, .int .i64 qb.fin.op, .int .i64 qb.fin.n, .int .i64 qb.fin.m, .slice qb.fin.at_ qb.fin.kids.length qb.fin.cap] 53 (0, 0)) ∧ wM.heap[gC]? = some (.cells #[.slice qc.ma qc.mets.length qc.mcap, .int .i64 qc.r0, .int .i64 qc.r1, .int .i64 qc.r2, .int .i64 qc.r3, .int .i64 qc.r4, .slice qc.wa qc.wins.length qc.wcap, .slice qc.ca qc.crons.length qc.ccap, .int .i64 qc.locals, .slice qc.ga qc.guards.length qc.gcap, .int .i64 qc.fin.op, .int .i64 qc.fin.n, .int .i64 qc.fin.m, .slice qc.fin.at_ qc.fin.kids.length qc.fin.cap] 53 (0, 0))) := ⟨(XM.out.block gP (blk_lt K12.out) (hfar gP (by have := HSZ.out; omega))).trans K12.out, (XM.out.block gB (blk_lt KB12.out) (hfar gB (by have := HSZ.out; omega))).trans KB12.out, (XM.out.block gC (blk_lt KC12.out) (hfar gC (by have := HSZ.out; omega))).trans KC12.out⟩
              obtain ⟨⟨x0, x1, x2, x3, x4, x5, x6, x7, x8, x9, x10, x11, x12, x13⟩, -⟩ := plan_at XP.out.1
              obtain ⟨⟨y0, y1, y2, y3, y4, y5, y6, y7, y8, y9, y10, y11, y12, y13⟩, -⟩ := plan_at XP.out.2.1
              have m0 : ¬ gP = gA := by have := HSZ.out; omega
              have m1 : ¬ gB = gA := by have := HSZ.out; omega
              have m2 : ¬ gA = gP := by have := HSZ.out; omega
              have m3 : ¬ gA = gB := by have := HSZ.out; omega
              clear hown2 hgrow2 hnil2 hat2 hfar a9 a6 g9 hsN lA nA0 nA1))
            generalize hwF : World.setCell wM _ _ = wF
            have XF := Lib.hid (show Ex (gA :: qa.foot) w12 wF by
             rw [← hwF]
             exact XM.out.set (p := ⟨gA, 6, none⟩) (List.mem_cons_self ..) _)
            have hks : ∀ k ∈ gA :: qa.foot, w3.heap.size ≤ k ∧ k < w5.heap.size := fun k hk => by
             have := HSZ.out
             rcases List.mem_cons.1 hk with e | hk
             ·omega
             ·have := HFT.out k hk
              omega
            have BF := Lib.hid (B12.out.trans (XF.out.below (n := w.heap.size) (fun k hk => Nat.le_trans B3.out.size (hks k hk).1) B12.out.size))
            have HNBF := Lib.hid (HNB12.out.ex XF.out fun b hb => .inl (hks b hb).2)
            have HNCF := Lib.hid (HNC12.out.ex XF.out fun b hb => .inl (by have := (hks b hb).2; have := HSZ.out; omega))
            have KPF := Lib.hid ((XF.out.block gP (blk_lt K12.out) (fun hm => by have := (hks _ hm).1; have := HSZ.out; omega)).trans K12.out)
            have KCF := Lib.hid ((XF.out.block gC (blk_lt KC12.out) (fun hm => by have := (hks _ hm).2; have := HSZ.out; omega)).trans KC12.out)
            clear hwF hks x0 x1 x2 x3 x4 x5 x6 x7 x8 x9 x10 x11 x12 x13 y0 y1 y2 y3 y4 y5 y6 y7 y8 y9 y10 y11 y12 y13 m0 m1 m2 m3 c6 h6
            refine (samePlan_calls (HNBF.out.planL HSB.out HP.out) (HP.out.below BF.out) HSB.out).mono ?_
            rintro e w14 ⟨rfl, b14⟩
            have B14 := Lib.hid (BF.out.trans (b14.mono BF.out.size))
            have HNC14 := Lib.hid (HNCF.out.below b14)
            obtain ⟨⟨x0, x1, x2, x3, x4, x5, x6, x7, x8, x9, x10, x11, x12, x13⟩, -⟩ := plan_at (blk_below KPF.out b14)
            obtain ⟨⟨y0, y1, y2, y3, y4, y5, y6, y7, y8, y9, y10, y11, y12, y13⟩, -⟩ := plan_at (blk_below KCF.out b14)
            clear b14
            go_wp2_with fail
            clear x0 x1 x2 x3 x4 x5 x6 x7 x8 x9 x10 x11 x12 x13 y0 y1 y2 y3 y4 y5 y6 y7 y8 y9 y10 y11 y12 y13
            refine (samePlan_calls (HNC14.out.planL HSC.out HP.out) (HP.out.below B14.out) HSC.out).mono ?_
            rintro e w15 ⟨rfl, b15⟩
            go_wp2_with fail
            go_ret
            exact ⟨rfl, B14.out.trans (b15.mono B14.out.size)⟩
end Go.Proofs.YtpljkcakijkklaaDoor

end
